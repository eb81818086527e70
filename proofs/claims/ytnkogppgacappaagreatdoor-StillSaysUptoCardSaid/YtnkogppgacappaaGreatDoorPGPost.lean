/- slices.Reverse of a row of numbers of the call's own. graph.Post and graph.OrderOf. -/
import Derived.Test.YtnkogppgacappaaGreatDoorPFour
import Derived.Test.YtnkogppgacappaaGreatDoorPGlobs
import Derived.BigRegion
import Derived.Test.YtnkogppgacappaaGreatDoorPPost
import Derived.Test.YtnkogppgacappaaGreatDoorPTid0
namespace Go.Proofs.YtnkogppgacappaaGreatDoor
open Go.RowKit

def mixF(l:List Int)(k p:Nat):Int:=if p<k∨l.length≤p+k then l.getD (l.length - 1 - p) 0 else l.getD p 0
structure RvSt (w:World)(g:Nat)(T:TypeId)(C:Nat)(l:List Int)(k:Nat)(W:World):Prop where
 grown:w.grownBy W (some g)
 row:∃cur,W.heap[g]?=some (.cells cur T (0,0))∧cur.size=C∧∀p,p<l.length→cur[p]?=some (.int .i64 (mixF l k p))

theorem RvSt.turn {w:World}{g:Nat}{T:TypeId}{C:Nat}{l:List Int}{k:Nat}{W:World}(h:RvSt w g T C l k W)(hk:k+k+1<l.length) :
 RvSt w g T C l (k+1) ((W.setCell ⟨g,k,none⟩ (.int .i64 (mixF l k (l.length - 1 - k)))).setCell ⟨g,l.length - 1 - k,none⟩ (.int .i64 (mixF l k k))):=by
 obtain⟨cur,h1,h2,h3⟩:=h.row;have gs:∀(V:World) (j:Nat) (u:Value),V.grownBy (V.setCell ⟨g,j,none⟩ u) (some g):=fun V j u =>
  ⟨rfl,rfl,rfl,by simp [World.setCell],fun b _ hb=>Below.heap_setCell _ _ _ _ (fun e=>hb (by rw [e]))⟩
 refine⟨(h.grown.trans (gs _ _ _)).trans (gs _ _ _),_,heap_set_row (heap_set_row h1 _) _,by simp [h2],fun p hp=>?_⟩;have hc:p<cur.size:=by
  have:=h3 p hp;exact (Array.getElem?_eq_some_iff.1 this).1
 rw [Array.getElem?_setIfInBounds,Array.getElem?_setIfInBounds]
 by_cases h4:l.length - 1 - k=p
 · rw [if_pos h4,if_pos (by simpa using (by omega:l.length - 1 - k<cur.size))]
   congr 2
   unfold mixF;rw [if_neg (by omega),if_pos (by omega)]
   congr 1
   omega
 · rw [if_neg h4]
   by_cases h5:k=p
   · rw [if_pos h5,if_pos (by omega)]
     congr 2
     unfold mixF;rw [if_neg (by omega),if_pos (by omega)]
     congr 1
     omega
   · rw [if_neg h5,h3 p hp]
     congr 2
     unfold mixF
     by_cases h6:p<k∨l.length≤p+k
     · rw [if_pos h6,if_pos (by omega)]
     · rw [if_neg h6,if_neg (by omega)]

theorem RvSt.drew {w:World}{g:Nat}{T:TypeId}{C:Nat}{l:List Int}{k:Nat}{W:World}(h:RvSt w g T C l k W):RvSt w g T C l k W.drew :=
 ⟨⟨h.grown.os,h.grown.tape,h.grown.output,h.grown.size,h.grown.block⟩,h.row⟩

set_option maxRecDepth 100000 in
set_option maxHeartbeats 4000000 in
theorem reverse_any(g n cap:Nat)(T:TypeId)(C:Nat)(l:List Int)(w:World)(h0:RvSt w g T C l 0 w)(hl:l.length=n)(hn:n≤1048576) :
 Calls Tryz.prog 112 #[.slice (some ⟨g,0,none⟩) n cap] w fun e w'=>e = .returned (.tuple #[])∧∃k,n≤k+k+1∧k≤n∧RvSt w g T C l k w':=by
 have H0:=hid h0;have Hl:=hid hl;clear h0 hl;go_enter Tryz.func112,Tryz.ntmps112;go_wp2_with fail;go_loopw [2,3] (fun s2 s3 wr=>∃(k:Nat),k+k≤n+1∧k≤n∧s2 = .int .i64 (k:Int)∧s3 = .int .i64 ((n:Int) - 1 - k)∧RvSt w g T C l k wr) (fun s2 _ _=>n - (intOf s2).toNat)
 case atStart=>exact⟨0,by omega,by omega,rfl,by simp,H0.out⟩
 case round =>
  obtain⟨k,hk,hkn,rfl,rfl,hst⟩:=hrel
  by_cases hlt:k+k+1<n
  · obtain⟨j,hj⟩:∃j,j=n - 1 - k:=⟨_,rfl⟩
    have e0:(n:Int) - 1 - k=(j:Int):=by omega
    rw [e0];obtain⟨cur,h1,h2,h3⟩:=hst.row;have c0:wr.cell? ⟨g,k,none⟩=some (.int .i64 (mixF l k k)):=by rw [cell_row h1];exact h3 k (by rw [Hl.out];omega)
    have c1:wr.cell? ⟨g,j,none⟩=some (.int .i64 (mixF l k j)):=by rw [cell_row h1];exact h3 j (by rw [Hl.out];omega)
    have f0:∀i,wr.frozen? ⟨g,i,none⟩=false:=fun i=>by simp [World.frozen?,h1]
    have f1:=f0 k;have f2:=f0 j;have Hst:=hid hst;have hkj:k≠j:=by omega
    have hkl:k<j:=by omega
    have hkn':k<n:=by omega
    have hjn:j<n:=by omega
    have Hj:=hid hj;obtain⟨x,hx⟩:∃x,x=mixF l k k:=⟨_,rfl⟩
    obtain⟨y,hy⟩:∃y,y=mixF l k j:=⟨_,rfl⟩
    rw [←hx] at c0;rw [←hy] at c1;have Hx:=hid hx;have Hy:=hid hy;clear hst h1 h2 h3 f0 hj hx hy e0;go_wp2_with fail;go_big_region
    all_goals
     have hnx:RvSt w g T C l (k+1) ((wr.setCell ⟨g,k,none⟩ (.int .i64 y)).setCell ⟨g,j,none⟩ (.int .i64 x)).drew:=by
      have h:=Hst.out.turn (by rw [Hl.out];omega);rw [Hl.out,←Hj.out,←Hx.out,←Hy.out] at h;exact h.drew
     have Hnx:=hid hnx;clear hnx;go_wp2_with fail;go_roundw
     case rel=>exact⟨k+1,by omega,by omega,by go_num,by have:=Hj.out;congr 1;omega,Hnx.out⟩
     case measure=>simp [intOf];omega
  · have Hst:=hid hst
    have q:decide ((k:Int)<(n:Int) - 1 - k)=false:=decide_eq_false (by omega);clear hst;go_wp2_with fail;go_end0;exact⟨rfl,k,by omega,hkn,Hst.out⟩

theorem mixF_end {l:List Int}{k:Nat}(hk:l.length≤k+k+1){p:Nat}(hp:p<l.length):l.reverse[p]?=some (mixF l k p):=by
 rw [List.getElem?_reverse hp];have e:∀i,i<l.length→l[i]?=some (l.getD i 0):=fun i hi=>by rw [List.getD_eq_getElem?_getD,List.getElem?_eq_getElem hi];rfl
 unfold mixF
 by_cases h:p<k∨l.length≤p+k
 · rw [if_pos h,e _ (by omega)]
 · rw [if_neg h,show l.length - 1 - p=p by omega,e _ hp]

set_option maxRecDepth 100000 in
set_option maxHeartbeats 2000000 in
theorem reverse_own(base:Nat)(v:Value)(l:List Int)(w:World)(h:OwnInts base w v l)(hn:l.length≤1048576) :
 Calls Tryz.prog 112 #[v] w fun e w'=>e = .returned (.tuple #[])∧OwnInts base w' v l.reverse∧w.grownBy w' v.ownBlock:=by
 obtain⟨⟨h1,h2⟩,h3⟩:=h;rcases h2 with⟨rfl,hl⟩ | ⟨g,cap,cur,rfl,hg,hgg,hnc,hm,hsz,htk⟩
 · obtain rfl:l=[]:=List.length_eq_zero_iff.1 hl
   have Hown:Hid (OwnInts base w (.slice none 0 0) []):=OwnInts.nil base w;clear h1 h3 hl hn;go_enter Tryz.func112,Tryz.ntmps112;go_wp2_with fail;go_loopw [2,3] (fun s2 s3 wr=>s2 = .int .i64 0∧s3 = .int .i64 (-1)∧wr=w) (fun _ _ _=>0)
   case atStart=>exact⟨rfl,rfl,rfl⟩
   case round =>
    obtain⟨rfl,rfl,rfl⟩:=hrel;go_wp2_with fail;go_end0;exact⟨rfl,Hown.out,⟨rfl,rfl,rfl,Nat.le_refl _,fun _ _ _=>rfl⟩⟩
 · have hcells:∀p (hp:p<l.length),cur[p]?=some (.int .i64 l[p]):=fun p hp=>by
    have h:(cur.toList.take (l.length * 1))[p]?=(l.map fun x=>Value.int .i64 x)[p]?:=by rw [htk]
    rw [List.getElem?_take_of_lt (by omega),List.getElem?_map,List.getElem?_eq_getElem hp] at h;simpa using h
   have h0 : RvSt w g 3 cur.size l 0 w := ⟨⟨rfl, rfl, rfl, Nat.le_refl _, fun _ _ _ => rfl⟩, cur, hgg, rfl, fun p hp => by
    rw [hcells p hp]
    unfold mixF
    rw [if_neg (by omega), List.getD_eq_getElem?_getD, List.getElem?_eq_getElem hp]; rfl⟩
   refine (reverse_any g l.length cap 3 cur.size l w h0 rfl hn).mono ?_;rintro e w' ⟨rfl,k,hk1,-,hst⟩;obtain⟨cur',q1,q2,q3⟩:=hst.row;refine⟨rfl,⟨⟨by simp,.inr ⟨g,cap,cur',by rw [List.length_reverse],hg,q1,by rw [List.length_reverse];exact hnc,hm,by rw [q2];exact hsz,?_⟩⟩,fun x hx=>h3 x (List.mem_reverse.1 hx)⟩,hst.grown⟩;refine List.ext_getElem? fun p=>?_;rw [List.length_reverse,Nat.mul_one,List.getElem?_map]
   by_cases hp:p<l.length
   · rw [List.getElem?_take_of_lt hp,mixF_end hk1 hp,Array.getElem?_toList,q3 p hp];rfl
   · rw [List.getElem?_eq_none (by rw [List.length_take];omega),List.getElem?_eq_none (by rw [List.length_reverse];omega)];rfl

end Go.Proofs.YtnkogppgacappaaGreatDoor

namespace Go.Proofs.YtnkogppgacappaaGreatDoor
open Go.RowKit

theorem OwnInts.low {base base':Nat}{w:World}{v:Value}{l:List Int}(h:OwnInts base w v l)(hb:base'≤base):OwnInts base' w v l:=by
 refine⟨⟨h.1.1,?_⟩,h.2⟩;rcases h.1.2 with h1 | ⟨g,cap,cur,e1,h2,h3⟩
 · exact .inl h1
 · exact .inr ⟨g,cap,cur,e1,Nat.le_trans hb h2,h3⟩

@[go_sem] theorem run_store_fn(P:Program)(w:World)(a:Addr)(m:Mode)(fn:Fn)(first captured:Array Value):(store a (.func fn first captured) m).run P w=stored P w a (.func fn first captured) m:=run_store P w a _ m rfl

theorem heap_five(w:World)(a b c d e:Obj):(((((w.alloc a).alloc b).alloc c).alloc d).alloc e).heap.size=w.heap.size+5∧(((((w.alloc a).alloc b).alloc c).alloc d).alloc e).heap[w.heap.size]?=some a∧(((((w.alloc a).alloc b).alloc c).alloc d).alloc e).heap[w.heap.size+1]?=some b ∧
 (((((w.alloc a).alloc b).alloc c).alloc d).alloc e).heap[w.heap.size+1+1]?=some c∧(((((w.alloc a).alloc b).alloc c).alloc d).alloc e).heap[w.heap.size+1+1+1]?=some d∧(((((w.alloc a).alloc b).alloc c).alloc d).alloc e).heap[w.heap.size+1+1+1+1]?=some e:=by
 have hs:∀(v:World) (o:Obj),(v.alloc o).heap.size=v.heap.size+1:=fun v o=>by simp
 have s1:=hs w a;have s2:=hs (w.alloc a) b;have s3:=hs ((w.alloc a).alloc b) c;have s4:=hs (((w.alloc a).alloc b).alloc c) d;have s5:=hs ((((w.alloc a).alloc b).alloc c).alloc d) e;have e1:=heap_alloc_new w a;have e2:=heap_alloc_new (w.alloc a) b;have e3:=heap_alloc_new ((w.alloc a).alloc b) c;have e4:=heap_alloc_new (((w.alloc a).alloc b).alloc c) d;have e5:=heap_alloc_new ((((w.alloc a).alloc b).alloc c).alloc d) e;rw [s1] at e2;rw [s2,s1] at e3;rw [s3,s2,s1] at e4;rw [s4,s3,s2,s1] at e5;refine⟨by omega,?_,?_,?_,?_,e5⟩
 · rw [Below.heap_alloc _ _ _ (by omega),Below.heap_alloc _ _ _ (by omega),Below.heap_alloc _ _ _ (by omega),Below.heap_alloc _ _ _ (by omega)];exact e1
 · rw [Below.heap_alloc _ _ _ (by omega),Below.heap_alloc _ _ _ (by omega),Below.heap_alloc _ _ _ (by omega)];exact e2
 · rw [Below.heap_alloc _ _ _ (by omega),Below.heap_alloc _ _ _ (by omega)];exact e3
 · rw [Below.heap_alloc _ _ _ (by omega)];exact e4

set_option maxRecDepth 100000 in
set_option maxHeartbeats 2000000 in
theorem post_any {S:Nat→Prop}(nm:ByteArray)(p r:Int)(ba:Option Addr)(n bc:Nat)(bs:List DBlock)(w:World)(hb:SlAt S w 6 rBlock (.slice ba n bc) bs)(hS:∀b,S b→b<w.heap.size)(hbn:bs.length=n)(hn:n≤1048576)(hto:ToOk bs) :
 Calls Tryz.prog 111 #[.agg #[.string nm,.int .i64 p,.int .i64 r,.slice ba n bc]] w fun e w' =>
  ∃v,e = .returned v∧OwnInts w.heap.size w' v (postF bs)∧Below w.heap.size w w':=by
 have Hb:=hid hb;have Hbn:=hid hbn;have Hto:=hid hto;have HS:=hid hS;have hn0:0<n:=by rw [←hbn];exact hto.pos
 clear hb hbn hto hS;have hmk:=run_make_row' (P:=Tryz.prog) 66 4 (.bool false) 1 Tryz.underlying66 infoBool rfl .i64 .i64 n (by omega) (by omega);go_enter Tryz.func111,Tryz.ntmps111;go_wp2_with fail;obtain⟨W,hW⟩:∃W,W=(((((w.alloc (.cells #[.string nm,.int .i64 p,.int .i64 r,.slice ba n bc] 38)).alloc (.cells #[.slice none 0 0] 33)).alloc (.cells (madeCells #[.bool false] n) 4)).alloc (.cells #[.slice (some ⟨w.heap.size+1+1,0,none⟩) n n] 66)).alloc (.cells #[.func (.func 133) #[] #[.pointer (some ⟨w.heap.size+1+1+1,0,none⟩),.pointer (some ⟨w.heap.size,0,none⟩),.pointer (some ⟨w.heap.size+1+1+1+1,0,none⟩),.pointer (some ⟨w.heap.size+1,0,none⟩)]] 187)):=⟨_,rfl⟩
 rw [←hW];have hbW:Below w.heap.size w W:=by rw [hW];(repeat (first | exact Below.refl _ _ | refine Below.alloc ?_ (by first|omega|(simp<;>omega)) _ | refine Below.setCell ?_ (by first|omega|(simp<;>omega)) _ | refine below_drewN ?_ _ | refine Below.drew ?_))
 obtain⟨hsW,h0F,hL,hO,h0S,h0V⟩:W.heap.size=w.heap.size+5∧W.heap[w.heap.size]?=_∧W.heap[w.heap.size+1]?=_∧W.heap[w.heap.size+1+1]?=_∧W.heap[w.heap.size+1+1+1]?=_∧W.heap[w.heap.size+1+1+1+1]?=_:=by rw [hW];exact heap_five _ _ _ _ _ _
 have cF:W.cell? ⟨w.heap.size,3,none⟩=some (.slice ba n bc):=by rw [cell_row h0F];rfl
 have cS:W.cell? ⟨w.heap.size+1+1+1,0,none⟩=some (.slice (some ⟨w.heap.size+1+1,0,none⟩) n n):=by rw [cell_row h0S];rfl
 have cV:W.cell? ⟨w.heap.size+1+1+1+1,0,none⟩=some (.func (.func 133) #[] #[.pointer (some ⟨w.heap.size+1+1+1,0,none⟩),.pointer (some ⟨w.heap.size,0,none⟩),.pointer (some ⟨w.heap.size+1+1+1+1,0,none⟩),.pointer (some ⟨w.heap.size+1,0,none⟩)]):=by rw [cell_row h0V];rfl
 rw [madeCells_rep,←List.map_replicate] at hO;have h0:PoSt W (w.heap.size+1+1) (w.heap.size+1) (w.heap.size+5) W (List.replicate n false,[]) (.slice none 0 0) :=
  ⟨by omega,fun _ _ _ _=>rfl,⟨rfl,rfl,rfl⟩,hO,hL,OwnInts.nil _ _⟩
 have HbW:=hid hbW
 have hvis := visit_any W (w.heap.size + 1 + 1) (w.heap.size + 1) (w.heap.size + 5) (w.heap.size + 1 + 1 + 1) w.heap.size (w.heap.size + 1 + 1 + 1 + 1) n ba bc bs
  ((Hb.out.later rBlock_mono hbW).mono rBlock_mono (fun b hb=>by have:=HS.out b hb;omega) (Stays.refl _ _)) Hbn.out hn (fun k x hx=>by rw [←Hbn.out];exact Hto.out.tgt k x hx)
  (by omega) (by omega) (by omega) (by omega) (by omega) (by omega) cS cF cV n 0 _ _ W h0 (by simp) (by dsimp only;rw [List.getElem?_replicate,if_pos hn0]) (by dsimp only;rw [List.count_replicate_self];exact Nat.le_refl _) (by dsimp only;rw [List.count_replicate_self];simp)
 clear hW hL hO h0 cF cS cV hbW h0F h0S h0V;refine hvis.mono ?_;rintro e W' ⟨⟨u,rfl⟩,v',hst,hvw⟩;have c0:=hst.left;have Hst:=hid hst;have Hvw:=hid hvw;clear hvis hst hvw hmk;go_wp2_with fail;go_ret;have hst:=Hst.out;refine⟨_,rfl,?_,?_⟩
 · have h:=hst.own.low (base':=w.heap.size) (by omega)
   unfold postF;rw [Hbn.out];exact h
 · have hb:=HbW.out
   have hz:=hst.size;exact⟨hst.env.1.trans hb.os,hst.env.2.1.trans hb.tape,hst.env.2.2.trans hb.output,by omega,fun k hk=>(hst.keep k (by omega) (by omega) (by omega)).trans (hb.block k hk)⟩

set_option maxHeartbeats 1000000 in
theorem orderOf_any {S:Nat→Prop}(nm:ByteArray)(p r:Int)(ba:Option Addr)(n bc:Nat)(bs:List DBlock)(w:World)(hb:SlAt S w 6 rBlock (.slice ba n bc) bs)(hS:∀b,S b→b<w.heap.size)(hbn:bs.length=n)(hn:n≤1048576)(hto:ToOk bs) :
 Calls Tryz.prog 75 #[.agg #[.string nm,.int .i64 p,.int .i64 r,.slice ba n bc]] w fun e w' =>
  ∃v,e = .returned v∧OwnInts w.heap.size w' v (ordL bs)∧Below w.heap.size w w':=by
 have Hb:=hid hb;have Hbn:=hid hbn;have Hto:=hid hto;have HS:=hid hS;have hlen:(postF bs).length≤1048576:=by have h:=ordN_le hto;rw [ordN_len] at h;omega
 have Hlen:=hid hlen;clear hb hbn hto hS hlen;go_enter Tryz.func75,Tryz.ntmps75
 go_wp2_with (first
  | (go_at_call 111; refine (post_any (S := S) nm p r ba n bc bs _ (Hb.out.later rBlock_mono (by (repeat (first | exact Below.refl _ _ | refine Below.alloc ?_ (by first|omega|(simp<;>omega)) _ | refine Below.setCell ?_ (by first|omega|(simp<;>omega)) _ | refine below_drewN ?_ _ | refine Below.drew ?_)))) (fun b hb => by have := HS.out b hb; simp; omega) Hbn.out hn Hto.out).mono ?_; rintro e w1 ⟨v, rfl, hv, hb1⟩
     obtain ⟨a, c, rfl⟩ := hv.shape
     have Hv := hid hv
     have hb1' : Below w.heap.size w w1 := by (have hz0 := (hb1).size; have hy0 := hz0; (try simp at hy0); repeat (first | exact Below.refl _ _ | refine Below.trans ?_ ((hb1).mono (by first|omega|(simp<;>omega))) | refine Below.alloc ?_ (by first|omega|(simp<;>omega)) _ | refine Below.setCell ?_ (by first|omega|(simp<;>omega)) _ | refine below_drewN ?_ _ | refine Below.drew ?_))
     have Hb1 := hid hb1'
     clear hv hb1 hb1')
  | (go_at_call 112; refine (reverse_own _ _ (postF bs) _ Hv.out Hlen.out).mono ?_; rintro e w2 ⟨rfl, hv2, hg2⟩
     have Hv2 := hid hv2
     have Hg2 := hid hg2
     clear hv2 hg2))
 go_ret;refine⟨_,rfl,Hv2.out.low (by simp),?_⟩;exact Below.grown Hb1.out Hg2.out Hb1.out.size (fun g hg=>by have:=(Hv.out.1.lt g hg).1;simp at this;omega)

end Go.Proofs.YtnkogppgacappaaGreatDoor
