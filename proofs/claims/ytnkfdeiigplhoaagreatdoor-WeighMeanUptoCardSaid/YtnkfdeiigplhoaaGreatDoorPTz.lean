import Derived.Test.YtnkfdeiigplhoaaGreatDoorPUses
import Derived.Deep.DeepCutAuto
import Derived.Test.YtnkfdeiigplhoaaGreatDoorPBitsR0
import Derived.Shelf.Spec.TrailingZeros
/- slices.Reverse of a row of numbers of the call's own. graph.Post and graph.OrderOf. dom.TreeOf. ssa.CheckOf. ssa.Check. Known bits in memory: numbers of 64 bits; bits.number, none, sure, meet. math/bits.TrailingZeros64; bits.low. -/
set_option maxHeartbeats 4000000
set_option maxRecDepth 100000
namespace Go.Proofs.YtnkfdeiigplhoaaGreatDoor
section
open Go.RowKit
def akM(l:List Int)(k p:Nat):Int:=if p<k∨l.length<=p+k then l.getD (l.length - 1 - p) 0 else l.getD p 0
structure alf (w:World)(g:Nat)(T:TypeId)(C:Nat)(l:List Int)(k:Nat)(W:World):Prop where
 grown:w.grownBy W (some g)
 row:∃cur,W.heap[g]?=some (.cells cur T (0,0))∧cur.size=C∧∀p,p<l.length->cur[p]?=some (.int .i64 (akM l k p))
variable {l:List Int}{k:Nat}
theorem alf.turn{w:World}{g:Nat}{T:TypeId}{C:Nat}{W:World}(h:alf w g T C l k W)(hk:k+k+1<l.length) :
 alf w g T C l (k+1) ((W.setCell ⟨g,k,none⟩ (.int .i64 (akM l k (l.length - 1 - k)))).setCell ⟨g,l.length - 1 - k,none⟩ (.int .i64 (akM l k k))):=by
 obtain⟨cur,h1,h2,h3⟩:=h.row;have gs:∀(V:World) (j:Nat) (u:Value),V.grownBy (V.setCell ⟨g,j,none⟩ u) (some g):=fun V j u =>
  ⟨rfl,rfl,rfl,by simp [World.setCell],fun b _ hb=>Below.heap_setCell _ _ _ _ (fun e=>hb (by rw [e]))⟩
 refine⟨(h.grown.trans (gs _ _ _)).trans (gs _ _ _),_,aay (aay h1 _) _,by simp [h2],fun p hp=>?_⟩;have hc:p<cur.size:=by
  have:=h3 p hp;exact (Aax.1 this).1
 rw [Abx,Abx]
 by_cases h4:l.length - 1 - k=p
 . rw [if_pos h4,if_pos (by simpa using (by omega:l.length - 1 - k<cur.size))]
   congr 2
   unfold akM;rw [if_neg (by omega),if_pos (by omega)]
   congr 1
   omega
 . rw [if_neg h4]
   by_cases h5:k=p
   . rw [if_pos h5,if_pos (by omega)]
     congr 2
     unfold akM;rw [if_neg (by omega),if_pos (by omega)]
     congr 1
     omega
   . rw [if_neg h5,h3 p hp]
     congr 2
     unfold akM
     by_cases h6:p<k∨l.length<=p+k
     . rw [if_pos h6,if_pos (by omega)]
     . rw [if_neg h6,if_neg (by omega)]
theorem alf.drew{w:World}{g:Nat}{T:TypeId}{C:Nat}{W:World}(h:alf w g T C l k W):alf w g T C l k W.drew :=
 ⟨⟨h.grown.os,h.grown.tape,h.grown.output,h.grown.size,h.grown.block⟩,h.row⟩
theorem ajk(g n cap:Nat)(T:TypeId)(C:Nat)(l:List Int)(w:World)(h0:alf w g T C l 0 w)(hl:l.length=n)(hn:n<=1048576) :
 Calls Tryz.prog 134 #[.slice (some ⟨g,0,none⟩) n cap] w fun e w'=>e = .returned (.tuple #[])∧∃k,n<=k+k+1∧k<=n∧alf w g T C l k w':=by
 have H0:=hid h0;have Hl:=hid hl;clear h0 hl;go_enter Tryz.func134,Tryz.ntmps134;go_wp2_with fail;go_loopw [2,3] (fun s2 s3 wr=>∃(k:Nat),k+k<=n+1∧k<=n∧s2 = .int .i64 (k:Int)∧s3 = .int .i64 ((n:Int) - 1 - k)∧alf w g T C l k wr) (fun s2 _ _=>n - (intOf s2).toNat)
 case atStart=>exact⟨0,by omega,by omega,rfl,by simp,H0.out⟩
 case round =>
  obtain⟨k,hk,cn,rfl,rfl,af⟩:=hrel
  by_cases bY:k+k+1<n
  . obtain⟨j,hj⟩:∃j,j=n - 1 - k:=⟨_,rfl⟩
    have e0:(n:Int) - 1 - k=(j:Int):=by omega
    rw [e0];obtain⟨cur,h1,h2,h3⟩:=af.row;have c0:wr.cell? ⟨g,k,none⟩=some (.int .i64 (akM l k k)):=by rw [aaI h1];exact h3 k (by rw [Hl.out];omega)
    have c1:wr.cell? ⟨g,j,none⟩=some (.int .i64 (akM l k j)):=by rw [aaI h1];exact h3 j (by rw [Hl.out];omega)
    have f0:∀i,wr.frozen? ⟨g,i,none⟩=false:=fun i=>by simp [World.frozen?,h1]
    have f1:=f0 k;have f2:=f0 j;have aq:=hid af;have cM:k≠j:=by omega
    have bw:k<j:=by omega
    have cp:k<n:=by omega
    have cK:j<n:=by omega
    have Hj:=hid hj;obtain⟨x,hx⟩:∃x,x=akM l k k:=⟨_,rfl⟩
    obtain⟨y,hy⟩:∃y,y=akM l k j:=⟨_,rfl⟩
    rw [<-hx] at c0;rw [<-hy] at c1;have Hx:=hid hx;have Hy:=hid hy;clear af h1 h2 h3 f0 hj hx hy e0;go_wp2_with fail;go_big_region
    all_goals
     have bZ:alf w g T C l (k+1) ((wr.setCell ⟨g,k,none⟩ (.int .i64 y)).setCell ⟨g,j,none⟩ (.int .i64 x)).drew:=by
      have h:=aq.out.turn (by rw [Hl.out];omega);rw [Hl.out,<-Hj.out,<-Hx.out,<-Hy.out] at h;exact h.drew
     have ay:=hid bZ;clear bZ;go_wp2_with fail;go_roundw
     case rel=>exact⟨k+1,by omega,by omega,by go_num,by have:=Hj.out;congr 1;omega,ay.out⟩
     case measure=>simp [intOf];omega
  . have aq:=hid af
    have q:decide ((k:Int)<(n:Int) - 1 - k)=false:=decide_eq_false (by omega);clear af;go_wp2_with fail;go_end0;exact⟨rfl,k,by omega,cn,aq.out⟩
theorem ant(hk:l.length<=k+k+1){p:Nat}(hp:p<l.length):l.reverse[p]?=some (akM l k p):=by
 rw [List.getElem?_reverse hp];have e:∀i,i<l.length->l[i]?=some (l.getD i 0):=fun i hi=>by rw [Aac,Aaa hi];rfl
 unfold akM
 by_cases h:p<k∨l.length<=p+k
 . rw [if_pos h,e _ (by omega)]
 . rw [if_neg h,show l.length - 1 - p=p by omega,e _ hp]
theorem ajl(base:Nat)(v:Value)(l:List Int)(w:World)(h:aaz base w v l)(hn:l.length<=1048576) :
 Calls Tryz.prog 134 #[v] w fun e w'=>e = .returned (.tuple #[])∧aaz base w' v l.reverse∧w.grownBy w' v.ownBlock:=by
 obtain⟨⟨h1,h2⟩,h3⟩:=h;rcases h2 with⟨rfl,hl⟩ | ⟨g,cap,cur,rfl,hg,hgg,hnc,hm,hsz,htk⟩
 . obtain rfl:l=[]:=Abq.1 hl
   have be:Hid (aaz base w (.slice none 0 0) []):=aaz.nil base w;clear h1 h3 hl hn;go_enter Tryz.func134,Tryz.ntmps134;go_wp2_with fail;go_loopw [2,3] (fun s2 s3 wr=>s2 = .int .i64 0∧s3 = .int .i64 (-1)∧wr=w) (fun _ _ _=>0)
   case atStart=>exact⟨rfl,rfl,rfl⟩
   case round =>
    obtain⟨rfl,rfl,rfl⟩:=hrel;go_wp2_with fail;go_end0;exact⟨rfl,be.out,⟨rfl,rfl,rfl,Aad _,fun _ _ _=>rfl⟩⟩
 . have aD:∀p (hp:p<l.length),cur[p]?=some (.int .i64 l[p]):=fun p hp=>by
    have h:(cur.toList.take (l.length * 1))[p]?=(l.map fun x=>Value.int .i64 x)[p]?:=by rw [htk]
    rw [List.getElem?_take_of_lt (by omega),Aak,Aaa hp] at h;simpa using h
   have h0 : alf w g 3 cur.size l 0 w := ⟨⟨rfl, rfl, rfl, Aad _, fun _ _ _ => rfl⟩, cur, hgg, rfl, fun p hp => by
    rw [aD p hp]
    unfold akM
    rw [if_neg (by omega), Aac, Aaa hp]; rfl⟩
   refine (ajk g l.length cap 3 cur.size l w h0 rfl hn).mono ?_;rintro e w' ⟨rfl,k,bu,-,af⟩;obtain⟨bg,q1,q2,q3⟩:=af.row;refine⟨rfl,⟨⟨by simp,.inr ⟨g,cap,bg,by rw [Aba],hg,q1,by rw [Aba];exact hnc,hm,by rw [q2];exact hsz,?_⟩⟩,fun x hx=>h3 x (List.mem_reverse.1 hx)⟩,af.grown⟩;refine Abk fun p=>?_;rw [Aba,Aan,Aak]
   by_cases hp:p<l.length
   . rw [List.getElem?_take_of_lt hp,ant bu hp,Array.getElem?_toList,q3 p hp];rfl
   . rw [Aa8 (by rw [Aar];omega),Aa8 (by rw [Aba];omega)];rfl
end
section
open Go.RowKit
theorem aaz.low {base base':Nat}{w:World}{v:Value}{l:List Int}(h:aaz base w v l)(hb:base'<=base):aaz base' w v l:=by
 refine⟨⟨h.1.1,?_⟩,h.2⟩;rcases h.1.2 with h1 | ⟨g,cap,cur,e1,h2,h3⟩
 . exact .inl h1
 . exact .inr ⟨g,cap,cur,e1,Aag hb h2,h3⟩
@[go_sem] theorem aoi(P:Program)(w:World)(a:Addr)(m:Mode)(fn:Fn)(first captured:Array Value):(store a (.func fn first captured) m).run P w=stored P w a (.func fn first captured) m:=run_store P w a _ m rfl
theorem alH(w:World)(a b c d e:Obj):(((((w.alloc a).alloc b).alloc c).alloc d).alloc e).heap.size=w.heap.size+5∧(((((w.alloc a).alloc b).alloc c).alloc d).alloc e).heap[w.heap.size]?=some a∧(((((w.alloc a).alloc b).alloc c).alloc d).alloc e).heap[w.heap.size+1]?=some b ∧
 (((((w.alloc a).alloc b).alloc c).alloc d).alloc e).heap[w.heap.size+1+1]?=some c∧(((((w.alloc a).alloc b).alloc c).alloc d).alloc e).heap[w.heap.size+1+1+1]?=some d∧(((((w.alloc a).alloc b).alloc c).alloc d).alloc e).heap[w.heap.size+1+1+1+1]?=some e:=by
 have hs:∀(v:World) (o:Obj),(v.alloc o).heap.size=v.heap.size+1:=fun v o=>by simp
 have s1:=hs w a;have s2:=hs (w.alloc a) b;have s3:=hs ((w.alloc a).alloc b) c;have s4:=hs (((w.alloc a).alloc b).alloc c) d;have s5:=hs ((((w.alloc a).alloc b).alloc c).alloc d) e;have e1:=heap_alloc_new w a;have e2:=heap_alloc_new (w.alloc a) b;have e3:=heap_alloc_new ((w.alloc a).alloc b) c;have e4:=heap_alloc_new (((w.alloc a).alloc b).alloc c) d;have e5:=heap_alloc_new ((((w.alloc a).alloc b).alloc c).alloc d) e;rw [s1] at e2;rw [s2,s1] at e3;rw [s3,s2,s1] at e4;rw [s4,s3,s2,s1] at e5;refine⟨by omega,?_,?_,?_,?_,e5⟩
 . rw [Below.heap_alloc _ _ _ (by omega),Below.heap_alloc _ _ _ (by omega),Below.heap_alloc _ _ _ (by omega),Below.heap_alloc _ _ _ (by omega)];exact e1
 . rw [Below.heap_alloc _ _ _ (by omega),Below.heap_alloc _ _ _ (by omega),Below.heap_alloc _ _ _ (by omega)];exact e2
 . rw [Below.heap_alloc _ _ _ (by omega),Below.heap_alloc _ _ _ (by omega)];exact e3
 . rw [Below.heap_alloc _ _ _ (by omega)];exact e4
theorem anA {S:Nat->Prop}(nm:ByteArray)(p r:Int)(ba:Option Addr)(n bc:Nat)(bs:List aad)(w:World)(hb:SlAt S w 6 aaJ (.slice ba n bc) bs)(hS:∀b,S b->b<w.heap.size)(ax:bs.length=n)(hn:n<=1048576)(an:adH bs) :
 Calls Tryz.prog 104 #[.agg #[.string nm,.int .i64 p,.int .i64 r,.slice ba n bc]] w fun e w' =>
  ∃v,e = .returned v∧aaz w.heap.size w' v (aa3 bs)∧Below w.heap.size w w':=by
 have Hb:=hid hb;have ag:=hid ax;have al:=hid an;have HS:=hid hS;have aY:0<n:=by rw [<-ax];exact an.pos
 clear hb ax an hS;have bz:=run_make_row' (P:=Tryz.prog) 43 4 (.bool false) 1 Tryz.underlying43 ajL rfl .i64 .i64 n (by omega) (by omega);go_enter Tryz.func104,Tryz.ntmps104;go_wp2_with fail;obtain⟨W,hW⟩:∃W,W=(((((w.alloc (.cells #[.string nm,.int .i64 p,.int .i64 r,.slice ba n bc] 50)).alloc (.cells #[.slice none 0 0] 26)).alloc (.cells (madeCells #[.bool false] n) 4)).alloc (.cells #[.slice (some ⟨w.heap.size+1+1,0,none⟩) n n] 43)).alloc (.cells #[.func (.func 138) #[] #[.pointer (some ⟨w.heap.size+1+1+1,0,none⟩),.pointer (some ⟨w.heap.size,0,none⟩),.pointer (some ⟨w.heap.size+1+1+1+1,0,none⟩),.pointer (some ⟨w.heap.size+1,0,none⟩)]] 149)):=⟨_,rfl⟩
 rw [<-hW];have bm:Below w.heap.size w W:=by rw [hW];exact bE
 obtain⟨cN,bI,hL,hO,bJ,bK⟩:W.heap.size=w.heap.size+5∧W.heap[w.heap.size]?=_∧W.heap[w.heap.size+1]?=_∧W.heap[w.heap.size+1+1]?=_∧W.heap[w.heap.size+1+1+1]?=_∧W.heap[w.heap.size+1+1+1+1]?=_:=by rw [hW];exact alH _ _ _ _ _ _
 have cF:W.cell? ⟨w.heap.size,3,none⟩=some (.slice ba n bc):=by rw [aaI bI];rfl
 have cS:W.cell? ⟨w.heap.size+1+1+1,0,none⟩=some (.slice (some ⟨w.heap.size+1+1,0,none⟩) n n):=by rw [aaI bJ];rfl
 have cV:W.cell? ⟨w.heap.size+1+1+1+1,0,none⟩=some (.func (.func 138) #[] #[.pointer (some ⟨w.heap.size+1+1+1,0,none⟩),.pointer (some ⟨w.heap.size,0,none⟩),.pointer (some ⟨w.heap.size+1+1+1+1,0,none⟩),.pointer (some ⟨w.heap.size+1,0,none⟩)]):=by rw [aaI bK];rfl
 rw [abn,<-List.map_replicate] at hO;have h0:ale W (w.heap.size+1+1) (w.heap.size+1) (w.heap.size+5) W (List.replicate n false,[]) (.slice none 0 0) :=
  ⟨by omega,fun _ _ _ _=>rfl,⟨rfl,rfl,rfl⟩,hO,hL,aaz.nil _ _⟩
 have cb:=hid bm
 have aR := amH W (w.heap.size + 1 + 1) (w.heap.size + 1) (w.heap.size + 5) (w.heap.size + 1 + 1 + 1) w.heap.size (w.heap.size + 1 + 1 + 1 + 1) n ba bc bs
  ((Hb.out.later aam bm).mono aam (fun b hb=>by have:=HS.out b hb;omega) (aav.refl _ _)) ag.out hn (fun k x hx=>by rw [<-ag.out];exact al.out.tgt k x hx)
  (by omega) (by omega) (by omega) (by omega) (by omega) (by omega) cS cF cV n 0 _ _ W h0 (by simp) (by dsimp only;rw [List.getElem?_replicate,if_pos aY]) (by dsimp only;rw [List.count_replicate_self];exact Aad _) (by dsimp only;rw [List.count_replicate_self];simp)
 clear hW hL hO h0 cF cS cV bm bI bJ bK;refine aR.mono ?_;rintro e W' ⟨⟨u,rfl⟩,v',af,b9⟩;have c0:=af.left;have aq:=hid af;have cE:=hid b9;clear aR af b9 bz;go_wp2_with fail;go_ret;have af:=aq.out;refine⟨_,rfl,?_,?_⟩
 . have h:=af.own.low (base':=w.heap.size) (by omega)
   unfold aa3;rw [ag.out];exact h
 . have hb:=cb.out
   have hz:=af.size;exact⟨af.env.1.trans hb.os,af.env.2.1.trans hb.tape,af.env.2.2.trans hb.output,by omega,fun k hk=>(af.keep k (by omega) (by omega) (by omega)).trans (hb.block k hk)⟩
theorem aga {S:Nat->Prop}(nm:ByteArray)(p r:Int)(ba:Option Addr)(n bc:Nat)(bs:List aad)(w:World)(hb:SlAt S w 6 aaJ (.slice ba n bc) bs)(hS:∀b,S b->b<w.heap.size)(ax:bs.length=n)(hn:n<=1048576)(an:adH bs) :
 Calls Tryz.prog 99 #[.agg #[.string nm,.int .i64 p,.int .i64 r,.slice ba n bc]] w fun e w' =>
  ∃v,e = .returned v∧aaz w.heap.size w' v (af8 bs)∧Below w.heap.size w w':=by
 have Hb:=hid hb;have ag:=hid ax;have al:=hid an;have HS:=hid hS;have hlen:(aa3 bs).length<=1048576:=by have h:=af9 an;rw [afF] at h;omega
 have a8:=hid hlen;clear hb ax an hS hlen;go_enter Tryz.func99,Tryz.ntmps99
 go_wp2_with (first
  | (go_at_call 104; refine (anA (S := S) nm p r ba n bc bs _ (Hb.out.later aam bE) (fun b hb => by have := HS.out b hb; simp; omega) ag.out hn al.out).mono ?_; rintro e w1 ⟨v, rfl, hv, aB⟩
     obtain ⟨a, c, rfl⟩ := hv.shape
     have Hv := hid hv
     have aw : Below w.heap.size w w1 := by exact bE1 aB
     have az := hid aw
     clear hv aB aw)
  | (go_at_call 134; refine (ajl _ _ (aa3 bs) _ Hv.out a8.out).mono ?_; rintro e w2 ⟨rfl, aQ, bU⟩
     have aL := hid aQ
     have cc := hid bU
     clear aQ bU))
 go_ret;refine⟨_,rfl,aL.out.low (by simp),?_⟩;exact Below.grown az.out cc.out az.out.size (fun g hg=>by have:=(Hv.out.1.lt g hg).1;simp at this;omega)
end
section
open Go.RowKit
def ajm(n:Nat)(f:Nat->Int):Array Value:=((List.range n).map fun x=>Value.int .i64 (f x)).toArray
variable {n:Nat}{f:Nat->Int}
theorem ae3{x:Nat}(h:x<n):(ajm n f)[x]?=some (.int .i64 (f x)):=by
 unfold ajm;rw [List.getElem?_toArray,Aak,Aa4 h];rfl
theorem agi(n:Nat)(f:Nat->Int):(ajm n f).size=n:=by unfold ajm;simp
theorem aj1{c:Nat}(b:Int):(ajm n f).setIfInBounds c (.int .i64 b)=ajm n (aeL f c b):=by
 apply Array.ext_getElem?;intro i;rw [Abx];rcases Nat.lt_or_ge i n with h | h
 . by_cases hc:c=i
   . subst hc
     rw [if_pos rfl,if_pos (by rw [agi];exact h),ae3 h,aa1]
   . rw [if_neg hc,ae3 h,ae3 h,abl _ _ (Ne.symm hc)]
 . have e:∀f:Nat->Int,(ajm n f)[i]?=none:=fun f=>Array.getElem?_eq_none (by rw [agi];exact h)
   by_cases hc:c=i
   . subst hc
     rw [if_pos rfl,if_neg (by rw [agi];omega),e]
   . rw [if_neg hc,e,e]
theorem akU{g:Nat->Int}(h:∀x,x<n->f x=g x):ajm n f=ajm n g:=by
 unfold ajm
 congr 1
 exact Ab0 fun x hx=>by rw [h x (List.mem_range.1 hx)]
theorem ajn{W:World}{g:Nat}(h:W.heap[g]?=some (.cells (ajm n f) 3 (0,0)))(hf:∀x,x<n->I64 (f x))(hn:n<=1048576):SlAt (fun b=>b=g) W 1 aaO (.slice (some ⟨g,0,none⟩) n n) ((List.range n).map f):=by
 have hl:((List.range n).map f).length=n:=by simp
 refine⟨_,n,by rw [hl],by omega,by omega,fun _=>⟨g,0,rfl,rfl,fun i x hx=>?_⟩⟩;rw [Aak] at hx;have hi:i<n:=by
  rcases Nat.lt_or_ge i n with h | h
  . exact h
  . rw [Aa8 (by simpa using h)] at hx;cases hx
 rw [Aa4 hi] at hx;cases hx;refine⟨_,⟨rfl,hf i hi⟩,rfl,fun j u hj=>?_⟩
 match j,hj with
 | 0,hj =>
   cases hj;rw [aaI h];simpa using ae3 hi
 | j+1,hj=>simp at hj
theorem aiz{x:Nat}(h:x<n):((List.range n).map f).getD x 0=f x:=by
 rw [Aac,Aak,Aa4 h];rfl
structure acW (w W0 W:World)(AT UP n:Nat)(a u:Nat->Int):Prop where
 size:W0.heap.size<=W.heap.size
 keep:∀b,b<W0.heap.size->b≠AT->b≠UP->W.heap[b]?=W0.heap[b]?
 env:W.os=W0.os∧W.tape=W0.tape∧W.output=W0.output
 rowA:W.heap[AT]?=some (.cells (ajm n a) 3 (0,0))
 rowU:W.heap[UP]?=some (.cells (ajm n u) 3 (0,0))
 old:Below w.heap.size w W0
 lo:w.heap.size<=AT∧w.heap.size<=UP∧AT<W0.heap.size∧UP<W0.heap.size∧AT≠UP
section
variable {w W0 W W' : World} {AT UP n : Nat} {a u : Nat -> Int}
theorem acW.below(h:acW w W0 W AT UP n a u):Below w.heap.size w W:=by
 have hz:=h.old.size;have hl:=h.lo;exact⟨h.env.1.trans h.old.os,h.env.2.1.trans h.old.tape,h.env.2.2.trans h.old.output,Aag hz h.size,fun k hk=>(h.keep k (by omega) (by omega) (by omega)).trans (h.old.block k hk)⟩
theorem acW.later(h:acW w W0 W AT UP n a u)(hb:Below W.heap.size W W'):acW w W0 W' AT UP n a u:=by
 have hz:=h.size;have hl:=h.lo;exact⟨Aag hz hb.size,fun b h1 h2 h3=>(hb.block b (by omega)).trans (h.keep b h1 h2 h3),⟨hb.os.trans h.env.1,hb.tape.trans h.env.2.1,hb.output.trans h.env.2.2⟩,(hb.block AT (by omega)).trans h.rowA,(hb.block UP (by omega)).trans h.rowU,h.old,h.lo⟩
theorem acW.anew(h:acW w W0 W AT UP n a u):acW w W W AT UP n a u:=by
 have hz:=h.size;have hl:=h.lo;exact⟨Aad _,fun _ _ _ _=>rfl,⟨rfl,rfl,rfl⟩,h.rowA,h.rowU,h.below,by omega⟩
theorem acW.setA(h:acW w W0 W AT UP n a u)(c:Nat)(b:Int):acW w W0 (W.setCell ⟨AT,c,none⟩ (.int .i64 b)) AT UP n (aeL a c b) u:=by
 have hl:=h.lo;refine⟨by simpa [World.setCell] using h.size,fun k h1 h2 h3=>?_,h.env,?_,?_,h.old,h.lo⟩
 . rw [Below.heap_setCell _ _ _ _ (by dsimp only;exact h2)];exact h.keep k h1 h2 h3
 . rw [aay h.rowA,aj1]
 . rw [Below.heap_setCell _ _ _ _ (by dsimp only;omega)];exact h.rowU
theorem acW.setU(h:acW w W0 W AT UP n a u)(c:Nat)(b:Int):acW w W0 (W.setCell ⟨UP,c,none⟩ (.int .i64 b)) AT UP n a (aeL u c b):=by
 have hl:=h.lo;refine⟨by simpa [World.setCell] using h.size,fun k h1 h2 h3=>?_,h.env,?_,?_,h.old,h.lo⟩
 . rw [Below.heap_setCell _ _ _ _ (by dsimp only;exact h3)];exact h.keep k h1 h2 h3
 . rw [Below.heap_setCell _ _ _ _ (by dsimp only;omega)];exact h.rowA
 . rw [aay h.rowU,aj1]
theorem acW.congr(h:acW w W0 W AT UP n a u){a':Nat->Int}(he:∀x,x<n->a x=a' x):acW w W0 W AT UP n a' u :=
 ⟨h.size,h.keep,h.env,by rw [<-akU he];exact h.rowA,h.rowU,h.old,h.lo⟩
theorem acW.atU(h:acW w W0 W AT UP n a u){x:Nat}(hx:x<n):W.cell? ⟨UP,x,none⟩=some (.int .i64 (u x)):=by rw [aaI h.rowU,ae3 hx]
theorem acW.fzA(h:acW w W0 W AT UP n a u)(x:Nat):W.frozen? ⟨AT,x,none⟩=false:=by simp [World.frozen?,h.rowA]
theorem acW.atA(h:acW w W0 W AT UP n a u){x:Nat}(hx:x<n):W.cell? ⟨AT,x,none⟩=some (.int .i64 (a x)):=by rw [aaI h.rowA,ae3 hx]
theorem acW.fzU(h:acW w W0 W AT UP n a u)(x:Nat):W.frozen? ⟨UP,x,none⟩=false:=by simp [World.frozen?,h.rowU]
theorem acW.cell(h:acW w W0 W AT UP n a u){b o:Nat}{v:Value}(hc:W0.cell? ⟨b,o,none⟩=some v)(h1:b≠AT)(h2:b≠UP):W.cell? ⟨b,o,none⟩=some v:=by
 rw [World.cell?_of_block (w:=W0) (a:=⟨b,o,none⟩) (h.keep b (aac hc) h1 h2)];exact hc
theorem acW.sl {α:Type}{r:Rp α}(hr:r.Mono){S:Nat->Prop}{sz:Nat}{v:Value}{l:List α}(h:acW w W0 W AT UP n a u)(hS:∀b,S b->b≠AT∧b≠UP)(hs:SlAt S W0 sz r v l):SlAt S W sz r v l :=
 hs.mono hr (fun _ h=>h) (aba fun b hb hl=>h.keep b hl (hS b hb).1 (hS b hb).2)
end
def upW(UP:Nat)(W:World):Nat->Int:=fun x=>match W.cell? ⟨UP,x,none⟩ with | some v=>intOf v | none=>0
variable {n:Nat}
theorem acW.upW{w W0 W:World}{AT UP:Nat}{a u:Nat->Int}(h:acW w W0 W AT UP n a u)(ps:Nat->Nat):muF n ps (upW UP W)=muF n ps u:=by
 have e:∀x,x<n->aej n ps (Go.Proofs.YtnkfdeiigplhoaaGreatDoor.upW UP W) x=aej n ps u x:=fun x hx=>by
  unfold aej Go.Proofs.YtnkfdeiigplhoaaGreatDoor.upW;rw [h.atU hx];rfl
 exact Nat.le_antisymm (ahE n fun x hx=>Nat.le_of_eq (e x hx)) (ahE n fun x hx=>Nat.le_of_eq (e x hx).symm)
theorem acB(bs:List aad):(af8 bs).length=(aa5 bs).length:=by unfold aa5;simp
variable {bs:List aad}
theorem ajS(h:adH bs){k:Nat}(hk:k<(aa5 bs).length):∃h':k<(af8 bs).length,(af8 bs)[k]=((aa5 bs)[k]:Int):=by
 have hl:k<(af8 bs).length:=by rw [acB];exact hk
 refine⟨hl,?_⟩;have hm:(af8 bs)[k]∈aa3 bs:=List.mem_reverse.1 (Aaf hl);have h0:=((acd h).1 _ hm).1;have h2:(aa5 bs)[k]?=some ((af8 bs)[k]).toNat:=by
  unfold aa5;rw [Aak,Aaa hl];rfl
 rw [Aaa hk] at h2;have h3:=Option.some.inj h2;omega
theorem amV{b j:Nat}(hj:j<(aag bs 0 b).length):∃q:Nat,(aag bs 0 b)[j]=(q:Int)∧q<bs.length∧(adI bs b).drop j=q :: (adI bs b).drop (j+1):=by
 have hm:=abB (Aaf hj);obtain⟨q,hq⟩:=Aas hm.1;refine⟨q,hq,by omega,?_⟩;unfold adI;rw [List.drop_eq_getElem_cons (by simpa using hj),List.getElem_map,hq];rfl
theorem amW(bs:List aad)(b:Nat):(adI bs b).length=(aag bs 0 b).length:=by unfold adI;simp
structure ala (n:Nat)(bs:List aad)(more:Bool)(up:Nat->Int):Prop where
 go:more=true->DSt n (aa5 bs) (psF bs) (adI bs) (fpF bs) 1 up∧(∀x,-1<=up x)∧∃f,muF n (psF bs) up<f∧ak2 (psF bs) (adI bs) (aa5 bs).tail f up=aiy bs
 stop:more=false->up=aiy bs
theorem ala.start(h:adH bs):ala bs.length bs true up0 :=
 ⟨fun _=>⟨DSt.start (afI h) (ajV h),fun x=>by unfold up0;split <;> omega,_,Abc _,rfl⟩,fun h=>by cases h⟩
def akN(v:Value):Nat:=match v with | .bool true=>1 | _=>0
theorem ala.next{up u:Nat->Int}{m:Bool}(ho:Rpo n (aa5 bs) (psF bs) (adI bs) (fpF bs))(h:ala n bs true up)(hp:PSt n (aa5 bs) (psF bs) (adI bs) (fpF bs) up (aa5 bs).length (u,m))(he:(u,m)=agc (psF bs) (adI bs) (aa5 bs).tail (up,false)) :
 ala n bs m u∧2 * muF n (psF bs) u+akN (.bool m)<2 * muF n (psF bs) up+1:=by
 obtain⟨-,-,f,hf,hr⟩:=h.go rfl;obtain⟨f',rfl⟩:∃f',f=f'+1:=⟨f - 1,by omega⟩
 rw [ak2,<-he] at hr;cases m with
 | true =>
   have bY:=hp.lt rfl;dsimp only at bY hr;rw [if_pos rfl] at hr;exact⟨⟨fun _=>⟨hp.d.again ho,hp.low,f',by omega,hr⟩,fun h=>by cases h⟩,by simp only [akN];omega⟩
 | false =>
   have hle:=hp.le;dsimp only at hle hr;rw [if_neg (by simp)] at hr;exact⟨⟨fun h=>(by cases h),fun _=>hr⟩,by simp only [akN];omega⟩
theorem ao0{S:Nat->Prop}{w:World}{b off c:Nat}{l:List Int}(h:SlAt S w 1 aaO (.slice (some ⟨b,off,none⟩) n c) l)(hn:0<n):SlAt S w 1 aaO (.slice (some ⟨b,off+1,none⟩) (n - 1) (c - 1)) l.tail:=by
 obtain⟨ao,c',e,h1,h2,h3⟩:=h;cases e;have hl:l.tail.length=l.length - 1:=by simp
 refine⟨_,_,by rw [hl],by rw [hl];omega,by omega,fun _=>?_⟩;obtain⟨b',cB,e,h4,h5⟩:=h3 (fun e=>by rw [e] at hn;simp at hn);cases e;refine⟨b,off+1,rfl,h4,fun i x hx=>?_⟩;have cy:l[i+1]?=some x:=by
  cases l with
  | nil=>simp at hx
  | cons a l=>simpa using hx
 obtain⟨cs,g1,g2,g3⟩:=h5 (i+1) x cy;exact⟨cs,g1,g2,by rw [show off+1+i * 1=off+(i+1) * 1 by omega];exact g3⟩
theorem apR(h:adH bs)(x:Nat):psF bs x<=bs.length:=by
 have h1:=af9 h;unfold psF atF;split
 . have:=List.idxOf_le_length (a:=x) (l:=aa5 bs);omega
 . omega
theorem ak1 {S:Nat->Prop}(nm:ByteArray)(p r:Int)(ba:Option Addr)(n bc:Nat)(bs:List aad)(w:World)(hb:SlAt S w 6 aaJ (.slice ba n bc) bs)(hS:∀b,S b->b<w.heap.size)(ax:bs.length=n)(hn:n<=1048576)(an:adH bs) :
 Calls Tryz.prog 102 #[.agg #[.string nm,.int .i64 p,.int .i64 r,.slice ba n bc]] w fun e w' =>
  ∃g,e = .returned (.slice (some ⟨g,0,none⟩) n n)∧w.heap.size<=g∧SlAt (fun b=>b=g) w' 1 aaO (.slice (some ⟨g,0,none⟩) n n) (aei bs)∧Below w.heap.size w w':=by
 have Hb:=hid hb;have ag:=hid ax;have al:=hid an;have HS:=hid hS;have Ho:=hid (afI an);have aY:0<n:=by rw [<-ax];exact an.pos
 obtain⟨L,hL⟩:∃L,L=(af8 bs).length:=⟨_,rfl⟩
 have HL:=hid hL;have bL:0<L:=by rw [hL,acB];exact (aeD an).1
 have cI:L<=n:=by rw [hL,acB,<-ax];exact af9 an
 clear hb ax an hS hL;have bz:=run_make_row' (P:=Tryz.prog) 26 3 (.int .i64 0) 8 Tryz.underlying26 acA rfl .i64 .i64 n (by omega) (by omega);go_enter Tryz.func102,Tryz.ntmps102
 go_wp2_with (first
  | (go_at_call 99; refine (aga (S := S) nm p r ba n bc bs _ (Hb.out.later aam bE) (fun b hb => by have := HS.out b hb; simp; omega) ag.out hn al.out).mono ?_; rintro e w1 ⟨v, rfl, hv, aB⟩
     obtain ⟨oa, oc, cr⟩ := hv.shape
     subst cr
     rw [<- HL.out] at hv ⊢
     have bo : aaj w1 w.heap.size 0 [.string nm, .int .i64 p, .int .i64 r, .slice ba n bc] := aaj.later (.cons (by simp) (.cons (by simp) (.cons (by simp) (.cons (by simp) (.nil _ _ _))))) aB
     have aN := bo.get4.2.2.2
     have z1 : w.heap.size < w1.heap.size := aac aN
     have aw : Below w.heap.size w w1 := by exact bE1 aB
     have az := hid aw
     have Hv := hid hv
     clear hv aB aw))
 refine (ad4 _ _ (-1) n hn _ (abd _ [.int .i64 (-1)] 3 (by simp) 0 _ rfl)).mono ?_;rintro e w2 ⟨UP,rfl,bM,ai,aW⟩;obtain⟨AT,bh⟩:∃AT,AT=w1.heap.size:=⟨_,rfl⟩
 rw [<-bh];have cz:w1.heap.size+2<=w2.heap.size:=by have:=aW.size;simpa using this
 have bj:w1.heap.size+2<=UP:=by simpa using bM
 have bk:UP<w2.heap.size:=(Aax.1 ai).1;have a6:Below w1.heap.size w1 w2:=by exact bE1 aW
 have af:acW w w2 w2 AT UP n (fun _=>0) (fun _ => -1):=by
  refine⟨Aad _,fun _ _ _ _=>rfl,⟨rfl,rfl,rfl⟩,?_,?_,az.out.trans (a6.mono az.out.size),?_⟩
  . rw [aW.block AT (by simp;omega),Below.heap_alloc _ _ _ (by simp;omega),bh,heap_alloc_new,abn]
    unfold ajm;rw [List.map_const'];simp
  . rw [ai]
    unfold ajm;rw [List.map_const'];simp
  . have:=az.out.size;omega
 have aq:=hid af;have aQ:=Hv.out.sl;have aL:=hid ((aQ.later aae a6).mono aae (S':=fun b=>b≠AT∧b≠UP) (fun b hb=>by have:=hb.2;omega) (aav.refl _ _));have aM:=bo.later a6;have aJ:=hid aM;have cl:w.heap.size<=AT:=by have:=az.out.size;omega
 have cG:w.heap.size<AT:=by omega
 have cH:w.heap.size<UP:=by omega
 clear aW ai a6 af bz aQ bo aM bM bh bk aN;go_wp2_with fail;go_loopw [28] (fun i wr=>∃k:Nat,k<=L∧i = .int .i64 k∧acW w w2 wr AT UP n (fun x=>((atF (aa5 bs) k x:Nat):Int)) (fun _ => -1)) (fun i _=>L - (intOf i).toNat)
 case atStart=>exact⟨0,Aah _,rfl,aq.out.congr (fun x _=>by simp [atF,abq])⟩
 case round =>
  obtain⟨k,hk,rfl,aj⟩:=hrel;have aA:=hid aj
  by_cases bw:k<L
  . have bW:k<(aa5 bs).length:=by rw [<-acB,<-HL.out];exact bw
    obtain⟨bX,he⟩:=ajS al.out bW;obtain⟨ob,aS,rfl,c0⟩:=abb (aj.sl aae (fun b hb=>hb) aL.out) bX;obtain⟨q,hq⟩:∃q,q=(aa5 bs)[k]:=⟨_,rfl⟩
    rw [he,<-hq] at c0;have aP:q<n:=by rw [hq,<-ag.out];exact ahx al.out (Aaf _)
    have c1:=aj.atA aP;have f1:=aj.fzA q;have zA:AT<wr.heap.size:=aac c1;have zo:ob<wr.heap.size:=aac c0;have ae:Hid (∀x,atF (aa5 bs) (k+1) x=if x=q then k else atF (aa5 bs) k x):=fun x=>by
     rw [ahQ (fun i j hi hj e=>afE al.out hi hj e) bW,hq]
    clear aj he hq;go_wp2_with fail;go_roundw
    case rel=>exact⟨k+1,by omega,by go_num,(aA.out.setA q (k:Int)).congr (fun x _=>by rw [ae.out];unfold aeL;split <;> rfl)⟩
    case measure=>simp [intOf];omega
  . obtain rfl:k=L:=by omega
    have aG : Hid (acW w w2 wr AT UP n (fun x => (psF bs x : Int)) (fun _ => -1)) := aj.congr (fun x _ => by
     unfold psF
     rw [HL.out, acB])
    have c1:=aj.atU (x:=0) aY;have f1:=aj.fzU 0;have zU:UP<wr.heap.size:=aac c1;clear aj aA;have aH:Hid (acW w w2 (wr.setCell ⟨UP,0,none⟩ (.int .i64 0)) AT UP n (fun x=>(psF bs x:Int)) up0):=aG.out.setU 0 0;obtain⟨b0,b1,b2,b3⟩:=aJ.out.get4;have b0:=aG.out.cell b0 (by omega) (by omega);have b1:=aG.out.cell b1 (by omega) (by omega);have b2:=aG.out.cell b2 (by omega) (by omega);have b3:=aG.out.cell b3 (by omega) (by omega);have zF:w.heap.size<wr.heap.size:=aac b0;have bl:=agU (S:=S) nm p r ba bc bs (wr.setCell ⟨UP,0,none⟩ (.int .i64 0)) (by rw [ag.out];exact Hb.out.later aam aH.out.below) (by rw [ag.out];exact hn) al.out.tgt;rw [ag.out] at bl;have bA:=hid bl;clear bl
    go_wp2_with (first
     | (go_at_call 120; refine (bA.out).mono ?_; rintro e w5 ⟨v, rfl, a1, bO⟩
        obtain ⟨va, vc, cu, cv⟩ := a1.val
        subst cu
        rw [show (aheadF bs).length = n by unfold aheadF; simp [ag.out]] at a1 ⊢
        have bH := hid a1
        have a7 := hid bO
        clear a1 bO cv))
    have ch:Hid (acW w w5 w5 AT UP n (fun x=>(psF bs x:Int)) up0):=(aH.out.later a7.out).anew;have aV:Hid (SlAt (fun b=>b≠AT∧b≠UP) w5 1 aaO (.slice oa k oc) (af8 bs)):=(aH.out.sl aae (fun b hb=>hb) aL.out).later aae a7.out
    have ck : Hid (SlAt (fun b => b ≠ AT ∧ b ≠ UP) w5 1 rRow (.slice va n vc) (aheadF bs)) := bH.out.mono aax (fun b hb => by
     have h1 : (wr.setCell ⟨UP, 0, none⟩ (.int .i64 0)).heap.size <= b := hb
     have h2 := aH.out.size
     have h3 := aH.out.lo
     omega) (aav.refl _ _)
    have bd:Hid (Rpo n (aa5 bs) (psF bs) (adI bs) (fpF bs)):=by have h:=Ho.out;rw [ag.out] at h;exact h
    have cg:Hid (ala n bs true up0):=by have h:=ala.start al.out;rw [ag.out] at h;exact h
    clear b0 b1 b2 b3 zF c1 f1 zU bA aG aH aq aL bH a7 bw aJ Hb cz bj Hv az;obtain⟨ob,aS,cq,-⟩:=abb aV.out (t:=0) (by rw [<-HL.out];exact bL);subst cq;have cL:k<=oc:=by
     obtain⟨_,_,e,h1,-⟩:=aV.out;cases e;rw [HL.out];exact h1
    go_loopw [9] (fun s9 wr=>∃(more:Bool) (up:Nat->Int),s9 = .bool more∧acW w w5 wr AT UP n (fun x=>(psF bs x:Int)) up∧ala n bs more up) (fun s9 wr=>2 * muF n (psF bs) (upW UP wr)+akN s9)
    case atStart=>exact⟨true,up0,rfl,ch.out,cg.out⟩
    case round =>
     obtain⟨more,up,rfl,aj,aZ⟩:=hrel;have aA:=hid aj;have aT:=hid aZ;cases more with
     | false =>
       have c1:=aj.atU (x:=0) aY;have f1:=aj.fzU 0;have zU:UP<wr.heap.size:=aac c1;have cj:=hid (aZ.stop rfl);clear aj aZ;go_wp2_with fail;go_ret;have aE:=aA.out.setU 0 (-1);rw [cj.out] at aE;have hr:=amg al.out;refine⟨UP,rfl,by omega,?_,aE.below⟩
       have h := ajn aE.rowU (fun x hx => by
        unfold aeL I64
        have h1 := hr.low x
        split
        . omega
        . rcases Int.lt_or_le (aiy bs x) 0 with h2 | h2
          . omega
          . have h3 := hr.d.tree.lt _ (hr.d.tree.next x h2)
            have := ag.out
            omega) hn
       unfold aei;rw [ag.out];exact h
     | true =>
       obtain⟨wo,cx⟩:∃wo:World,wo=wr:=⟨_,rfl⟩
       subst cx;clear aj aZ
       by_cases hoc:oc=1
       . have bu:k=1:=by omega
         subst bu;subst hoc;have bx:(aa5 bs).length=1:=by rw [<-acB,<-HL.out]
         have ay:Hid (ala n bs false up∧2 * muF n (psF bs) up+akN (.bool false)<2 * muF n (psF bs) up+1):=by
          have hg:=aT.out.go rfl;refine ala.next bd.out aT.out ?_ ?_
          . rw [bx];exact PSt.zero hg.1 hg.2.1
          . have:(aa5 bs).tail=[]:=Abq.1 (by rw [List.length_tail,bx])
            rw [this];rfl
         clear bx;go_wp2_with fail;go_loopw [9,46] (fun s9 s46 wr=>s9 = .bool false∧s46 = .int .i64 0∧wr=wo) (fun _ _ _=>0)
         case atStart=>exact⟨rfl,rfl,rfl⟩
         case round =>
          obtain⟨rfl,rfl,rfl⟩:=hrel;go_wp2_with fail;go_roundw
          case rel=>exact⟨false,up,rfl,aA.out,ay.out.1⟩
          case measure =>
           rw [aA.out.upW];exact ay.out.2
       . have bG:Hid (SlAt (fun b=>b≠AT∧b≠UP) w5 1 aaO (.slice (some ⟨ob,aS+1,none⟩) (k - 1) (oc - 1)) (af8 bs).tail):=ao0 aV.out bL
         obtain⟨T,hT⟩:∃T,T=k - 1:=⟨_,rfl⟩
         have HT:Hid ((aa5 bs).length=T+1∧(af8 bs).tail.length=T):=by
          have h1:=HL.out;have h2:=acB bs;refine⟨by omega,by rw [List.length_tail];omega⟩
         rw [<-hT] at bG;have cJ:T<n:=by omega
         go_wp2_with fail;rw [<-hT];clear hT aV;go_loopw [9,46] (fun s9 s46 wi=>∃(j:Nat) (m:Bool) (u:Nat->Int),j<=T∧s9 = .bool m∧s46 = .int .i64 j∧acW w w5 wi AT UP n (fun x=>(psF bs x:Int)) u∧PSt n (aa5 bs) (psF bs) (adI bs) (fpF bs) up (j+1) (u,m)∧agc (psF bs) (adI bs) ((aa5 bs).drop (j+1)) (u,m)=agc (psF bs) (adI bs) (aa5 bs).tail (up,false)) (fun _ s46 _=>T - (intOf s46).toNat)
         case atStart =>
          have hg:=aT.out.go rfl;exact⟨0,false,up,Aah _,rfl,rfl,aA.out,PSt.zero hg.1 hg.2.1,by rw [List.drop_one]⟩
         case round =>
          obtain⟨j,m,u,hj,rfl,rfl,aj,b6,b5⟩:=hrel;have av:=hid aj;have aU:=hid b6;have bD:=hid b5;clear aj b6 b5
          by_cases hjT:j<T
          . have br:j+1<(aa5 bs).length:=by rw [HT.out.1];omega
            obtain⟨bX,he⟩:=ajS al.out br;have bV:j<(af8 bs).tail.length:=by rw [HT.out.2];exact hjT
            obtain⟨cO,cC,e0,c0⟩:=abb (av.out.sl aae (fun b hb=>hb) bG.out) bV;cases e0;obtain⟨q,hq⟩:∃q,q=(aa5 bs)[j+1]:=⟨_,rfl⟩
            rw [List.getElem_tail,he,<-hq] at c0;have aP:q<n:=by rw [hq,<-ag.out];exact ahx al.out (Aaf _)
            have b7:q<(aheadF bs).length:=by unfold aheadF;simpa [ag.out] using aP
            obtain⟨rb,cD,cs,rfl,-,⟨rv,rfl,ai⟩,-,bS⟩:=(av.out.sl aax (fun b hb=>hb) ck.out).get b7;have b8:(aheadF bs)[q]=aag bs 0 q:=by
             have h:=abA (bs:=bs) (k:=q) (by rw [ag.out];exact aP);rw [Aac,Aaa b7] at h;exact h
            rw [b8] at ai;obtain⟨ra,rc,ct,cm⟩:=ai.val;subst ct;have d0:=bS.get1;obtain⟨R,hR⟩:∃R,R=(aag bs 0 q).length:=⟨_,rfl⟩
            rw [<-hR] at d0 ai cm;have HR:=hid hR;have bf:=hid ai;have Hq:=hid hq;have zo:ob<wr.heap.size:=aac c0;have zr:rb<wr.heap.size:=aac d0;rw [Aan] at d0;clear bS ai hR b8 hq he bV;go_wp2_with fail;clear c0 d0;obtain⟨wi,cw⟩:∃wi:World,wi=wr:=⟨_,rfl⟩
            subst cw;go_loopw [12,55] (fun s12 s55 wj=>∃(i:Nat) (ad:Int),i<=R∧s12 = .int .i64 ad∧s55 = .int .i64 i∧(0<=ad->0<=u ad.toNat) ∧ -1<=ad∧abu (psF bs) u ad ((adI bs q).drop i)=abu (psF bs) u (-1) (adI bs q)∧Below wi.heap.size wi wj) (fun _ s55 _=>R - (intOf s55).toNat)
            case atStart=>exact⟨0,-1,Aah _,rfl,rfl,fun h=>by omega,by omega,rfl,Below.refl _ _⟩
            case round =>
             obtain⟨i,ad,hi,rfl,rfl,bN,aB,bQ,bR⟩:=hrel;have bB:=hid bN;have bC:=hid bQ;have aF:=hid bR;clear bN bQ bR;have ak:Hid (acW w w5 wr AT UP n (fun x=>(psF bs x:Int)) u):=av.out.later aF.out
             by_cases hiR:i<R
             . have bq:i<(aag bs 0 q).length:=by rw [<-HR.out];exact hiR
               obtain⟨p',b4,aO,bT⟩:=amV bq;rw [ag.out] at aO;obtain⟨ib,cA,rfl,c0⟩:=abb (bf.out.later aae aF.out) bq;rw [b4] at c0;have c1:=ak.out.atU aO;obtain⟨x,hx⟩:∃x,u p'=x:=⟨_,rfl⟩
               rw [hx] at c1;have zi:ib<wr.heap.size:=aac c0;have zU:UP<wr.heap.size:=aac c1;have aq:Hid (abu (psF bs) u (aiK (psF bs) u ad p') ((adI bs q).drop (i+1))=abu (psF bs) u (-1) (adI bs q)):=by
                have h:=bC.out;rw [bT] at h;exact h
               have Hx:=hid hx;clear hx bT b4 bq
               by_cases hx0:x<0
               . have q1:decide (x<0)=true:=decide_eq_true hx0
                 have au:Hid (aiK (psF bs) u ad p'=ad):=by show _=_;unfold aiK;rw [Hx.out,if_pos hx0]
                 go_wp2_with fail;go_roundw
                 case rel=>exact⟨i+1,ad,by omega,rfl,by go_num,bB.out,aB,by rw [<-aq.out,au.out],aF.out⟩
                 case measure=>simp [intOf];omega
               . have q1:decide (x<0)=false:=decide_eq_false hx0
                 by_cases hbe:ad<0
                 . have q2:decide (ad<0)=true:=decide_eq_true hbe
                   have au:Hid (aiK (psF bs) u ad p'=(p':Int)):=by show _=_;unfold aiK;rw [Hx.out,if_neg hx0,if_pos hbe]
                   go_wp2_with fail;go_roundw
                   case rel=>exact⟨i+1,p',by omega,rfl,by go_num,fun _=>by rw [Aaj,Hx.out];omega,by omega,by rw [<-aq.out,au.out],aF.out⟩
                   case measure=>simp [intOf];omega
                 . have q2:decide (ad<0)=false:=decide_eq_false hbe
                   obtain⟨c,rfl⟩:=Aas (by omega:0<=ad);have aI:ahI n (psF bs) u:=aU.out.d.tree;have aX:0<=u c:=by have h:=bB.out (by omega);rw [Aaj] at h;exact h
                   have au:Hid (aiK (psF bs) u (c:Int) p'=((mtF (psF bs) u c p':Nat):Int)):=by show _=_;unfold aiK;rw [Hx.out,if_neg hx0,if_neg hbe,Aaj]
                   have cf:Hid (0<=u (mtF (psF bs) u c p')):=by
                    obtain⟨m1,-,-⟩:=agZ aI _ c p' aX (by rw [Hx.out];omega) (Abc _);exact (m1.pr aI aX).1
                   have aC := anr (S := fun b => b = UP) (S' := fun b => b = AT) (some ⟨UP, 0, none⟩) (some ⟨AT, 0, none⟩) n n n ((List.range n).map u) ((List.range n).map fun x => (psF bs x : Int)) (psF bs) u c p' wr
                    (ajn ak.out.rowU (fun y hy => by
                      unfold I64
                      have h1 := aU.out.low y
                      dsimp only at h1
                      rcases Int.lt_or_le (u y) 0 with h2 | h2
                      . omega
                      . have h3 := aI.lt _ (aI.next y h2)
                        omega) hn)
                    (ajn ak.out.rowA (fun y hy=>by unfold I64;have:=apR al.out y;have:=ag.out;omega) hn)
                    (by simp) (by simp) hn (fun y hy=>aiz hy) (fun y hy _=>aiz hy) aI aX (by rw [Hx.out];omega)
                   have aK:=hid aC;clear aC aI aX hbe
                   go_wp2_with (first
                    | (go_at_call 137; refine (aK.out).mono ?_; rintro e w7 ⟨rfl, bP⟩
                       have ca := hid bP
                       clear bP))
                   go_roundw
                   case rel=>exact⟨i+1,_,by omega,rfl,by go_num,fun _=>by rw [Aaj];exact cf.out,by omega,by rw [<-aq.out,au.out],aF.out.trans (ca.out.mono aF.out.size)⟩
                   case measure=>simp [intOf];omega
             . have bp:i=R:=by omega
               have ar:Hid (ad=abu (psF bs) u (-1) (adI bs q)):=by
                have h:=bC.out;rw [bp,HR.out,<-amW,List.drop_length] at h;exact h
               have ay:Hid (PSt n (aa5 bs) (psF bs) (adI bs) (fpF bs) up (j+1+1) (adB (psF bs) (adI bs) (u,m) q)):=by
                have h:=aU.out.next bd.out (by omega) br;rw [<-Hq.out] at h;exact h
               have bF:Hid (agc (psF bs) (adI bs) ((aa5 bs).drop (j+1+1)) (adB (psF bs) (adI bs) (u,m) q)=agc (psF bs) (adI bs) (aa5 bs).tail (up,false)):=by
                have h:=bD.out;rw [List.drop_eq_getElem_cons br,<-Hq.out] at h;exact h
               have c1:=ak.out.atU aP;have f1:=ak.out.fzU q;have zU:UP<wr.heap.size:=aac c1;obtain⟨x,hx⟩:∃x,u q=x:=⟨_,rfl⟩
               rw [hx] at c1
               by_cases hxb:x=ad
               . have q1:(decide (x<ad)||decide (ad<x))=false:=aoL hxb
                 have ae:Hid (adB (psF bs) (adI bs) (u,m) q=(u,m)):=by
                  show _=_;unfold adB;dsimp only;rw [if_neg (by rw [hx,<-ar.out];exact fun h=>h hxb)]
                 clear hxb hx;go_wp2_with fail;go_roundw
                 case rel=>exact⟨j+1,m,u,by omega,rfl,by go_num,ak.out,by rw [<-ae.out];exact ay.out,by rw [<-ae.out];exact bF.out⟩
                 case measure=>simp [intOf];omega
               . have q1:(decide (x<ad)||decide (ad<x))=true:=ad1 hxb
                 have ae:Hid (adB (psF bs) (adI bs) (u,m) q=(aeL u q ad,true)):=by
                  show _=_;unfold adB;dsimp only;rw [if_pos (by rw [hx,<-ar.out];exact hxb),<-ar.out]
                 clear hxb hx;go_wp2_with fail;go_roundw
                 case rel=>exact⟨j+1,true,aeL u q ad,by omega,rfl,by go_num,ak.out.setU q ad,by rw [<-ae.out];exact ay.out,by rw [<-ae.out];exact bF.out⟩
                 case measure=>simp [intOf];omega
          . have bt:j=T:=by omega
            subst bt;have ay:Hid (ala n bs m u∧2 * muF n (psF bs) u+akN (.bool m)<2 * muF n (psF bs) up+1):=by
             refine ala.next bd.out aT.out ?_ ?_
             . rw [HT.out.1];exact aU.out
             . have h:=bD.out
               rw [List.drop_of_length_le (by rw [HT.out.1];exact Aad _)] at h;exact h
            go_wp2_with fail;go_roundw
            case rel=>exact⟨m,u,rfl,av.out,ay.out.1⟩
            case measure =>
             rw [aA.out.upW,av.out.upW];exact ay.out.2
end
section
open Go.RowKit
end
section
open Go.RowKit
end
section
open Go.RowKit
theorem aph(n:Int):IntKind.i64.wrap n=(BitVec.ofInt 64 n).toInt:=by
 rw [BitVec.toInt_ofInt,IntKind.wrap_i64,Int.bmod];split <;> omega
theorem adw(x:BitVec 64):BitVec.ofInt 64 (x.toNat:Int)=x:=by
 apply BitVec.eq_of_toInt_eq;rw [BitVec.toInt_ofInt,BitVec.toInt_eq_toNat_bmod]
def bi(x:BitVec 64):Int:=x.toInt
theorem apw {x y:BitVec 64}(h:bi x=bi y):x=y:=BitVec.eq_of_toInt_eq h
theorem ahg(x:BitVec 64) : -9223372036854775808<=bi x∧bi x<=9223372036854775807:=by
 have h1:=BitVec.toInt_lt (x:=x);have h2:=BitVec.le_toInt (x:=x);unfold bi;omega
theorem apv(x:BitVec 64):I64 (bi x):=ahg x
theorem aoq {n:Int}(h:I64 n):bi (akm n)=n:=by
 unfold bi akm;rw [BitVec.toInt_ofInt,Int.bmod];unfold I64 at h;split <;> omega
theorem agy(n:Int):IntKind.i64.wrap n=bi (BitVec.ofInt 64 n):=aph n
@[go_sem] theorem aiM(x y:BitVec 64):bits .and .i64 (bi x) (bi y)=bi (x &&& y):=by
  show IntKind.i64.wrap ((BitVec.ofInt 64 x.toInt &&& BitVec.ofInt 64 y.toInt).toNat:Int)=_;rw [BitVec.ofInt_toInt,BitVec.ofInt_toInt,agy,adw]
@[go_sem] theorem apj(x y:BitVec 64):bits .or .i64 (bi x) (bi y)=bi (x ||| y):=by
  show IntKind.i64.wrap ((BitVec.ofInt 64 x.toInt ||| BitVec.ofInt 64 y.toInt).toNat:Int)=_;rw [BitVec.ofInt_toInt,BitVec.ofInt_toInt,agy,adw]
@[go_sem] theorem aos(x:BitVec 64):bits .xor .i64 (-1) (bi x)=bi (~~~x):=by
  show IntKind.i64.wrap ((BitVec.ofInt 64 (-1) ^^^ BitVec.ofInt 64 x.toInt).toNat:Int)=_;rw [BitVec.ofInt_toInt,agy,adw]
  congr 1
@[go_sem] theorem apl:IntKind.i64.signed=true:=rfl
end
section
open Go.RowKit
def bn(x:BitVec 64):Nat:=x.toNat
@[go_sem] theorem api(x:BitVec 64):IntKind.u64.wrap (bi x)=(bn x:Int):=by
  unfold bi bn;rw [BitVec.toInt_eq_toNat_bmod,IntKind.wrap_u64,Int.bmod];have:=x.isLt;split <;> omega
@[go_sem] theorem aor(x:BitVec 64):bits .xor .u64 IntKind.u64.max (bn x:Int)=(bn (~~~x):Int):=by
  show IntKind.u64.wrap ((BitVec.ofInt 64 18446744073709551615 ^^^ BitVec.ofInt 64 (x.toNat:Int)).toNat:Int)=_;rw [adw,show BitVec.ofInt 64 18446744073709551615=BitVec.allOnes 64 by decide,BitVec.allOnes_xor,IntKind.wrap_u64];unfold bn;have:=(~~~x).isLt;omega
end
end Go.Proofs.YtnkfdeiigplhoaaGreatDoor
