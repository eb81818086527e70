import Derived.Test.YtpeejlpcikefcaaGreatDoorPPost
/- slices.Reverse of a row of numbers of the call's own. graph.Post and graph.OrderOf. -/
set_option maxHeartbeats 4000000
set_option maxRecDepth 100000
namespace Go.Proofs.YtpeejlpcikefcaaGreatDoor
section
open Go.RowKit
def ani(l:List Int)(k p:Nat):Int:=if p<k∨l.length<=p+k then l.getD (l.length - 1 - p) 0 else l.getD p 0
structure aoz (w:World)(g:Nat)(T:TypeId)(C:Nat)(l:List Int)(k:Nat)(W:World):Prop where
 grown:w.grownBy W (some g)
 row:∃cur,W.heap[g]?=some (.cells cur T (0,0))∧cur.size=C∧∀p,p<l.length->cur[p]?=some (.int .i64 (ani l k p))
variable {l:List Int}{k:Nat}
theorem aoz.turn{w:World}{g:Nat}{T:TypeId}{C:Nat}{W:World}(h:aoz w g T C l k W)(hk:k+k+1<l.length) :
 aoz w g T C l (k+1) ((W.setCell ⟨g,k,none⟩ (.int .i64 (ani l k (l.length - 1 - k)))).setCell ⟨g,l.length - 1 - k,none⟩ (.int .i64 (ani l k k))):=by
 obtain⟨cur,h1,h2,h3⟩:=h.row;have gs:∀(V:World) (j:Nat) (u:Value),V.grownBy (V.setCell ⟨g,j,none⟩ u) (some g):=fun V j u =>
  ⟨rfl,rfl,rfl,by simp [World.setCell],fun b _ hb=>Below.heap_setCell _ _ _ _ (fun e=>hb (by rw [e]))⟩
 refine⟨(h.grown.trans (gs _ _ _)).trans (gs _ _ _),_,aak (aak h1 _) _,by simp [h2],fun p hp=>?_⟩;have hc:p<cur.size:=by
  have:=h3 p hp;exact (Aag.1 this).1
 rw [Acp,Acp]
 by_cases h4:l.length - 1 - k=p
 . rw [if_pos h4,if_pos (by simpa using (by omega:l.length - 1 - k<cur.size))]
   congr 2
   unfold ani;rw [if_neg (by omega),if_pos (by omega)]
   congr 1
   omega
 . rw [if_neg h4]
   by_cases h5:k=p
   . rw [if_pos h5,if_pos (by omega)]
     congr 2
     unfold ani;rw [if_neg (by omega),if_pos (by omega)]
     congr 1
     omega
   . rw [if_neg h5,h3 p hp]
     congr 2
     unfold ani
     by_cases h6:p<k∨l.length<=p+k
     . rw [if_pos h6,if_pos (by omega)]
     . rw [if_neg h6,if_neg (by omega)]
theorem aoz.drew{w:World}{g:Nat}{T:TypeId}{C:Nat}{W:World}(h:aoz w g T C l k W):aoz w g T C l k W.drew :=
 ⟨⟨h.grown.os,h.grown.tape,h.grown.output,h.grown.size,h.grown.block⟩,h.row⟩
theorem alu(g n cap:Nat)(T:TypeId)(C:Nat)(l:List Int)(w:World)(h0:aoz w g T C l 0 w)(hl:l.length=n)(hn:n<=1048576) :
 Calls Tryz.prog 91 #[.slice (some ⟨g,0,none⟩) n cap] w fun e w'=>e = .returned (.tuple #[])∧∃k,n<=k+k+1∧k<=n∧aoz w g T C l k w':=by
 have H0:=hid h0;have Hl:=hid hl;clear h0 hl;go_enter Tryz.func91,Tryz.ntmps91;go_wp2_with fail;go_loopw [2,3] (fun s2 s3 wr=>∃(k:Nat),k+k<=n+1∧k<=n∧s2 = .int .i64 (k:Int)∧s3 = .int .i64 ((n:Int) - 1 - k)∧aoz w g T C l k wr) (fun s2 _ _=>n - (intOf s2).toNat)
 case atStart=>exact⟨0,by omega,by omega,rfl,by simp,H0.out⟩
 case round =>
  obtain⟨k,hk,aK,rfl,rfl,ad⟩:=hrel
  by_cases hlt:k+k+1<n
  . obtain⟨j,hj⟩:∃j,j=n - 1 - k:=⟨_,rfl⟩
    have e0:(n:Int) - 1 - k=(j:Int):=by omega
    rw [e0];obtain⟨cur,h1,h2,h3⟩:=ad.row;have c0:wr.cell? ⟨g,k,none⟩=some (.int .i64 (ani l k k)):=by rw [aaX h1];exact h3 k (by rw [Hl.out];omega)
    have c1:wr.cell? ⟨g,j,none⟩=some (.int .i64 (ani l k j)):=by rw [aaX h1];exact h3 j (by rw [Hl.out];omega)
    have f0:∀i,wr.frozen? ⟨g,i,none⟩=false:=fun i=>by simp [World.frozen?,h1]
    have f1:=f0 k;have f2:=f0 j;have ai:=hid ad;have aM:k≠j:=by omega
    have aO:k<j:=by omega
    have aI:k<n:=by omega
    have aP:j<n:=by omega
    have Hj:=hid hj;obtain⟨x,hx⟩:∃x,x=ani l k k:=⟨_,rfl⟩
    obtain⟨y,hy⟩:∃y,y=ani l k j:=⟨_,rfl⟩
    rw [<-hx] at c0;rw [<-hy] at c1;have Hx:=hid hx;have Hy:=hid hy;clear ad h1 h2 h3 f0 hj hx hy e0;go_wp2_with fail;go_big_region
    all_goals
     have av:aoz w g T C l (k+1) ((wr.setCell ⟨g,k,none⟩ (.int .i64 y)).setCell ⟨g,j,none⟩ (.int .i64 x)).drew:=by
      have h:=ai.out.turn (by rw [Hl.out];omega);rw [Hl.out,<-Hj.out,<-Hx.out,<-Hy.out] at h;exact h.drew
     have aH:=hid av;clear av;go_wp2_with fail;go_roundw
     case rel=>exact⟨k+1,by omega,by omega,by go_num,by have:=Hj.out;congr 1;omega,aH.out⟩
     case measure=>simp [intOf];omega
  . have ai:=hid ad
    have q:decide ((k:Int)<(n:Int) - 1 - k)=false:=decide_eq_false (by omega);clear ad;go_wp2_with fail;go_end0;exact⟨rfl,k,by omega,aK,ai.out⟩
theorem aqv(hk:l.length<=k+k+1){p:Nat}(hp:p<l.length):l.reverse[p]?=some (ani l k p):=by
 rw [List.getElem?_reverse hp];have e:∀i,i<l.length->l[i]?=some (l.getD i 0):=fun i hi=>by rw [Aaf,Aaa hi];rfl
 unfold ani
 by_cases h:p<k∨l.length<=p+k
 . rw [if_pos h,e _ (by omega)]
 . rw [if_neg h,show l.length - 1 - p=p by omega,e _ hp]
theorem alv(base:Nat)(v:Value)(l:List Int)(w:World)(h:abt base w v l)(hn:l.length<=1048576) :
 Calls Tryz.prog 91 #[v] w fun e w'=>e = .returned (.tuple #[])∧abt base w' v l.reverse∧w.grownBy w' v.ownBlock:=by
 obtain⟨⟨h1,h2⟩,h3⟩:=h;rcases h2 with⟨rfl,hl⟩ | ⟨g,cap,cur,rfl,hg,hgg,hnc,hm,hsz,htk⟩
 . obtain rfl:l=[]:=Acd.1 hl
   have an:Hid (abt base w (.slice none 0 0) []):=abt.nil base w;clear h1 h3 hl hn;go_enter Tryz.func91,Tryz.ntmps91;go_wp2_with fail;go_loopw [2,3] (fun s2 s3 wr=>s2 = .int .i64 0∧s3 = .int .i64 (-1)∧wr=w) (fun _ _ _=>0)
   case atStart=>exact⟨rfl,rfl,rfl⟩
   case round =>
    obtain⟨rfl,rfl,rfl⟩:=hrel;go_wp2_with fail;go_end0;exact⟨rfl,an.out,⟨rfl,rfl,rfl,Aac _,fun _ _ _=>rfl⟩⟩
 . have ae:∀p (hp:p<l.length),cur[p]?=some (.int .i64 l[p]):=fun p hp=>by
    have h:(cur.toList.take (l.length * 1))[p]?=(l.map fun x=>Value.int .i64 x)[p]?:=by rw [htk]
    rw [List.getElem?_take_of_lt (by omega),Aak,Aaa hp] at h;simpa using h
   have h0 : aoz w g 3 cur.size l 0 w := ⟨⟨rfl, rfl, rfl, Aac _, fun _ _ _ => rfl⟩, cur, hgg, rfl, fun p hp => by
    rw [ae p hp]
    unfold ani
    rw [if_neg (by omega), Aaf, Aaa hp]; rfl⟩
   refine (alu g l.length cap 3 cur.size l w h0 rfl hn).mono ?_;rintro e w' ⟨rfl,k,aC,-,ad⟩;obtain⟨ak,q1,q2,q3⟩:=ad.row;refine⟨rfl,⟨⟨by simp,.inr ⟨g,cap,ak,by rw [Ach],hg,q1,by rw [Ach];exact hnc,hm,by rw [q2];exact hsz,?_⟩⟩,fun x hx=>h3 x (Abw.1 hx)⟩,ad.grown⟩;refine Aap fun p=>?_;rw [Ach,Abd,Aak]
   by_cases hp:p<l.length
   . rw [List.getElem?_take_of_lt hp,aqv aC hp,Array.getElem?_toList,q3 p hp];rfl
   . rw [Aas (by rw [Aar];omega),Aas (by rw [Ach];omega)];rfl
end
section
open Go.RowKit
theorem abt.low {base base':Nat}{w:World}{v:Value}{l:List Int}(h:abt base w v l)(hb:base'<=base):abt base' w v l:=by
 refine⟨⟨h.1.1,?_⟩,h.2⟩;rcases h.1.2 with h1 | ⟨g,cap,cur,e1,h2,h3⟩
 . exact .inl h1
 . exact .inr ⟨g,cap,cur,e1,Aai hb h2,h3⟩
@[go_sem] theorem arG(P:Program)(w:World)(a:Addr)(m:Mode)(fn:Fn)(first captured:Array Value):(store a (.func fn first captured) m).run P w=stored P w a (.func fn first captured) m:=run_store P w a _ m rfl
theorem aoA(w:World)(a b c d e:Obj):(((((w.alloc a).alloc b).alloc c).alloc d).alloc e).heap.size=w.heap.size+5∧(((((w.alloc a).alloc b).alloc c).alloc d).alloc e).heap[w.heap.size]?=some a∧(((((w.alloc a).alloc b).alloc c).alloc d).alloc e).heap[w.heap.size+1]?=some b ∧
 (((((w.alloc a).alloc b).alloc c).alloc d).alloc e).heap[w.heap.size+1+1]?=some c∧(((((w.alloc a).alloc b).alloc c).alloc d).alloc e).heap[w.heap.size+1+1+1]?=some d∧(((((w.alloc a).alloc b).alloc c).alloc d).alloc e).heap[w.heap.size+1+1+1+1]?=some e:=by
 have hs:∀(v:World) (o:Obj),(v.alloc o).heap.size=v.heap.size+1:=fun v o=>by simp
 have s1:=hs w a;have s2:=hs (w.alloc a) b;have s3:=hs ((w.alloc a).alloc b) c;have s4:=hs (((w.alloc a).alloc b).alloc c) d;have s5:=hs ((((w.alloc a).alloc b).alloc c).alloc d) e;have e1:=heap_alloc_new w a;have e2:=heap_alloc_new (w.alloc a) b;have e3:=heap_alloc_new ((w.alloc a).alloc b) c;have e4:=heap_alloc_new (((w.alloc a).alloc b).alloc c) d;have e5:=heap_alloc_new ((((w.alloc a).alloc b).alloc c).alloc d) e;rw [s1] at e2;rw [s2,s1] at e3;rw [s3,s2,s1] at e4;rw [s4,s3,s2,s1] at e5;refine⟨by omega,?_,?_,?_,?_,e5⟩
 . rw [Below.heap_alloc _ _ _ (by omega),Below.heap_alloc _ _ _ (by omega),Below.heap_alloc _ _ _ (by omega),Below.heap_alloc _ _ _ (by omega)];exact e1
 . rw [Below.heap_alloc _ _ _ (by omega),Below.heap_alloc _ _ _ (by omega),Below.heap_alloc _ _ _ (by omega)];exact e2
 . rw [Below.heap_alloc _ _ _ (by omega),Below.heap_alloc _ _ _ (by omega)];exact e3
 . rw [Below.heap_alloc _ _ _ (by omega)];exact e4
theorem amt {S:Nat->Prop}(nm:ByteArray)(p r:Int)(ba:Option Addr)(n bc:Nat)(bs:List DBlock)(w:World)(hb:SlAt S w 6 aa0 (.slice ba n bc) bs)(hS:∀b,S b->b<w.heap.size)(af:bs.length=n)(hn:n<=1048576)(hto:aeX bs) :
 Calls Tryz.prog 49 #[.agg #[.string nm,.int .i64 p,.int .i64 r,.slice ba n bc]] w fun e w' =>
  ∃v,e = .returned v∧abt w.heap.size w' v (aaZ bs)∧Below w.heap.size w w':=by
 have Hb:=hid hb;have aj:=hid af;have aq:=hid hto;have HS:=hid hS;have aJ:0<n:=by rw [<-af];exact hto.pos
 clear hb af hto hS;have aF:=run_make_row' (P:=Tryz.prog) 104 4 (.bool false) 1 Tryz.underlying104 arx rfl .i64 .i64 n (by omega) (by omega);go_enter Tryz.func49,Tryz.ntmps49;go_wp2_with fail;obtain⟨W,hW⟩:∃W,W=(((((w.alloc (.cells #[.string nm,.int .i64 p,.int .i64 r,.slice ba n bc] 37)).alloc (.cells #[.slice none 0 0] 42)).alloc (.cells (madeCells #[.bool false] n) 4)).alloc (.cells #[.slice (some ⟨w.heap.size+1+1,0,none⟩) n n] 104)).alloc (.cells #[.func (.func 77) #[] #[.pointer (some ⟨w.heap.size+1+1+1,0,none⟩),.pointer (some ⟨w.heap.size,0,none⟩),.pointer (some ⟨w.heap.size+1+1+1+1,0,none⟩),.pointer (some ⟨w.heap.size+1,0,none⟩)]] 123)):=⟨_,rfl⟩
 rw [<-hW];have al:Below w.heap.size w W:=by rw [hW];exact bE
 obtain⟨aN,ar,hL,hO,ay,aw⟩:W.heap.size=w.heap.size+5∧W.heap[w.heap.size]?=_∧W.heap[w.heap.size+1]?=_∧W.heap[w.heap.size+1+1]?=_∧W.heap[w.heap.size+1+1+1]?=_∧W.heap[w.heap.size+1+1+1+1]?=_:=by rw [hW];exact aoA _ _ _ _ _ _
 have cF:W.cell? ⟨w.heap.size,3,none⟩=some (.slice ba n bc):=by rw [aaX ar];rfl
 have cS:W.cell? ⟨w.heap.size+1+1+1,0,none⟩=some (.slice (some ⟨w.heap.size+1+1,0,none⟩) n n):=by rw [aaX ay];rfl
 have cV:W.cell? ⟨w.heap.size+1+1+1+1,0,none⟩=some (.func (.func 77) #[] #[.pointer (some ⟨w.heap.size+1+1+1,0,none⟩),.pointer (some ⟨w.heap.size,0,none⟩),.pointer (some ⟨w.heap.size+1+1+1+1,0,none⟩),.pointer (some ⟨w.heap.size+1,0,none⟩)]):=by rw [aaX aw];rfl
 rw [ad6,<-List.map_replicate] at hO;have h0:apn W (w.heap.size+1+1) (w.heap.size+1) (w.heap.size+5) W (List.replicate n false,[]) (.slice none 0 0) :=
  ⟨by omega,fun _ _ _ _=>rfl,⟨rfl,rfl,rfl⟩,hO,hL,abt.nil _ _⟩
 have aD:=hid al
 have ah := apq W (w.heap.size + 1 + 1) (w.heap.size + 1) (w.heap.size + 5) (w.heap.size + 1 + 1 + 1) w.heap.size (w.heap.size + 1 + 1 + 1 + 1) n ba bc bs
  ((Hb.out.later aat al).mono aat (fun b hb=>by have:=HS.out b hb;omega) (aaS.refl _ _)) aj.out hn (fun k x hx=>by rw [<-aj.out];exact aq.out.tgt k x hx)
  (by omega) (by omega) (by omega) (by omega) (by omega) (by omega) cS cF cV n 0 _ _ W h0 (by simp) (by dsimp only;rw [Abz,if_pos aJ]) (by dsimp only;rw [List.count_replicate_self];exact Aac _) (by dsimp only;rw [List.count_replicate_self];simp)
 clear hW hL hO h0 cF cS cV al ar ay aw;refine ah.mono ?_;rintro e W' ⟨⟨u,rfl⟩,v',ad,aA⟩;have c0:=ad.left;have ai:=hid ad;have aL:=hid aA;clear ah ad aA aF;go_wp2_with fail;go_ret;have ad:=ai.out;refine⟨_,rfl,?_,?_⟩
 . have h:=ad.own.low (base':=w.heap.size) (by omega)
   unfold aaZ;rw [aj.out];exact h
 . have hb:=aD.out
   have hz:=ad.size;exact⟨ad.env.1.trans hb.os,ad.env.2.1.trans hb.tape,ad.env.2.2.trans hb.output,by omega,fun k hk=>(ad.keep k (by omega) (by omega) (by omega)).trans (hb.block k hk)⟩
theorem afg {S:Nat->Prop}(nm:ByteArray)(p r:Int)(ba:Option Addr)(n bc:Nat)(bs:List DBlock)(w:World)(hb:SlAt S w 6 aa0 (.slice ba n bc) bs)(hS:∀b,S b->b<w.heap.size)(af:bs.length=n)(hn:n<=1048576)(hto:aeX bs) :
 Calls Tryz.prog 59 #[.agg #[.string nm,.int .i64 p,.int .i64 r,.slice ba n bc]] w fun e w' =>
  ∃v,e = .returned v∧abt w.heap.size w' v (ordL bs)∧Below w.heap.size w w':=by
 have Hb:=hid hb;have aj:=hid af;have aq:=hid hto;have HS:=hid hS;have hlen:(aaZ bs).length<=1048576:=by have h:=aic hto;rw [af3] at h;omega
 have ao:=hid hlen;clear hb af hto hS hlen;go_enter Tryz.func59,Tryz.ntmps59
 go_wp2_with (first
  | (go_at_call 49; refine (amt (S := S) nm p r ba n bc bs _ (Hb.out.later aat bE) (fun b hb => by have := HS.out b hb; simp; omega) aj.out hn aq.out).mono ?_; rintro e w1 ⟨v, rfl, hv, ax⟩
     obtain ⟨a, c, rfl⟩ := hv.shape
     have Hv := hid hv
     have ag : Below w.heap.size w w1 := by exact bE1 ax
     have aB := hid ag
     clear hv ax ag)
  | (go_at_call 91; refine (alv _ _ (aaZ bs) _ Hv.out ao.out).mono ?_; rintro e w2 ⟨rfl, az, au⟩
     have aE := hid az
     have aG := hid au
     clear az au))
 go_ret;refine⟨_,rfl,aE.out.low (by simp),?_⟩;exact Below.grown aB.out aG.out aB.out.size (fun g hg=>by have:=(Hv.out.1.lt g hg).1;simp at this;omega)
end
end Go.Proofs.YtpeejlpcikefcaaGreatDoor
