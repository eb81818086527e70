import Derived.Test.YtpeejlpcikefcaaGreatDoorPUnSt
import Derived.Test.YtpeejlpcikefcaaGreatDoorPUses
import Derived.Sort.CutIn
/- slices.Reverse of a row of instructions of the call's own. mem.unread. -/
set_option maxHeartbeats 8000000
set_option maxRecDepth 100000
namespace Go.Proofs.YtpeejlpcikefcaaGreatDoor
section
open Go.RowKit
def revK {α : Type} (l : List α) : Nat -> List α
 | 0=>l
 | k+1=>match (revK l k)[k]?,(revK l k)[l.length - 1 - k]? with
   | some x,some y=>((revK l k).set k y).set (l.length - 1 - k) x
   | _,_=>revK l k
variable {α:Type}
theorem ad7(l : List α) : ∀ k, (revK l k).length = l.length
 | 0=>rfl
 | k+1=>by
   unfold revK;split
   . rw [Aar,Aar];exact ad7 l k
   . exact ad7 l k
theorem akF {α:Type}{l:List α}{k:Nat}{x y:α}(hx:(revK l k)[k]?=some x)(hy:(revK l k)[l.length - 1 - k]?=some y):revK l (k+1)=((revK l k).set k y).set (l.length - 1 - k) x:=by
 conv=>lhs;unfold revK
 rw [hx,hy]
theorem ape(l : List α) : ∀ k, k + k <= l.length + 1 -> k <= l.length -> ∀ p, p < l.length -> (revK l k)[p]? = if p < k ∨ l.length <= p + k then l[l.length - 1 - p]? else l[p]?
 | 0,_,_,p,hp=>by rw [if_neg (by omega)];rfl
 | k+1,h1,h2,p,hp=>by
   have ih:=ape l k (by omega) (by omega);have hk:k<l.length:=by omega
   have hj:l.length - 1 - k<l.length:=by omega
   obtain⟨x,hx⟩:∃x,(revK l k)[k]?=some x:=⟨_,Aaa (by rw [ad7];exact hk)⟩
   obtain⟨y,hy⟩:∃y,(revK l k)[l.length - 1 - k]?=some y:=⟨_,Aaa (by rw [ad7];exact hj)⟩
   rw [akF hx hy,Aa6,Aa6];simp only [Aar,ad7]
   by_cases e1:l.length - 1 - k=p
   . rw [if_pos e1,if_pos (by omega),if_pos (by omega),<-hx,ih k hk]
     by_cases e3:k<k∨l.length<=k+k
     . rw [if_pos e3];congr 1;omega
     . rw [if_neg e3];congr 1;omega
   . rw [if_neg e1]
     by_cases e2:k=p
     . rw [if_pos e2,if_pos (by omega),if_pos (by omega),<-hy,ih _ hj]
       by_cases e3:l.length - 1 - k<k∨l.length<=l.length - 1 - k+k
       . rw [if_pos e3];congr 1;omega
       . rw [if_neg e3];congr 1;omega
     . rw [if_neg e2,ih p hp]
       by_cases e3:p<k∨l.length<=p+k
       . rw [if_pos e3,if_pos (by omega)]
       . rw [if_neg e3,if_neg (by omega)]
theorem aq5{l:List α}{k:Nat}(h1:l.length<=k+k+1)(h2:k+k<=l.length+1)(h3:k<=l.length):revK l k=l.reverse:=by
 apply Aao;intro p
 by_cases hp:p<l.length
 . rw [ape l k h2 h3 p hp,List.getElem?_reverse hp]
   by_cases e:p<k∨l.length<=p+k
   . rw [if_pos e]
   . rw [if_neg e];congr 1;omega
 . rw [Aap (by rw [ad7];omega),Aap (by rw [Ace];omega)]
theorem aeV{l : List α} {x : α} : ∀ k, x ∈ revK l k -> x ∈ l
 | 0,h=>h
 | k+1,h=>by
   unfold revK at h;split at h
   . rename_i a b ha hb
     rcases List.mem_or_eq_of_mem_set h with h | h
     . rcases List.mem_or_eq_of_mem_set h with h | h
       . exact aeV k h
       . rw [h];exact aeV k (Aae hb)
     . rw [h];exact aeV k (Aae ha)
   . exact aeV k h
theorem ait(base:Nat)(a:Option Addr)(n c:Nat)(E:List (List Value))(w:World)(hr:ade w base 49 8 (.slice a n c) E)(hE:E.length=n)(hn:n<=1048576)(hS:∀cs∈E,atk cs) :
 Calls Tryz.prog 33 #[.slice a n c] w fun e w'=>e = .returned (.tuple #[])∧ade w' base 49 8 (.slice a n c) E.reverse∧Kp (fun b=>(Value.slice a n c).ownBlock≠some b) w w':=by
 subst hE;have Hr:=hid hr;have HS:=hid hS;obtain⟨n,b7⟩:∃n,n=E.length:=⟨_,rfl⟩
 have Hn:=hid b7;rw [<-b7] at hn ⊢;clear hr hS b7;go_enter Tryz.func33,Tryz.ntmps33;go_wp2_with fail;go_loopw [2,3] (fun s2 s3 wr=>∃(k:Nat),k+k<=n+1∧k<=n∧s2 = .int .i64 (k:Int)∧s3 = .int .i64 ((n:Int) - 1 - k)∧ade wr base 49 8 (.slice a n c) (revK E k)∧Kp (fun b=>(Value.slice a n c).ownBlock≠some b) w wr) (fun s2 _ _=>n - (intOf s2).toNat)
 case atStart=>exact⟨0,by omega,by omega,rfl,by simp,by rw [Hn.out];exact Hr.out,Kp.refl _ _⟩
 case round =>
  obtain⟨k,hk,da,rfl,rfl,aJ,bN⟩:=hrel
  by_cases hlt:k+k+1<n
  . obtain⟨j,hj⟩:∃j,j=n - 1 - k:=⟨_,rfl⟩
    have e0:(n:Int) - 1 - k=(j:Int):=by omega
    rw [e0];have cV:(revK E k).length=n:=by rw [ad7,Hn.out]
    have bU:k<(revK E k).length:=by omega
    have b2:j<(revK E k).length:=by omega
    obtain⟨cs,aK⟩:∃cs,(revK E k)[k]?=some cs:=⟨_,Aaa bU⟩
    obtain⟨ds,bl⟩:∃ds,(revK E k)[j]?=some ds:=⟨_,Aaa b2⟩
    have bK:revK E (k+1)=((revK E k).set k ds).set j cs:=by
     rw [hj,Hn.out] at bl ⊢;exact akF aK bl
    obtain⟨v0,v1,v2,v3,v4,v5,v6,vs,vm,vk,rfl⟩:=HS.out cs (aeV k (Aae aK));obtain⟨y0,y1,y2,y3,y4,y5,y6,ys,ym,yk,rfl⟩:=HS.out ds (aeV k (Aae bl));obtain⟨g,c',hv,-,-,-,cr,hz⟩:=aJ.at aK (by decide);have ha:a=some ⟨g,0,none⟩:=by injection hv
    subst ha;obtain⟨g',c8,cf,-,-,-,bF,-⟩:=aJ.at bl (by decide);have cH:g=g':=by injection cf with e1;injection e1 with e2;injection e2
    subst cH;obtain⟨d0,d1,d2,d3,d4,d5,d6,d7⟩:=cr.get8;obtain⟨q0,q1,q2,q3,q4,q5,q6,q7⟩:=bF.get8;have zg:=aac d0;have z0:=hz (k * 8);have z1:=hz (k * 8+1);have z2:=hz (k * 8+2);have z3:=hz (k * 8+3);have z4:=hz (k * 8+4);have z5:=hz (k * 8+5);have z6:=hz (k * 8+6);have z7:=hz (k * 8+7);have x0:=hz (j * 8);have x1:=hz (j * 8+1);have x2:=hz (j * 8+2);have x3:=hz (j * 8+3);have x4:=hz (j * 8+4);have x5:=hz (j * 8+5);have x6:=hz (j * 8+6);have x7:=hz (j * 8+7);have r1:=aJ.set8 rfl bU (.int .i64 y0) (.int .i64 y1) (.bool y2) (.int .i64 y3) (.bool y4) (.int .i64 y5) (.int .i64 y6) (.slice ys ym yk);have b3:=r1.set8 rfl (by rw [Aar];exact b2) (.int .i64 v0) (.int .i64 v1) (.bool v2) (.int .i64 v3) (.bool v4) (.int .i64 v5) (.int .i64 v6) (.slice vs vm vk);rw [<-bK] at b3;have bJ:=bN.trans ((aaD (aaD (aaD (aaD (aaD (aaD (aaD (aaD (aaD (aaD (aaD (aaD (aaD (aaD (aaD (aaP wr g (k * 8) (.int .i64 y0)) (k * 8+1) (.int .i64 y1)) (k * 8+2) (.bool y2)) (k * 8+3) (.int .i64 y3)) (k * 8+4) (.bool y4)) (k * 8+5) (.int .i64 y5)) (k * 8+6) (.int .i64 y6)) (k * 8+7) (.slice ys ym yk)) (j * 8) (.int .i64 v0)) (j * 8+1) (.int .i64 v1)) (j * 8+2) (.bool v2)) (j * 8+3) (.int .i64 v3)) (j * 8+4) (.bool v4)) (j * 8+5) (.int .i64 v5)) (j * 8+6) (.int .i64 v6)) (j * 8+7) (.slice vs vm vk)).less fun b h e=>h (by rw [e];rfl));have cR:=hid b3;have ca:=hid bJ;have dd:k≠j:=by omega
    have cU:k<j:=by omega
    have cY:k<n:=by omega
    have c5:j<n:=by omega
    have Hj:=hid hj;clear aJ bN aK bl hv cf cr bF hz r1 b3 bJ bK cV bU b2 hj e0;go_wp2_with fail;go_big_region
    all_goals
     go_wp2_with fail;go_roundw
     case rel=>exact⟨k+1,by omega,by omega,by go_num,by have:=Hj.out;congr 1;omega,cR.out.off (Kp.of (Below.refl _ _).drew),ca.out.trans (Kp.of (Below.refl _ _).drew)⟩
     case measure=>simp [intOf];omega
  . have bV:=hid aJ
    have cT:=hid bN;have q:decide ((k:Int)<(n:Int) - 1 - k)=false:=decide_eq_false (by omega);have he:=aq5 (l:=E) (k:=k) (by have:=Hn.out;omega) (by have:=Hn.out;omega) (by have:=Hn.out;omega);have He:=hid he;clear aJ bN he;go_wp2_with fail;go_end0;exact⟨rfl,by rw [<-He.out];exact bV.out,cT.out⟩
end
section
open Go.RowKit Go.Shelf Go.Sort
attribute [local go_sem] Oper.semAt_some
variable {w Wr wr:World}{WD OB LB B:Nat}{words:Int}{S:Nat->Prop}{vo vl:Value}{xs:List (List Value)}{s:List aaA×List aaK}
theorem aeZ.obc(h:aeZ w WD OB LB B words S Wr wr vo vl xs s):wr.cell? ⟨OB,0,none⟩=some vo∧wr.frozen? ⟨OB,0,none⟩=false :=
 ⟨(aad (cs:=[_]) h.ob).get1,aaq h.ob 0⟩
theorem aeZ.lbc(h:aeZ w WD OB LB B words S Wr wr vo vl xs s):wr.cell? ⟨LB,0,none⟩=some vl∧wr.frozen? ⟨LB,0,none⟩=false :=
 ⟨(aad (cs:=[_]) h.lb).get1,aaq h.lb 0⟩
theorem aeZ.wdc(h:aeZ w WD OB LB B words S Wr wr vo vl xs s):wr.cell? ⟨WD,0,none⟩=some (.int .i64 words) :=
 (aad (cs:=[_]) h.wd).get1
theorem abO {V:World}{IB:Nat}{u0 u1 u2 u3 u4 u5 u6 u7:Value}{T:TypeId}(h:V.heap[IB]?=some (.cells #[u0,u1,u2,u3,u4,u5,u6,u7] T (0,0))) :
 V.cell? ⟨IB,0,none⟩=some u0∧V.cell? ⟨IB,1,none⟩=some u1∧V.cell? ⟨IB,2,none⟩=some u2∧V.cell? ⟨IB,3,none⟩=some u3∧V.cell? ⟨IB,4,none⟩=some u4∧V.cell? ⟨IB,5,none⟩=some u5∧V.cell? ⟨IB,6,none⟩=some u6∧V.cell? ⟨IB,7,none⟩=some u7:=by
 have h1:=(aad (cs:=[u0,u1,u2,u3,u4,u5,u6,u7]) h).get8;simp only [Aab] at h1;exact h1
theorem ajx(a:Option Addr)(n c:Nat)(l:List aaK)(words:Int)(w:World)(hl:SlAt S w 8 acs (.slice a n c) l)(cy:l.length=n)(hn:n<=1048576)(hS:∀c,S c->c<w.heap.size) :
 Calls Tryz.prog 16 #[.slice a n c,.int .i64 words] w fun e w'=>∃a m c xs,e = .returned (.slice a m c)∧m=xs.length∧ab2 w' (w.heap.size+4) S (.slice a m c) (ac2 words l) xs∧Below w.heap.size w w':=by
 obtain⟨ii,aY,aF,aG,aE⟩:=info_parts ahq;obtain⟨iv,cD,bo,bI,bC⟩:=info_parts ahp;obtain⟨E,bY,hE,b6⟩:=apX hl;obtain⟨dec,be⟩:=atT S w;have cJ:n=E.length:=by rw [bY];exact cy.symm
 subst cJ;have bt:∀cs∈E,∃y,acs S w cs y∧dec cs=y:=fun cs aK=>by
  obtain⟨i,hi⟩:=Acl.1 aK;have ck:=(Aad.1 hi).1;have h:=b6 i cs _ hi (Aaa (by rw [<-bY];exact ck));exact⟨_,h,be _ _ h⟩
 have cm:E.map dec=l:=by
  apply Aao;intro i;rw [Aak];cases hi:E[i]? with
  | none =>
    rw [List.getElem?_eq_none_iff] at hi;exact (List.getElem?_eq_none_iff.2 (by omega)).symm
  | some cs =>
    have ck:=(Aad.1 hi).1;have h2:=Aaa (l:=l) (i:=i) (by omega);rw [h2,<-be cs _ (b6 i cs _ hi h2)];rfl
 have Hi:=hid bt;have ct:=hid cm;have HE:=hid hE;have HS:=hid hS;have Hn:=hid hn;clear hl cy bt cm hE hS hn b6 be bY;refine (callsIn_wide (n:=6)).1 ?_;refine callsIn_of_wp_marks Tryz.func16 rfl trivial ?_ rfl;simp only [Tryz.ntmps16,Abo,Aa8,Ab6,Nat.reduceAdd,Nat.reduceSub,Ach,Aci,List.push_toArray,Acj,Abg,List.cons_append]
 gi_wp2_with (refine⟨trivial,?_⟩;gi_at_call 30;refine (aqm Fence.wide 5 trivial rfl _ _ _ _).mono ?_;rintro e w' ⟨rfl,rfl⟩)
 obtain⟨W0,a7⟩:∃V,V=((w.alloc (.cells #[.int .i64 words] 3)).alloc (.cells #[.slice none 0 0] 39)).alloc (.cells #[.slice none 0 0] 47):=⟨_,rfl⟩
 have bT:W0.heap.size=w.heap.size+1+1+1:=by rw [a7];simp
 have bm:Below w.heap.size w W0:=by rw [a7];exact bE
 obtain⟨Wk,bD⟩:∃V,V=W0.alloc (.cells #[.slice a E.length c] 39):=⟨_,rfl⟩
 have cX:Wk.heap.size=w.heap.size+4:=by rw [bD];simp [bT]
 have bh:Below W0.heap.size W0 Wk:=by rw [bD];exact bE
 have bW:Wk.cell? ⟨w.heap.size+3,0,none⟩=some (.slice a E.length c):=by
  have h:=heap_alloc_new W0 (.cells #[.slice a E.length c] 39);rw [<-bD,bT] at h;exact (aad (cs:=[_]) h).get1
 have h0:W0.heap[w.heap.size]?=some (.cells #[.int .i64 words] 3 (0,0)):=by
  rw [a7,Below.heap_alloc _ _ _ (by simp;omega),Below.heap_alloc _ _ _ (by simp)];exact heap_alloc_new _ _
 have h1:W0.heap[w.heap.size+1]?=some (.cells #[.slice none 0 0] 39 (0,0)):=by
  rw [a7,Below.heap_alloc _ _ _ (by simp)];have h:=heap_alloc_new (w.alloc (.cells #[.int .i64 words] 3)) (.cells #[.slice none 0 0] 39);simpa using h
 have h2:W0.heap[w.heap.size+2]?=some (.cells #[.slice none 0 0] 47 (0,0)):=by
  have h:=heap_alloc_new ((w.alloc (.cells #[.int .i64 words] 3)).alloc (.cells #[.slice none 0 0] 39)) (.cells #[.slice none 0 0] 47);rw [<-a7] at h;simpa using h
 rw [<-a7,<-bD];obtain⟨B,hB⟩:∃B,B=Wk.heap.size:=⟨_,rfl⟩
 obtain⟨WD,bB⟩:∃WD,WD=w.heap.size:=⟨_,rfl⟩
 obtain⟨OB,bx⟩:∃OB,OB=w.heap.size+1:=⟨_,rfl⟩
 obtain⟨LB,b1⟩:∃LB,LB=w.heap.size+1+1:=⟨_,rfl⟩
 obtain⟨BB,cv⟩:∃BB,BB=w.heap.size+1+1+1:=⟨_,rfl⟩
 have bz:aeZ w WD OB LB B words S Wk Wk (.slice none 0 0) (.slice none 0 0) [] ([],[]):=by
  have c4:Below w.heap.size w Wk:=bm.trans (bh.mono bm.size);refine⟨c4,⟨bB,bx,by omega,by omega⟩,by omega,?_,?_,?_,ab2.nil _ _ _,⟨World.ownsRow_nil _ _ _ _,fun cs h=>(by cases h)⟩,fun c hc=>(by cases hc),KeepsOthers.refl _,acP.refl _ _ _⟩
  . rw [bB,bh.block _ (by omega)];exact h0
  . rw [bx,bh.block _ (by omega)];exact h1
  . rw [b1,bh.block _ (by omega)];exact h2
 rw [<-cv] at bW ⊢;rw [<-b1,<-bx,<-bB];have cb:=hid bz;have aM:Hid (WD=w.heap.size∧OB=w.heap.size+1∧LB=w.heap.size+2∧BB=w.heap.size+3∧B=w.heap.size+4∧Wk.heap.size=B):=⟨bB,bx,by omega,by omega,by omega,by omega⟩
 have cO:=hid (bm.trans (bh.mono bm.size));have cM:=hid bW;clear bz bB bx b1 cv hB h0 h1 h2 bW bh cX bD bm bT a7
 refine ac8 (α := BackE E) rfl (by decide) (gf := 66) (lb := #[.pointer (some ⟨BB, 0, none⟩)]) rfl trivial (enters_of Tryz.func66 (by kernel_rfl) rfl)
  (alq Fence.wide (6 - 1) trivial rfl (by decide) BB B (fun k => k = OB ∨ k = LB) a c E Wk Wk Hn.out
    (fun i cs h => by
      obtain ⟨b, off, e1, e2, e3, e4⟩ := HE.out i cs h
      have h1 := HS.out b e2
      have h2 := aM.out
      exact ⟨b, off, e1, ⟨by omega, by omega⟩, e3, fun j u hj => aab (e4 j u hj) cO.out⟩)
    (by have h2 := aM.out; exact ⟨by omega, by omega⟩) (Below.refl _ _) cM.out)
  (fun h k=>adw h k) (aoa (by have h2:=aM.out;omega)) (Below.refl _ _) (fun _=>rfl)
  (fun pre V=>∃vo vl xs,aeZ w WD OB LB B words S V V vo vl xs ((pre.map fun x=>dec (cellsOf x)).foldl (aa0 words) ([],[])))
  (fun _ _ _=>False)
  ?hI ?hIx ?h0 (fun x => .cells (cellsOf x).toArray 49) (fun x m=>{ tmps:=#[.slice a E.length c,.int .i64 words,undef,.pointer (some ⟨WD,0,none⟩),.slice none 0 0,.pointer (some ⟨OB,0,none⟩),.pointer (some ⟨LB,0,none⟩),undef,.pointer (some ⟨m,0,none⟩),.slice a E.length c,(.func (.func 66) #[] #[.pointer (some ⟨BB,0,none⟩)]),.int .i64 (x.1.1:Int),.agg (cellsOf x).toArray,undef,undef,undef,undef,undef,undef,undef,undef,undef,undef,undef,undef,undef,undef,undef,undef,undef,undef,undef,undef,undef,undef,undef,undef,undef,undef,undef,undef,undef,undef,undef,undef,undef,undef,undef,undef,undef,undef,undef,undef,undef,undef],defers:=[] }) ?assign ?body ?done ?stop
 case hI =>
  rintro pre A A' row ⟨vo,vl,xs,aC⟩ hg hr;have c0:=aM.out;exact⟨vo,vl,xs,aC.grown HS.out hg fun r e=>⟨by have:=(hr r e).1;omega,(hr r e).2⟩⟩
 case hIx=>exact fun _ _ _ _ _ h _ _=>h
 case h0=>exact⟨_,_,_,cb.out⟩
 case assign =>
  intro l x V K hK;obtain⟨y,⟨v,aK,hv,-⟩,-⟩:=Hi.out _ (afg x);obtain⟨va,vc,rfl,-⟩:=hv;have he:aql x=#[.int .i64 (x.1.1:Int),.agg (cellsOf x).toArray]:=rfl;rw [he];rw [aK] at hK ⊢
  gi_wp2
  exact hK
 case body =>
  rintro lp pre x W ⟨vo,vl,xs,aC⟩ cL;obtain⟨y,bL,cx⟩:=Hi.out _ (afg x);obtain⟨ix,cE⟩:∃ix:Nat,ix=x.1.1:=⟨_,rfl⟩
  obtain⟨s,hs⟩:∃s,s=(pre.map fun x=>dec (cellsOf x)).foldl (aa0 words) ([],[]):=⟨_,rfl⟩
  have aV:((pre++[x]).map fun x=>dec (cellsOf x)).foldl (aa0 words) ([],[])=aa0 words s y:=by
   rw [Aa9,List.foldl_append,<-hs,<-cx];rfl
  have hlen:=apY words (pre.map fun x=>dec (cellsOf x)) ([],[]);rw [<-hs,Aah] at hlen;have cz:∀v∈s.1,I64 v.n:=by
   rw [hs];refine ar4 words _ _ (fun z hz=>?_) (fun v hv=>by cases hv);obtain⟨x',-,rfl⟩:=Aal.1 hz;obtain⟨z,⟨v,hc,-,-,-,h4,-⟩,hz⟩:=Hi.out _ (afg x');rw [hz];exact h4
  rw [<-hs] at aC;obtain⟨oa,oc,b0⟩:=aC.out.slice;subst b0;obtain⟨on,cg⟩:∃on,on=xs.length:=⟨_,rfl⟩
  rw [<-cg] at aC;obtain⟨ln,bH⟩:∃ln,ln=s.1.length:=⟨_,rfl⟩
  obtain⟨la,lc,c7⟩:∃a c,vl = .slice a ln c:=by
   obtain⟨a,c,e⟩:=aap aC.vals.own;exact⟨a,c,by rw [e,Aah,bH]⟩
  subst c7;obtain⟨yo,yd,⟨ar,an⟩,⟨br,bn⟩,yf,ai⟩:=y;obtain⟨av,aK,aN,bp⟩:=id bL;obtain⟨aa,ac,cK,-⟩:=id aN;subst cK;dsimp only at aK aN bp;obtain⟨al,cn⟩:∃al,al=ai.length:=⟨_,rfl⟩
  rw [<-cn] at aK;have aI:Hid (xs.length<=1048576):=by have h1:=aC.out.len;have h2:=hlen.2;have h3:=Hn.out;show _<=_;simp at h2;omega
  have bj:Hid (s.1.length<=1048576):=by have h2:=hlen.1;have h3:=Hn.out;show _<=_;simp at h2;omega
  rw [aK] at bL ⊢;have aH:=hid aC;have ay:=hid aV;have aS:=hid bL;have cq:=hid cz;have bO:=hid bH;rw [<-cE];clear aC aV bL cz hlen aK aN bp cn cx hs cE cL cg bH;obtain⟨IB,bQ⟩:∃IB,IB=W.heap.size:=⟨_,rfl⟩
  obtain⟨W4,bq⟩:∃V,V=W.alloc (.cells #[.int .i64 yo,.int .i64 yd,.bool ar,.int .i64 an,.bool br,.int .i64 bn,.int .i64 yf,.slice aa al ac] 49):=⟨_,rfl⟩
  have cC:W4.heap[IB]?=some (.cells #[.int .i64 yo,.int .i64 yd,.bool ar,.int .i64 an,.bool br,.int .i64 bn,.int .i64 yf,.slice aa al ac] 49 (0,0)):=by rw [bq,bQ];exact heap_alloc_new _ _
  have b4:Below W.heap.size W W4:=by rw [bq];exact bE
  have cp:IB<W4.heap.size:=by rw [bq,bQ];simp
  have cw:W.alloc (.cells [.int .i64 yo,.int .i64 yd,.bool ar,.int .i64 an,.bool br,.int .i64 bn,.int .i64 yf,.slice aa al ac].toArray 49)=W4:=bq.symm;rw [cw,<-bQ];have HX:Hid (∀V,Below W4.heap.size W4 V->V.heap[IB]?=some (.cells #[.int .i64 yo,.int .i64 yd,.bool ar,.int .i64 an,.bool br,.int .i64 bn,.int .i64 yf,.slice aa al ac] 49 (0,0))):=fun V hV=>(hV.block IB cp).trans cC;have az:=hid (aH.out.later b4);have cN:=hid (aay.out _ _ _ _ _ _ (fun _ h=>h) (aaS.below' (aH.out.below.trans (b4.mono aH.out.below.size))) aS.out);have aT:Hid (B<=IB∧(Value.slice oa on oc).ownBlock≠some IB∧(Value.slice la ln lc).ownBlock≠some IB):=by
   have bA:=aH.out.low;have db:=aH.out.big;exact⟨by omega,fun e=>by have:=(bA.1 IB e).2;omega,fun e=>by have:=(bA.2 IB e).2;omega⟩
  have aD:=hid (abO (HX.out W4 (Below.refl _ _)));obtain⟨x0,x1,x2,x3,x4,x5,x6,x7⟩:=aD.out;have zX:=aac x0;obtain⟨l0,fl⟩:=az.out.lbc;have zL:=aac l0;have d0:=az.out.wdc;have zD:=aac d0;clear bQ bq cC b4 cp cw
  by_cases h19:yo=19
  . subst h19
    cases hh:ain s.1 ⟨ar,an⟩ with
    | true =>
      have Hz:Hid (aa0 words s ⟨19,yd,⟨ar,an⟩,⟨br,bn⟩,yf,ai⟩=s):=by
       show _=_;unfold aa0;rw [if_pos rfl,if_pos hh]
      have a6:=aeO la ln lc s.1 ar an W4 (amU az.out.vals cq.out) bO.out.symm (by have:=bj.out;have:=bO.out;omega);rw [hh] at a6;have Hc:=hid a6;clear a6
      gi_wp2_with (refine⟨trivial,?_⟩;gi_at_call 31;refine (CallsIn.inRound lp (callsIn_wide.2 Hc.out)).mono ?_;rintro e W5 ⟨rfl,aB⟩;have aj:=hid (az.out.later aB);clear aB)
      exact⟨aj.out.ko,aj.out.ke,_,_,_,by rw [ay.out,Hz.out];exact aj.out.again⟩
    | false =>
      have a6:=aeO la ln lc s.1 ar an W4 (amU az.out.vals cq.out) bO.out.symm (by have:=bj.out;have:=bO.out;omega);rw [hh] at a6;have Hc:=hid a6;clear a6;cases hm:ahc words 19 ar an br bn with
      | true =>
        have Hz:Hid (aa0 words s ⟨19,yd,⟨ar,an⟩,⟨br,bn⟩,yf,ai⟩=([]++[⟨ar,an⟩],s.2++[⟨19,yd,⟨ar,an⟩,⟨br,bn⟩,yf,ai⟩])):=by
         show _=_;unfold aa0;rw [if_pos rfl,if_neg (by rw [hh];simp),ajP];dsimp only;rw [hm];rfl
        have aZ:Hid (∀V,Calls Tryz.prog 32 #[.agg #[.int .i64 19,.int .i64 yd,.bool ar,.int .i64 an,.bool br,.int .i64 bn,.int .i64 yf,.slice aa al ac],.int .i64 words] V fun e w'=>e = .returned (.bool true)∧Below V.heap.size V w'):=fun V=>by
         have h:=ajQ 19 yd an bn yf ar br aa al ac words V;rw [hm] at h;exact h
        clear hm hh
        gi_upto_region 9 with (first
         | (refine ⟨trivial, ?_⟩; gi_at_call 31; refine (CallsIn.inRound lp (callsIn_wide.2 Hc.out)).mono ?_; rintro e W5 ⟨rfl, aB⟩
            have aj := hid (az.out.later aB)
            have bG := hid aB
            obtain ⟨x0, x1, x2, x3, x4, x5, x6, x7⟩ := abO (HX.out W5 aB)
            have zX := aac x0
            have d0 := aj.out.wdc
            have zD := aac d0
            obtain ⟨l0, fl⟩ := aj.out.lbc
            have zL := aac l0
            clear aB)
         | (refine ⟨trivial, ?_⟩; gi_at_call 32; refine (CallsIn.inRound lp (callsIn_wide.2 (aZ.out _))).mono ?_; rintro e W6 ⟨rfl, a8⟩
            have aQ := hid (aj.out.later a8)
            have aP := bG.out.trans (a8.mono bG.out.size)
            have bd := HX.out W6 aP
            have cc := hid bd
            obtain ⟨x0, x1, x2, x3, x4, x5, x6, x7⟩ := abO bd
            have zX := aac x0
            obtain ⟨l0, fl⟩ := aQ.out.lbc
            have zL := aac l0
            clear a8 aP bd))
        obtain⟨WP,bP⟩:∃V,V=W6.setCell ⟨LB,0,none⟩ (.slice none 0 0):=⟨_,rfl⟩
        rw [<-bP]
        have ao := hid (show aeZ w WD OB LB B words S W WP (.slice oa on oc) (.slice none 0 0) xs ([], s.2) by
         rw [bP]
         exact aQ.out.put HS.out ⟨World.ownsRow_nil _ _ _ _, fun cs h => by cases h⟩ (fun c hc => by cases hc))
        have bu := hid (show WP.heap[IB]? = some (.cells #[.int .i64 19, .int .i64 yd, .bool ar, .int .i64 an, .bool br, .int .i64 bn, .int .i64 yf, .slice aa al ac] 49 (0, 0)) by
         rw [bP]
         exact ((aaP W6 LB 0 (.slice none 0 0)).block IB zX (by have := aT.out.1; have := aM.out; omega)).trans cc.out)
        clear bP
        obtain⟨x0,x1,x2,x3,x4,x5,x6,x7⟩:=abO bu.out;have zX:=aac x0;obtain⟨l0,fl⟩:=ao.out.lbc;have zL:=aac l0
        gi_upto_region 12 with
         (gi_at_builtin; refine wpListIn_append_own_at _ rfl _ _ 47 rfl B 41 iv (.agg #[.bool false, .int .i64 0]) 2 16 Tryz.underlying47 cD bo bI bC rfl (by decide) (.slice none 0 0) ([] : List aaA).length (([] : List aaA).map aaz).flatten rfl (aao (by have h := ao.out.vals.own; rw [Aah] at h; exact h) bE) ⟨WP.heap.size, 0, none⟩ 1 1 [.bool ar, .int .i64 an] rfl rfl (aaB WP _ _ rfl) (by intro u hu; simp only [Aam, Aaq, or_false] at hu; rcases hu with rfl | rfl <;> rfl) (by have := bj.out; unfold maxLen; simp) (by have := bj.out; simp) (by have := ao.out.big; simp; omega) ?_
          intro v8 w8 aA ad _ aO
          obtain ⟨b5, m8, b8, bZ⟩ : ∃ a m c, v8 = .slice a m c := by
           obtain ⟨a, c, e⟩ := aap aA
           exact ⟨a, _, c, e⟩
          subst bZ
          have bf : Below WP.heap.size WP (WP.alloc (.cells #[.bool ar, .int .i64 an] 41)) := by exact bE
          have ae := hid (ao.out.push HS.out bf (x := (⟨ar, an⟩ : aaA)) aA ad (by rcases aO with h | h; exact .inl h; exact .inr (by first | exact h | (rw [h]; simp))))
          have au : Kp (fun c => (Value.slice none 0 0).ownBlock ≠ some c) WP w8 := (Kp.of bf).trans ⟨ad.os, ad.tape, ad.output, ad.size, fun c hc hF => ad.block c hc fun e => hF e.symm⟩
          have a1 := (au.block IB zX (fun e => by cases e)).trans bu.out
          have b9 := hid a1
          have aX := (au.block LB zL (fun e => by have := (ao.out.low.2 LB e).1; have := ao.out.lo; omega)).trans ao.out.lb
          have l0 := (aad (cs := [_]) aX).get1
          have fl := aaq aX 0
          have zL := aac l0
          have bX : Hid (IB ≠ LB) := by have := aT.out.1; have := aM.out; show _ ≠ _; omega
          have zX := (Aag.1 a1).1
          clear aA ad aO bf au a1 aX x0 x1 x2 x3 x4 x5 x6 x7)
        obtain⟨W8,aq⟩:∃V,V=w8.setCell ⟨LB,0,none⟩ (.slice b5 m8 b8):=⟨_,rfl⟩
        rw [<-aq] at ae ⊢
        have aD := hid (abO (show W8.heap[IB]? = some (.cells #[.int .i64 19, .int .i64 yd, .bool ar, .int .i64 an, .bool br, .int .i64 bn, .int .i64 yf, .slice aa al ac] 49 (0, 0)) by
         rw [aq]
         exact ((aaP w8 LB 0 _).block IB zX bX.out).trans b9.out))
        clear aq l0 fl zL zX
        have aL:=hid (aay.out _ _ _ _ _ _ (fun _ h=>h) (aaS.below' ae.out.below) aS.out);obtain⟨x0,x1,x2,x3,x4,x5,x6,x7⟩:=aD.out;obtain⟨o0,fo⟩:=ae.out.obc;have zO:=aac o0;have zX:=aac x0;clear zX;have zX:=aac x0
        gi_wp2_with (gi_at_builtin;refine wpListIn_append_own_at _ rfl _ _ 39 rfl B 49 ii (.agg #[.int .i64 0,.int .i64 0,.bool false,.int .i64 0,.bool false,.int .i64 0,.int .i64 0,.slice none 0 0]) 8 80 Tryz.underlying39 aY aF aG aE rfl (by decide) (.slice oa on oc) xs.length xs.flatten rfl (aao ae.out.out.row.own bE) ⟨W8.heap.size,0,none⟩ 1 1 [.int .i64 19,.int .i64 yd,.bool ar,.int .i64 an,.bool br,.int .i64 bn,.int .i64 yf,.slice aa al ac] rfl rfl (aaB W8 _ _ rfl) (by intro u hu;simp only [Aam,Aaq,or_false] at hu;rcases hu with rfl | rfl | rfl | rfl | rfl | rfl | rfl | rfl <;> rfl) (by have:=aI.out;unfold maxLen;omega) (by have:=aI.out;omega) (by have:=ae.out.big;simp;omega) ?_)
        intro v9 w9 af ad _ ak;obtain⟨bk,bg,rfl⟩:=aap af;have aw:Below W8.heap.size W8 (W8.alloc (.cells #[.int .i64 19,.int .i64 yd,.bool ar,.int .i64 an,.bool br,.int .i64 bn,.int .i64 yf,.slice aa al ac] 49)):=by exact bE
        have ah:=ae.out.snoc HS.out aw rfl aL.out af ad (by rcases ak with h | h;exact .inl h;exact .inr (by first | exact h | (rw [h];simp)));have au:Kp (fun c=>(Value.slice oa on oc).ownBlock≠some c) W8 w9:=(Kp.of aw).trans ⟨ad.os,ad.tape,ad.output,ad.size,fun c hc hF=>ad.block c hc fun e=>hF e.symm⟩;have ax:=(au.block OB zO (fun e=>by have:=(ae.out.low.1 OB e).1;have:=ae.out.lo;omega)).trans ae.out.ob;have c9:=(aad (cs:=[_]) ax).get1;have f9:=aaq ax 0;have z9:=aac c9;rw [<-Hz.out] at ah;have ag:=hid ah;clear af ad ak aw ah au ax o0 fo zO x0 x1 x2 x3 x4 x5 x6 x7 zX
        gi_wp2
        exact⟨ag.out.ko,ag.out.ke,_,_,_,by rw [ay.out];exact ag.out.again⟩
      | false =>
        have Hz:Hid (aa0 words s ⟨19,yd,⟨ar,an⟩,⟨br,bn⟩,yf,ai⟩=(s.1++[⟨ar,an⟩],s.2++[⟨19,yd,⟨ar,an⟩,⟨br,bn⟩,yf,ai⟩])):=by
         show _=_;unfold aa0;rw [if_pos rfl,if_neg (by rw [hh];simp),ajP];dsimp only;rw [hm];rfl
        have aZ:Hid (∀V,Calls Tryz.prog 32 #[.agg #[.int .i64 19,.int .i64 yd,.bool ar,.int .i64 an,.bool br,.int .i64 bn,.int .i64 yf,.slice aa al ac],.int .i64 words] V fun e w'=>e = .returned (.bool false)∧Below V.heap.size V w'):=fun V=>by
         have h:=ajQ 19 yd an bn yf ar br aa al ac words V;rw [hm] at h;exact h
        clear hm hh
        gi_upto_region 9 with (first
         | (refine ⟨trivial, ?_⟩; gi_at_call 31; refine (CallsIn.inRound lp (callsIn_wide.2 Hc.out)).mono ?_; rintro e W5 ⟨rfl, aB⟩
            have aj := hid (az.out.later aB)
            have bG := hid aB
            obtain ⟨x0, x1, x2, x3, x4, x5, x6, x7⟩ := abO (HX.out W5 aB)
            have zX := aac x0
            have d0 := aj.out.wdc
            have zD := aac d0
            obtain ⟨l0, fl⟩ := aj.out.lbc
            have zL := aac l0
            clear aB)
         | (refine ⟨trivial, ?_⟩; gi_at_call 32; refine (CallsIn.inRound lp (callsIn_wide.2 (aZ.out _))).mono ?_; rintro e W6 ⟨rfl, a8⟩
            have aQ := hid (aj.out.later a8)
            have aP := bG.out.trans (a8.mono bG.out.size)
            have bd := HX.out W6 aP
            have cc := hid bd
            obtain ⟨x0, x1, x2, x3, x4, x5, x6, x7⟩ := abO bd
            have zX := aac x0
            obtain ⟨l0, fl⟩ := aQ.out.lbc
            have zL := aac l0
            clear a8 aP bd))
        have ao:=aQ;have bu:=cc
        obtain⟨x0,x1,x2,x3,x4,x5,x6,x7⟩:=abO bu.out;have zX:=aac x0;obtain⟨l0,fl⟩:=ao.out.lbc;have zL:=aac l0
        gi_upto_region 12 with
         (gi_at_builtin; refine wpListIn_append_own_at _ rfl _ _ 47 rfl B 41 iv (.agg #[.bool false, .int .i64 0]) 2 16 Tryz.underlying47 cD bo bI bC rfl (by decide) (.slice la ln lc) (s.1 : List aaA).length ((s.1 : List aaA).map aaz).flatten rfl (aao (by have h := ao.out.vals.own; rw [Aah] at h; exact h) bE) ⟨W6.heap.size, 0, none⟩ 1 1 [.bool ar, .int .i64 an] rfl rfl (aaB W6 _ _ rfl) (by intro u hu; simp only [Aam, Aaq, or_false] at hu; rcases hu with rfl | rfl <;> rfl) (by have := bj.out; unfold maxLen; omega) (by have := bj.out; omega) (by have := ao.out.big; simp; omega) ?_
          intro v8 w8 aA ad _ aO
          obtain ⟨b5, m8, b8, bZ⟩ : ∃ a m c, v8 = .slice a m c := by
           obtain ⟨a, c, e⟩ := aap aA
           exact ⟨a, _, c, e⟩
          subst bZ
          have bf : Below W6.heap.size W6 (W6.alloc (.cells #[.bool ar, .int .i64 an] 41)) := by exact bE
          have ae := hid (ao.out.push HS.out bf (x := (⟨ar, an⟩ : aaA)) aA ad (by rcases aO with h | h; exact .inl h; exact .inr (by first | exact h | (rw [h]; simp))))
          have au : Kp (fun c => (Value.slice la ln lc).ownBlock ≠ some c) W6 w8 := (Kp.of bf).trans ⟨ad.os, ad.tape, ad.output, ad.size, fun c hc hF => ad.block c hc fun e => hF e.symm⟩
          have a1 := (au.block IB zX aT.out.2.2).trans bu.out
          have b9 := hid a1
          have aX := (au.block LB zL (fun e => by have := (ao.out.low.2 LB e).1; have := ao.out.lo; omega)).trans ao.out.lb
          have l0 := (aad (cs := [_]) aX).get1
          have fl := aaq aX 0
          have zL := aac l0
          have bX : Hid (IB ≠ LB) := by have := aT.out.1; have := aM.out; show _ ≠ _; omega
          have zX := (Aag.1 a1).1
          clear aA ad aO bf au a1 aX x0 x1 x2 x3 x4 x5 x6 x7)
        obtain⟨W8,aq⟩:∃V,V=w8.setCell ⟨LB,0,none⟩ (.slice b5 m8 b8):=⟨_,rfl⟩
        rw [<-aq] at ae ⊢
        have aD := hid (abO (show W8.heap[IB]? = some (.cells #[.int .i64 19, .int .i64 yd, .bool ar, .int .i64 an, .bool br, .int .i64 bn, .int .i64 yf, .slice aa al ac] 49 (0, 0)) by
         rw [aq]
         exact ((aaP w8 LB 0 _).block IB zX bX.out).trans b9.out))
        clear aq l0 fl zL zX
        have aL:=hid (aay.out _ _ _ _ _ _ (fun _ h=>h) (aaS.below' ae.out.below) aS.out);obtain⟨x0,x1,x2,x3,x4,x5,x6,x7⟩:=aD.out;obtain⟨o0,fo⟩:=ae.out.obc;have zO:=aac o0;have zX:=aac x0;clear zX;have zX:=aac x0
        gi_wp2_with (gi_at_builtin;refine wpListIn_append_own_at _ rfl _ _ 39 rfl B 49 ii (.agg #[.int .i64 0,.int .i64 0,.bool false,.int .i64 0,.bool false,.int .i64 0,.int .i64 0,.slice none 0 0]) 8 80 Tryz.underlying39 aY aF aG aE rfl (by decide) (.slice oa on oc) xs.length xs.flatten rfl (aao ae.out.out.row.own bE) ⟨W8.heap.size,0,none⟩ 1 1 [.int .i64 19,.int .i64 yd,.bool ar,.int .i64 an,.bool br,.int .i64 bn,.int .i64 yf,.slice aa al ac] rfl rfl (aaB W8 _ _ rfl) (by intro u hu;simp only [Aam,Aaq,or_false] at hu;rcases hu with rfl | rfl | rfl | rfl | rfl | rfl | rfl | rfl <;> rfl) (by have:=aI.out;unfold maxLen;omega) (by have:=aI.out;omega) (by have:=ae.out.big;simp;omega) ?_)
        intro v9 w9 af ad _ ak;obtain⟨bk,bg,rfl⟩:=aap af;have aw:Below W8.heap.size W8 (W8.alloc (.cells #[.int .i64 19,.int .i64 yd,.bool ar,.int .i64 an,.bool br,.int .i64 bn,.int .i64 yf,.slice aa al ac] 49)):=by exact bE
        have ah:=ae.out.snoc HS.out aw rfl aL.out af ad (by rcases ak with h | h;exact .inl h;exact .inr (by first | exact h | (rw [h];simp)));have au:Kp (fun c=>(Value.slice oa on oc).ownBlock≠some c) W8 w9:=(Kp.of aw).trans ⟨ad.os,ad.tape,ad.output,ad.size,fun c hc hF=>ad.block c hc fun e=>hF e.symm⟩;have ax:=(au.block OB zO (fun e=>by have:=(ae.out.low.1 OB e).1;have:=ae.out.lo;omega)).trans ae.out.ob;have c9:=(aad (cs:=[_]) ax).get1;have f9:=aaq ax 0;have z9:=aac c9;rw [<-Hz.out] at ah;have ag:=hid ah;clear af ad ak aw ah au ax o0 fo zO x0 x1 x2 x3 x4 x5 x6 x7 zX
        gi_wp2
        exact⟨ag.out.ko,ag.out.ke,_,_,_,by rw [ay.out];exact ag.out.again⟩
  . by_cases h18:yo=18
    . subst h18
      clear h19 ;have Hz:Hid (aa0 words s ⟨18,yd,⟨ar,an⟩,⟨br,bn⟩,yf,ai⟩=([],s.2++[⟨18,yd,⟨ar,an⟩,⟨br,bn⟩,yf,ai⟩])):=by
       show _=_;unfold aa0;rw [if_neg (show ¬((18:Int)=19) by decide),if_pos (by simp)]
      have aj:=az;have aR:=hid (HX.out W4 (Below.refl _ _))
      gi_upto_region 12 with (refine⟨trivial,?_⟩)
      obtain⟨W8,aq⟩:∃V,V=W4.setCell ⟨LB,0,none⟩ (.slice none 0 0):=⟨_,rfl⟩
      rw [<-aq]
      have ae := hid (show aeZ w WD OB LB B words S W W8 (.slice oa on oc) (.slice none 0 0) xs ([], s.2) by
       rw [aq]
       exact aj.out.put HS.out ⟨World.ownsRow_nil _ _ _ _, fun cs h => by cases h⟩ (fun c hc => by cases hc))
      have aD := hid (abO (show W8.heap[IB]? = some (.cells #[.int .i64 18, .int .i64 yd, .bool ar, .int .i64 an, .bool br, .int .i64 bn, .int .i64 yf, .slice aa al ac] 49 (0, 0)) by
       rw [aq]
       exact ((aaP W4 LB 0 (.slice none 0 0)).block IB zX (by have := aT.out.1; have := aM.out; omega)).trans aR.out))
      clear aq l0 fl zL zX
      have aL:=hid (aay.out _ _ _ _ _ _ (fun _ h=>h) (aaS.below' ae.out.below) aS.out);obtain⟨x0,x1,x2,x3,x4,x5,x6,x7⟩:=aD.out;obtain⟨o0,fo⟩:=ae.out.obc;have zO:=aac o0;have zX:=aac x0;clear zX;have zX:=aac x0
      gi_wp2_with (gi_at_builtin;refine wpListIn_append_own_at _ rfl _ _ 39 rfl B 49 ii (.agg #[.int .i64 0,.int .i64 0,.bool false,.int .i64 0,.bool false,.int .i64 0,.int .i64 0,.slice none 0 0]) 8 80 Tryz.underlying39 aY aF aG aE rfl (by decide) (.slice oa on oc) xs.length xs.flatten rfl (aao ae.out.out.row.own bE) ⟨W8.heap.size,0,none⟩ 1 1 [.int .i64 18,.int .i64 yd,.bool ar,.int .i64 an,.bool br,.int .i64 bn,.int .i64 yf,.slice aa al ac] rfl rfl (aaB W8 _ _ rfl) (by intro u hu;simp only [Aam,Aaq,or_false] at hu;rcases hu with rfl | rfl | rfl | rfl | rfl | rfl | rfl | rfl <;> rfl) (by have:=aI.out;unfold maxLen;omega) (by have:=aI.out;omega) (by have:=ae.out.big;simp;omega) ?_)
      intro v9 w9 af ad _ ak;obtain⟨bk,bg,rfl⟩:=aap af;have aw:Below W8.heap.size W8 (W8.alloc (.cells #[.int .i64 18,.int .i64 yd,.bool ar,.int .i64 an,.bool br,.int .i64 bn,.int .i64 yf,.slice aa al ac] 49)):=by exact bE
      have ah:=ae.out.snoc HS.out aw rfl aL.out af ad (by rcases ak with h | h;exact .inl h;exact .inr (by first | exact h | (rw [h];simp)));have au:Kp (fun c=>(Value.slice oa on oc).ownBlock≠some c) W8 w9:=(Kp.of aw).trans ⟨ad.os,ad.tape,ad.output,ad.size,fun c hc hF=>ad.block c hc fun e=>hF e.symm⟩;have ax:=(au.block OB zO (fun e=>by have:=(ae.out.low.1 OB e).1;have:=ae.out.lo;omega)).trans ae.out.ob;have c9:=(aad (cs:=[_]) ax).get1;have f9:=aaq ax 0;have z9:=aac c9;rw [<-Hz.out] at ah;have ag:=hid ah;clear af ad ak aw ah au ax o0 fo zO x0 x1 x2 x3 x4 x5 x6 x7 zX
      gi_wp2
      exact⟨ag.out.ko,ag.out.ke,_,_,_,by rw [ay.out];exact ag.out.again⟩
    . by_cases h20:yo=20
      . subst h20
        clear h19 h18;have Hz:Hid (aa0 words s ⟨20,yd,⟨ar,an⟩,⟨br,bn⟩,yf,ai⟩=([],s.2++[⟨20,yd,⟨ar,an⟩,⟨br,bn⟩,yf,ai⟩])):=by
         show _=_;unfold aa0;rw [if_neg (show ¬((20:Int)=19) by decide),if_pos (by simp)]
        have aj:=az;have aR:=hid (HX.out W4 (Below.refl _ _))
        gi_upto_region 12 with (refine⟨trivial,?_⟩)
        obtain⟨W8,aq⟩:∃V,V=W4.setCell ⟨LB,0,none⟩ (.slice none 0 0):=⟨_,rfl⟩
        rw [<-aq]
        have ae := hid (show aeZ w WD OB LB B words S W W8 (.slice oa on oc) (.slice none 0 0) xs ([], s.2) by
         rw [aq]
         exact aj.out.put HS.out ⟨World.ownsRow_nil _ _ _ _, fun cs h => by cases h⟩ (fun c hc => by cases hc))
        have aD := hid (abO (show W8.heap[IB]? = some (.cells #[.int .i64 20, .int .i64 yd, .bool ar, .int .i64 an, .bool br, .int .i64 bn, .int .i64 yf, .slice aa al ac] 49 (0, 0)) by
         rw [aq]
         exact ((aaP W4 LB 0 (.slice none 0 0)).block IB zX (by have := aT.out.1; have := aM.out; omega)).trans aR.out))
        clear aq l0 fl zL zX
        have aL:=hid (aay.out _ _ _ _ _ _ (fun _ h=>h) (aaS.below' ae.out.below) aS.out);obtain⟨x0,x1,x2,x3,x4,x5,x6,x7⟩:=aD.out;obtain⟨o0,fo⟩:=ae.out.obc;have zO:=aac o0;have zX:=aac x0;clear zX;have zX:=aac x0
        gi_wp2_with (gi_at_builtin;refine wpListIn_append_own_at _ rfl _ _ 39 rfl B 49 ii (.agg #[.int .i64 0,.int .i64 0,.bool false,.int .i64 0,.bool false,.int .i64 0,.int .i64 0,.slice none 0 0]) 8 80 Tryz.underlying39 aY aF aG aE rfl (by decide) (.slice oa on oc) xs.length xs.flatten rfl (aao ae.out.out.row.own bE) ⟨W8.heap.size,0,none⟩ 1 1 [.int .i64 20,.int .i64 yd,.bool ar,.int .i64 an,.bool br,.int .i64 bn,.int .i64 yf,.slice aa al ac] rfl rfl (aaB W8 _ _ rfl) (by intro u hu;simp only [Aam,Aaq,or_false] at hu;rcases hu with rfl | rfl | rfl | rfl | rfl | rfl | rfl | rfl <;> rfl) (by have:=aI.out;unfold maxLen;omega) (by have:=aI.out;omega) (by have:=ae.out.big;simp;omega) ?_)
        intro v9 w9 af ad _ ak;obtain⟨bk,bg,rfl⟩:=aap af;have aw:Below W8.heap.size W8 (W8.alloc (.cells #[.int .i64 20,.int .i64 yd,.bool ar,.int .i64 an,.bool br,.int .i64 bn,.int .i64 yf,.slice aa al ac] 49)):=by exact bE
        have ah:=ae.out.snoc HS.out aw rfl aL.out af ad (by rcases ak with h | h;exact .inl h;exact .inr (by first | exact h | (rw [h];simp)));have au:Kp (fun c=>(Value.slice oa on oc).ownBlock≠some c) W8 w9:=(Kp.of aw).trans ⟨ad.os,ad.tape,ad.output,ad.size,fun c hc hF=>ad.block c hc fun e=>hF e.symm⟩;have ax:=(au.block OB zO (fun e=>by have:=(ae.out.low.1 OB e).1;have:=ae.out.lo;omega)).trans ae.out.ob;have c9:=(aad (cs:=[_]) ax).get1;have f9:=aaq ax 0;have z9:=aac c9;rw [<-Hz.out] at ah;have ag:=hid ah;clear af ad ak aw ah au ax o0 fo zO x0 x1 x2 x3 x4 x5 x6 x7 zX
        gi_wp2
        exact⟨ag.out.ko,ag.out.ke,_,_,_,by rw [ay.out];exact ag.out.again⟩
      . by_cases h22:yo=22
        . subst h22
          clear h19 h18 h20;have Hz:Hid (aa0 words s ⟨22,yd,⟨ar,an⟩,⟨br,bn⟩,yf,ai⟩=([],s.2++[⟨22,yd,⟨ar,an⟩,⟨br,bn⟩,yf,ai⟩])):=by
           show _=_;unfold aa0;rw [if_neg (show ¬((22:Int)=19) by decide),if_pos (by simp)]
          have aj:=az;have aR:=hid (HX.out W4 (Below.refl _ _))
          gi_upto_region 12 with (refine⟨trivial,?_⟩)
          obtain⟨W8,aq⟩:∃V,V=W4.setCell ⟨LB,0,none⟩ (.slice none 0 0):=⟨_,rfl⟩
          rw [<-aq]
          have ae := hid (show aeZ w WD OB LB B words S W W8 (.slice oa on oc) (.slice none 0 0) xs ([], s.2) by
           rw [aq]
           exact aj.out.put HS.out ⟨World.ownsRow_nil _ _ _ _, fun cs h => by cases h⟩ (fun c hc => by cases hc))
          have aD := hid (abO (show W8.heap[IB]? = some (.cells #[.int .i64 22, .int .i64 yd, .bool ar, .int .i64 an, .bool br, .int .i64 bn, .int .i64 yf, .slice aa al ac] 49 (0, 0)) by
           rw [aq]
           exact ((aaP W4 LB 0 (.slice none 0 0)).block IB zX (by have := aT.out.1; have := aM.out; omega)).trans aR.out))
          clear aq l0 fl zL zX
          have aL:=hid (aay.out _ _ _ _ _ _ (fun _ h=>h) (aaS.below' ae.out.below) aS.out);obtain⟨x0,x1,x2,x3,x4,x5,x6,x7⟩:=aD.out;obtain⟨o0,fo⟩:=ae.out.obc;have zO:=aac o0;have zX:=aac x0;clear zX;have zX:=aac x0
          gi_wp2_with (gi_at_builtin;refine wpListIn_append_own_at _ rfl _ _ 39 rfl B 49 ii (.agg #[.int .i64 0,.int .i64 0,.bool false,.int .i64 0,.bool false,.int .i64 0,.int .i64 0,.slice none 0 0]) 8 80 Tryz.underlying39 aY aF aG aE rfl (by decide) (.slice oa on oc) xs.length xs.flatten rfl (aao ae.out.out.row.own bE) ⟨W8.heap.size,0,none⟩ 1 1 [.int .i64 22,.int .i64 yd,.bool ar,.int .i64 an,.bool br,.int .i64 bn,.int .i64 yf,.slice aa al ac] rfl rfl (aaB W8 _ _ rfl) (by intro u hu;simp only [Aam,Aaq,or_false] at hu;rcases hu with rfl | rfl | rfl | rfl | rfl | rfl | rfl | rfl <;> rfl) (by have:=aI.out;unfold maxLen;omega) (by have:=aI.out;omega) (by have:=ae.out.big;simp;omega) ?_)
          intro v9 w9 af ad _ ak;obtain⟨bk,bg,rfl⟩:=aap af;have aw:Below W8.heap.size W8 (W8.alloc (.cells #[.int .i64 22,.int .i64 yd,.bool ar,.int .i64 an,.bool br,.int .i64 bn,.int .i64 yf,.slice aa al ac] 49)):=by exact bE
          have ah:=ae.out.snoc HS.out aw rfl aL.out af ad (by rcases ak with h | h;exact .inl h;exact .inr (by first | exact h | (rw [h];simp)));have au:Kp (fun c=>(Value.slice oa on oc).ownBlock≠some c) W8 w9:=(Kp.of aw).trans ⟨ad.os,ad.tape,ad.output,ad.size,fun c hc hF=>ad.block c hc fun e=>hF e.symm⟩;have ax:=(au.block OB zO (fun e=>by have:=(ae.out.low.1 OB e).1;have:=ae.out.lo;omega)).trans ae.out.ob;have c9:=(aad (cs:=[_]) ax).get1;have f9:=aaq ax 0;have z9:=aac c9;rw [<-Hz.out] at ah;have ag:=hid ah;clear af ad ak aw ah au ax o0 fo zO x0 x1 x2 x3 x4 x5 x6 x7 zX
          gi_wp2
          exact⟨ag.out.ko,ag.out.ke,_,_,_,by rw [ay.out];exact ag.out.again⟩
        . cases hm:ahc words yo ar an br bn with
          | true =>
            have Hz:Hid (aa0 words s ⟨yo,yd,⟨ar,an⟩,⟨br,bn⟩,yf,ai⟩=([],s.2++[⟨yo,yd,⟨ar,an⟩,⟨br,bn⟩,yf,ai⟩])):=by
             show _=_;unfold aa0;rw [if_neg h19];rw [if_pos (.inr (.inr (.inr (by rw [ajP];exact hm))))]
            have aZ:Hid (∀V,Calls Tryz.prog 32 #[.agg #[.int .i64 yo,.int .i64 yd,.bool ar,.int .i64 an,.bool br,.int .i64 bn,.int .i64 yf,.slice aa al ac],.int .i64 words] V fun e w'=>e = .returned (.bool true)∧Below V.heap.size V w'):=fun V=>by
             have h:=ajQ yo yd an bn yf ar br aa al ac words V;rw [hm] at h;exact h
            have cI:(decide (yo<=19)&&decide (19<=yo))=false:=ac0 h19;have cP:(decide (yo<=18)&&decide (18<=yo))=false:=ac0 h18;have cW:(decide (yo<=20)&&decide (20<=yo))=false:=ac0 h20;have c6:(decide (yo<=22)&&decide (22<=yo))=false:=ac0 h22;clear h19 h18 h20 h22 hm
            gi_upto_region 12 with
             (refine ⟨trivial, ?_⟩; gi_at_call 32; refine (CallsIn.inRound lp (callsIn_wide.2 (aZ.out _))).mono ?_; rintro e W5 ⟨rfl, aB⟩
              have aj := hid (az.out.later aB)
              have aW := HX.out W5 aB
              have aR := hid aW
              have zX := (Aag.1 aW).1
              obtain ⟨l0, fl⟩ := aj.out.lbc
              have zL := aac l0
              clear aB aW x0 x1 x2 x3 x4 x5 x6 x7 d0 zD)
            obtain⟨W8,aq⟩:∃V,V=W5.setCell ⟨LB,0,none⟩ (.slice none 0 0):=⟨_,rfl⟩
            rw [<-aq]
            have ae := hid (show aeZ w WD OB LB B words S W W8 (.slice oa on oc) (.slice none 0 0) xs ([], s.2) by
             rw [aq]
             exact aj.out.put HS.out ⟨World.ownsRow_nil _ _ _ _, fun cs h => by cases h⟩ (fun c hc => by cases hc))
            have aD := hid (abO (show W8.heap[IB]? = some (.cells #[.int .i64 yo, .int .i64 yd, .bool ar, .int .i64 an, .bool br, .int .i64 bn, .int .i64 yf, .slice aa al ac] 49 (0, 0)) by
             rw [aq]
             exact ((aaP W5 LB 0 (.slice none 0 0)).block IB zX (by have := aT.out.1; have := aM.out; omega)).trans aR.out))
            clear aq l0 fl zL zX
            have aL:=hid (aay.out _ _ _ _ _ _ (fun _ h=>h) (aaS.below' ae.out.below) aS.out);obtain⟨x0,x1,x2,x3,x4,x5,x6,x7⟩:=aD.out;obtain⟨o0,fo⟩:=ae.out.obc;have zO:=aac o0;have zX:=aac x0;clear zX;have zX:=aac x0
            gi_wp2_with (gi_at_builtin;refine wpListIn_append_own_at _ rfl _ _ 39 rfl B 49 ii (.agg #[.int .i64 0,.int .i64 0,.bool false,.int .i64 0,.bool false,.int .i64 0,.int .i64 0,.slice none 0 0]) 8 80 Tryz.underlying39 aY aF aG aE rfl (by decide) (.slice oa on oc) xs.length xs.flatten rfl (aao ae.out.out.row.own bE) ⟨W8.heap.size,0,none⟩ 1 1 [.int .i64 yo,.int .i64 yd,.bool ar,.int .i64 an,.bool br,.int .i64 bn,.int .i64 yf,.slice aa al ac] rfl rfl (aaB W8 _ _ rfl) (by intro u hu;simp only [Aam,Aaq,or_false] at hu;rcases hu with rfl | rfl | rfl | rfl | rfl | rfl | rfl | rfl <;> rfl) (by have:=aI.out;unfold maxLen;omega) (by have:=aI.out;omega) (by have:=ae.out.big;simp;omega) ?_)
            intro v9 w9 af ad _ ak;obtain⟨bk,bg,rfl⟩:=aap af;have aw:Below W8.heap.size W8 (W8.alloc (.cells #[.int .i64 yo,.int .i64 yd,.bool ar,.int .i64 an,.bool br,.int .i64 bn,.int .i64 yf,.slice aa al ac] 49)):=by exact bE
            have ah:=ae.out.snoc HS.out aw rfl aL.out af ad (by rcases ak with h | h;exact .inl h;exact .inr (by first | exact h | (rw [h];simp)));have au:Kp (fun c=>(Value.slice oa on oc).ownBlock≠some c) W8 w9:=(Kp.of aw).trans ⟨ad.os,ad.tape,ad.output,ad.size,fun c hc hF=>ad.block c hc fun e=>hF e.symm⟩;have ax:=(au.block OB zO (fun e=>by have:=(ae.out.low.1 OB e).1;have:=ae.out.lo;omega)).trans ae.out.ob;have c9:=(aad (cs:=[_]) ax).get1;have f9:=aaq ax 0;have z9:=aac c9;rw [<-Hz.out] at ah;have ag:=hid ah;clear af ad ak aw ah au ax o0 fo zO x0 x1 x2 x3 x4 x5 x6 x7 zX
            gi_wp2
            exact⟨ag.out.ko,ag.out.ke,_,_,_,by rw [ay.out];exact ag.out.again⟩
          | false =>
            have Hz:Hid (aa0 words s ⟨yo,yd,⟨ar,an⟩,⟨br,bn⟩,yf,ai⟩=(s.1,s.2++[⟨yo,yd,⟨ar,an⟩,⟨br,bn⟩,yf,ai⟩])):=by
             show _=_;unfold aa0;rw [if_neg h19];rw [if_neg (by rw [ajP,hm];simp [h18,h20,h22])]
            have aZ:Hid (∀V,Calls Tryz.prog 32 #[.agg #[.int .i64 yo,.int .i64 yd,.bool ar,.int .i64 an,.bool br,.int .i64 bn,.int .i64 yf,.slice aa al ac],.int .i64 words] V fun e w'=>e = .returned (.bool false)∧Below V.heap.size V w'):=fun V=>by
             have h:=ajQ yo yd an bn yf ar br aa al ac words V;rw [hm] at h;exact h
            have cI:(decide (yo<=19)&&decide (19<=yo))=false:=ac0 h19;have cP:(decide (yo<=18)&&decide (18<=yo))=false:=ac0 h18;have cW:(decide (yo<=20)&&decide (20<=yo))=false:=ac0 h20;have c6:(decide (yo<=22)&&decide (22<=yo))=false:=ac0 h22;clear h19 h18 h20 h22 hm
            gi_upto_region 12 with
             (refine ⟨trivial, ?_⟩; gi_at_call 32; refine (CallsIn.inRound lp (callsIn_wide.2 (aZ.out _))).mono ?_; rintro e W5 ⟨rfl, aB⟩
              have aj := hid (az.out.later aB)
              have aW := HX.out W5 aB
              have aR := hid aW
              have zX := (Aag.1 aW).1
              obtain ⟨l0, fl⟩ := aj.out.lbc
              have zL := aac l0
              clear aB aW x0 x1 x2 x3 x4 x5 x6 x7 d0 zD)
            have ae:=aj;have aD:=hid (abO aR.out);obtain⟨W8,aq⟩:∃V,V=W5:=⟨_,rfl⟩
            rw [<-aq] at ae aD ⊢;clear aq l0 fl zL zX
            have aL:=hid (aay.out _ _ _ _ _ _ (fun _ h=>h) (aaS.below' ae.out.below) aS.out);obtain⟨x0,x1,x2,x3,x4,x5,x6,x7⟩:=aD.out;obtain⟨o0,fo⟩:=ae.out.obc;have zO:=aac o0;have zX:=aac x0;clear zX;have zX:=aac x0
            gi_wp2_with (gi_at_builtin;refine wpListIn_append_own_at _ rfl _ _ 39 rfl B 49 ii (.agg #[.int .i64 0,.int .i64 0,.bool false,.int .i64 0,.bool false,.int .i64 0,.int .i64 0,.slice none 0 0]) 8 80 Tryz.underlying39 aY aF aG aE rfl (by decide) (.slice oa on oc) xs.length xs.flatten rfl (aao ae.out.out.row.own bE) ⟨W8.heap.size,0,none⟩ 1 1 [.int .i64 yo,.int .i64 yd,.bool ar,.int .i64 an,.bool br,.int .i64 bn,.int .i64 yf,.slice aa al ac] rfl rfl (aaB W8 _ _ rfl) (by intro u hu;simp only [Aam,Aaq,or_false] at hu;rcases hu with rfl | rfl | rfl | rfl | rfl | rfl | rfl | rfl <;> rfl) (by have:=aI.out;unfold maxLen;omega) (by have:=aI.out;omega) (by have:=ae.out.big;simp;omega) ?_)
            intro v9 w9 af ad _ ak;obtain⟨bk,bg,rfl⟩:=aap af;have aw:Below W8.heap.size W8 (W8.alloc (.cells #[.int .i64 yo,.int .i64 yd,.bool ar,.int .i64 an,.bool br,.int .i64 bn,.int .i64 yf,.slice aa al ac] 49)):=by exact bE
            have ah:=ae.out.snoc HS.out aw rfl aL.out af ad (by rcases ak with h | h;exact .inl h;exact .inr (by first | exact h | (rw [h];simp)));have au:Kp (fun c=>(Value.slice oa on oc).ownBlock≠some c) W8 w9:=(Kp.of aw).trans ⟨ad.os,ad.tape,ad.output,ad.size,fun c hc hF=>ad.block c hc fun e=>hF e.symm⟩;have ax:=(au.block OB zO (fun e=>by have:=(ae.out.low.1 OB e).1;have:=ae.out.lo;omega)).trans ae.out.ob;have c9:=(aad (cs:=[_]) ax).get1;have f9:=aaq ax 0;have z9:=aac c9;rw [<-Hz.out] at ah;have ag:=hid ah;clear af ad ak aw ah au ax o0 fo zO x0 x1 x2 x3 x4 x5 x6 x7 zX
            gi_wp2
            exact⟨ag.out.ko,ag.out.ke,_,_,_,by rw [ay.out];exact ag.out.again⟩
 case done =>
  rintro D ys V hD cj ⟨vo,vl,xs,aC⟩ hd;have aU:ys.map (fun x=>dec (cellsOf x))=l.reverse:=by
   have h:ys.map (fun x=>dec (cellsOf x))=(ys.map cellsOf).map dec:=by rw [Abb];rfl
   rw [h,cj,List.map_reverse,ct.out]
  rw [aU] at aC;have hlen:=apY words l.reverse ([],[]);rw [Ace] at hlen;have bH:l.length=E.length:=by rw [<-ct.out,Aah]
  have hn:=Hn.out;have cS:=aC.out.len;obtain⟨oa,oc,b0⟩:=aC.out.slice;subst b0;have cu:=ait B oa xs.length oc xs V aC.out.row rfl (by have h5:=hlen.2;simp only [Ab6,Aab] at h5;omega) aC.out.shape;have c3:=hid cu;have aH:=hid aC;have Hd:=hid hd;obtain⟨o0,-⟩:=aC.obc;have zO:=aac o0;clear aU aC hlen bH hn cS cu hd cj
  gi_wp2_with
   (refine ⟨trivial, ?_⟩; gi_at_call 33; refine (callsIn_wide.2 c3.out).mono ?_; rintro e w7 ⟨rfl, cB, bR⟩
    have o7 := bR.cell (fun e => by have := (aH.out.low.1 OB e).1; have := aH.out.lo; omega) o0
    have zO := aac o7
    have cZ := hid cB
    have bM := hid bR
    clear cB bR o0)
  have c0:=aM.out;have cQ:D<V.heap.size:=(Aag.1 Hd.out).1
  have cF : w7.heap[D]? = some (.deferred (some [])) := (bM.out.block D cQ (fun e => by
   obtain ⟨o, q1, q2⟩ := aH.out.out.row.isCells D e
   rw [Hd.out] at q1
   cases q1
   cases q2)).trans Hd.out
  have dc:=bM.out.size;refine aeJ (B:=B) (C:=D+1) _ _ (by omega) ((adH.nil B D w7).cons (Aac _) (by omega) (by omega) cF) (fun W' hW=>?_);have bS:Tryz.f16.results=#[.tmp 4]:=rfl;have bw:ab2 w7 B S (.slice oa xs.length oc) (ac2 words l) xs.reverse:=aH.out.out.rev cZ.out bM.out (fun c hc=>by have:=HS.out c hc;omega);have cA:Kp (fun c=>c<B) w7 W':=⟨hW.1.os,hW.1.tape,hW.1.output,hW.1.size,fun b _ hF=>hW.1.block b hF⟩
  refine⟨.slice oa xs.length oc,by unfold results;rw [bS];simp [go_sem],oa,xs.length,oc,xs.reverse,rfl,(by simp),?_,?_⟩
  . have cG:w.heap.size+4=B:=by omega
    rw [cG];refine⟨⟨⟨bw.row.own.1,?_⟩,bw.row.wid⟩,bw.len,fun i cs y h1 h2=>aay.out _ _ _ _ _ _ (fun _ h=>h) (cA.stays fun c hc=>by have:=HS.out c hc;omega) (bw.rd i cs y h1 h2)⟩;rcases bw.row.own.2 with h1 | ⟨g,cap,cur,e,h2,h3,h4⟩
    . exact .inl h1
    . exact .inr ⟨g,cap,cur,e,h2,hW.2 _ _ _ _ h3,h4⟩
  . exact (aH.out.below.trans (bM.out.below fun b hb=>⟨by have:=aH.out.big;omega,fun e=>by have:=(aH.out.low.1 b e).1;omega⟩)).trans (cA.below fun b hb=>⟨by have:=aH.out.big;omega,by omega⟩)
 case stop=>exact fun _ _ _ _ _ _ h _=>h.elim
end
end Go.Proofs.YtpeejlpcikefcaaGreatDoor
