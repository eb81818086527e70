import Derived.Test.YtpeejlpcikefcaaGreatDoorPUnSt
import Derived.Test.YtpeejlpcikefcaaGreatDoorPUses
import Derived.Sort.CutIn
/- slices.Reverse of a row of instructions of the call's own. mem.unread. -/
set_option maxHeartbeats 8000000
set_option maxRecDepth 100000
namespace Go.Proofs.YtpeejlpcikefcaaGreatDoor
section
open Go.RowKit
def revK {α : Type} (l : List α) : Nat -> List α
 | 0=>l
 | k+1=>match (revK l k)[k]?,(revK l k)[l.length - 1 - k]? with
   | some x,some y=>((revK l k).set k y).set (l.length - 1 - k) x
   | _,_=>revK l k
variable {α:Type}
theorem ad8(l : List α) : ∀ k, (revK l k).length = l.length
 | 0=>rfl
 | k+1=>by
   unfold revK;split
   . rw [Aat,Aat];exact ad8 l k
   . exact ad8 l k
theorem akF {α:Type}{l:List α}{k:Nat}{x y:α}(hx:(revK l k)[k]?=some x)(hy:(revK l k)[l.length - 1 - k]?=some y):revK l (k+1)=((revK l k).set k y).set (l.length - 1 - k) x:=by
 conv=>lhs;unfold revK
 rw [hx,hy]
theorem apa(l : List α) : ∀ k, k + k <= l.length + 1 -> k <= l.length -> ∀ p, p < l.length -> (revK l k)[p]? = if p < k ∨ l.length <= p + k then l[l.length - 1 - p]? else l[p]?
 | 0,_,_,p,hp=>by rw [if_neg (by omega)];rfl
 | k+1,h1,h2,p,hp=>by
   have ih:=apa l k (by omega) (by omega);have hk:k<l.length:=by omega
   have hj:l.length - 1 - k<l.length:=by omega
   obtain⟨x,hx⟩:∃x,(revK l k)[k]?=some x:=⟨_,Aaa (by rw [ad8];exact hk)⟩
   obtain⟨y,hy⟩:∃y,(revK l k)[l.length - 1 - k]?=some y:=⟨_,Aaa (by rw [ad8];exact hj)⟩
   rw [akF hx hy,Aa5,Aa5];simp only [Aat,ad8]
   by_cases e1:l.length - 1 - k=p
   . rw [if_pos e1,if_pos (by omega),if_pos (by omega),<-hx,ih k hk]
     by_cases e3:k<k∨l.length<=k+k
     . rw [if_pos e3];congr 1;omega
     . rw [if_neg e3];congr 1;omega
   . rw [if_neg e1]
     by_cases e2:k=p
     . rw [if_pos e2,if_pos (by omega),if_pos (by omega),<-hy,ih _ hj]
       by_cases e3:l.length - 1 - k<k∨l.length<=l.length - 1 - k+k
       . rw [if_pos e3];congr 1;omega
       . rw [if_neg e3];congr 1;omega
     . rw [if_neg e2,ih p hp]
       by_cases e3:p<k∨l.length<=p+k
       . rw [if_pos e3,if_pos (by omega)]
       . rw [if_neg e3,if_neg (by omega)]
theorem aqV{l:List α}{k:Nat}(h1:l.length<=k+k+1)(h2:k+k<=l.length+1)(h3:k<=l.length):revK l k=l.reverse:=by
 apply Aap;intro p
 by_cases hp:p<l.length
 . rw [apa l k h2 h3 p hp,List.getElem?_reverse hp]
   by_cases e:p<k∨l.length<=p+k
   . rw [if_pos e]
   . rw [if_neg e];congr 1;omega
 . rw [Aas (by rw [ad8];omega),Aas (by rw [Ach];omega)]
theorem aeU{l : List α} {x : α} : ∀ k, x ∈ revK l k -> x ∈ l
 | 0,h=>h
 | k+1,h=>by
   unfold revK at h;split at h
   . rename_i a b ha hb
     rcases List.mem_or_eq_of_mem_set h with h | h
     . rcases List.mem_or_eq_of_mem_set h with h | h
       . exact aeU k h
       . rw [h];exact aeU k (Aae hb)
     . rw [h];exact aeU k (Aae ha)
   . exact aeU k h
theorem aiw(base:Nat)(a:Option Addr)(n c:Nat)(E:List (List Value))(w:World)(hr:ac7 w base 49 8 (.slice a n c) E)(hE:E.length=n)(hn:n<=1048576)(hS:∀cs∈E,atc cs) :
 Calls Tryz.prog 33 #[.slice a n c] w fun e w'=>e = .returned (.tuple #[])∧ac7 w' base 49 8 (.slice a n c) E.reverse∧Kp (fun b=>(Value.slice a n c).ownBlock≠some b) w w':=by
 subst hE;have Hr:=hid hr;have HS:=hid hS;obtain⟨n,bX⟩:∃n,n=E.length:=⟨_,rfl⟩
 have Hn:=hid bX;rw [<-bX] at hn ⊢;clear hr hS bX;go_enter Tryz.func33,Tryz.ntmps33;go_wp2_with fail;go_loopw [2,3] (fun s2 s3 wr=>∃(k:Nat),k+k<=n+1∧k<=n∧s2 = .int .i64 (k:Int)∧s3 = .int .i64 ((n:Int) - 1 - k)∧ac7 wr base 49 8 (.slice a n c) (revK E k)∧Kp (fun b=>(Value.slice a n c).ownBlock≠some b) w wr) (fun s2 _ _=>n - (intOf s2).toNat)
 case atStart=>exact⟨0,by omega,by omega,rfl,by simp,by rw [Hn.out];exact Hr.out,Kp.refl _ _⟩
 case round =>
  obtain⟨k,hk,da,rfl,rfl,aK,bP⟩:=hrel
  by_cases hlt:k+k+1<n
  . obtain⟨j,hj⟩:∃j,j=n - 1 - k:=⟨_,rfl⟩
    have e0:(n:Int) - 1 - k=(j:Int):=by omega
    rw [e0];have cN:(revK E k).length=n:=by rw [ad8,Hn.out]
    have b6:k<(revK E k).length:=by omega
    have bV:j<(revK E k).length:=by omega
    obtain⟨cs,aJ⟩:∃cs,(revK E k)[k]?=some cs:=⟨_,Aaa b6⟩
    obtain⟨ds,bu⟩:∃ds,(revK E k)[j]?=some ds:=⟨_,Aaa bV⟩
    have bD:revK E (k+1)=((revK E k).set k ds).set j cs:=by
     rw [hj,Hn.out] at bu ⊢;exact akF aJ bu
    obtain⟨v0,v1,v2,v3,v4,v5,v6,vs,vm,vk,rfl⟩:=HS.out cs (aeU k (Aae aJ));obtain⟨y0,y1,y2,y3,y4,y5,y6,ys,ym,yk,rfl⟩:=HS.out ds (aeU k (Aae bu));obtain⟨g,c',hv,-,-,-,cA,hz⟩:=aK.at aJ (by decide);have ha:a=some ⟨g,0,none⟩:=by injection hv
    subst ha;obtain⟨g',dd,cw,-,-,-,bm,-⟩:=aK.at bu (by decide);have cZ:g=g':=by injection cw with e1;injection e1 with e2;injection e2
    subst cZ;obtain⟨d0,d1,d2,d3,d4,d5,d6,d7⟩:=cA.get8;obtain⟨q0,q1,q2,q3,q4,q5,q6,q7⟩:=bm.get8;have zg:=aac d0;have z0:=hz (k * 8);have z1:=hz (k * 8+1);have z2:=hz (k * 8+2);have z3:=hz (k * 8+3);have z4:=hz (k * 8+4);have z5:=hz (k * 8+5);have z6:=hz (k * 8+6);have z7:=hz (k * 8+7);have x0:=hz (j * 8);have x1:=hz (j * 8+1);have x2:=hz (j * 8+2);have x3:=hz (j * 8+3);have x4:=hz (j * 8+4);have x5:=hz (j * 8+5);have x6:=hz (j * 8+6);have x7:=hz (j * 8+7);have r1:=aK.set8 rfl b6 (.int .i64 y0) (.int .i64 y1) (.bool y2) (.int .i64 y3) (.bool y4) (.int .i64 y5) (.int .i64 y6) (.slice ys ym yk);have bR:=r1.set8 rfl (by rw [Aat];exact bV) (.int .i64 v0) (.int .i64 v1) (.bool v2) (.int .i64 v3) (.bool v4) (.int .i64 v5) (.int .i64 v6) (.slice vs vm vk);rw [<-bD] at bR;have bC:=bP.trans ((aaD (aaD (aaD (aaD (aaD (aaD (aaD (aaD (aaD (aaD (aaD (aaD (aaD (aaD (aaD (aaQ wr g (k * 8) (.int .i64 y0)) (k * 8+1) (.int .i64 y1)) (k * 8+2) (.bool y2)) (k * 8+3) (.int .i64 y3)) (k * 8+4) (.bool y4)) (k * 8+5) (.int .i64 y5)) (k * 8+6) (.int .i64 y6)) (k * 8+7) (.slice ys ym yk)) (j * 8) (.int .i64 v0)) (j * 8+1) (.int .i64 v1)) (j * 8+2) (.bool v2)) (j * 8+3) (.int .i64 v3)) (j * 8+4) (.bool v4)) (j * 8+5) (.int .i64 v5)) (j * 8+6) (.int .i64 v6)) (j * 8+7) (.slice vs vm vk)).less fun b h e=>h (by rw [e];rfl));have cQ:=hid bR;have b4:=hid bC;have dc:k≠j:=by omega
    have c6:k<j:=by omega
    have cU:k<n:=by omega
    have cS:j<n:=by omega
    have Hj:=hid hj;clear aK bP aJ bu hv cw cA bm hz r1 bR bC bD cN b6 bV hj e0;go_wp2_with fail;go_big_region
    all_goals
     go_wp2_with fail;go_roundw
     case rel=>exact⟨k+1,by omega,by omega,by go_num,by have:=Hj.out;congr 1;omega,cQ.out.off (Kp.of (Below.refl _ _).drew),b4.out.trans (Kp.of (Below.refl _ _).drew)⟩
     case measure=>simp [intOf];omega
  . have bW:=hid aK
    have cJ:=hid bP;have q:decide ((k:Int)<(n:Int) - 1 - k)=false:=decide_eq_false (by omega);have he:=aqV (l:=E) (k:=k) (by have:=Hn.out;omega) (by have:=Hn.out;omega) (by have:=Hn.out;omega);have He:=hid he;clear aK bP he;go_wp2_with fail;go_end0;exact⟨rfl,by rw [<-He.out];exact bW.out,cJ.out⟩
end
section
open Go.RowKit Go.Shelf Go.Sort
attribute [local go_sem] Oper.semAt_some
variable {w Wr wr:World}{WD OB LB B:Nat}{words:Int}{S:Nat->Prop}{vo vl:Value}{xs:List (List Value)}{s:List aay×List aaJ}
theorem aeY.obc(h:aeY w WD OB LB B words S Wr wr vo vl xs s):wr.cell? ⟨OB,0,none⟩=some vo∧wr.frozen? ⟨OB,0,none⟩=false :=
 ⟨(aad (cs:=[_]) h.ob).get1,aaq h.ob 0⟩
theorem aeY.lbc(h:aeY w WD OB LB B words S Wr wr vo vl xs s):wr.cell? ⟨LB,0,none⟩=some vl∧wr.frozen? ⟨LB,0,none⟩=false :=
 ⟨(aad (cs:=[_]) h.lb).get1,aaq h.lb 0⟩
theorem aeY.wdc(h:aeY w WD OB LB B words S Wr wr vo vl xs s):wr.cell? ⟨WD,0,none⟩=some (.int .i64 words) :=
 (aad (cs:=[_]) h.wd).get1
theorem abO {V:World}{IB:Nat}{u0 u1 u2 u3 u4 u5 u6 u7:Value}{T:TypeId}(h:V.heap[IB]?=some (.cells #[u0,u1,u2,u3,u4,u5,u6,u7] T (0,0))) :
 V.cell? ⟨IB,0,none⟩=some u0∧V.cell? ⟨IB,1,none⟩=some u1∧V.cell? ⟨IB,2,none⟩=some u2∧V.cell? ⟨IB,3,none⟩=some u3∧V.cell? ⟨IB,4,none⟩=some u4∧V.cell? ⟨IB,5,none⟩=some u5∧V.cell? ⟨IB,6,none⟩=some u6∧V.cell? ⟨IB,7,none⟩=some u7:=by
 have h1:=(aad (cs:=[u0,u1,u2,u3,u4,u5,u6,u7]) h).get8;simp only [Aab] at h1;exact h1
theorem ajD(a:Option Addr)(n c:Nat)(l:List aaJ)(words:Int)(w:World)(hl:SlAt S w 8 acb (.slice a n c) l)(cB:l.length=n)(hn:n<=1048576)(hS:∀c,S c->c<w.heap.size) :
 Calls Tryz.prog 16 #[.slice a n c,.int .i64 words] w fun e w'=>∃a m c xs,e = .returned (.slice a m c)∧m=xs.length∧ab1 w' (w.heap.size+4) S (.slice a m c) (agm words l) xs∧Below w.heap.size w w':=by
 obtain⟨ii,bf,aE,aF,aG⟩:=info_parts ahr;obtain⟨iv,cm,bI,bt,bp⟩:=info_parts ahq;obtain⟨E,b8,hE,bU⟩:=apT hl;obtain⟨dec,a8⟩:=atN S w;have cW:n=E.length:=by rw [b8];exact cB.symm
 subst cW;have bK:∀cs∈E,∃y,acb S w cs y∧dec cs=y:=fun cs aJ=>by
  obtain⟨i,hi⟩:=List.mem_iff_getElem?.1 aJ;have cj:=(Aad.1 hi).1;have h:=bU i cs _ hi (Aaa (by rw [<-b8];exact cj));exact⟨_,h,a8 _ _ h⟩
 have cq:E.map dec=l:=by
  apply Aap;intro i;rw [Aak];cases hi:E[i]? with
  | none =>
    rw [List.getElem?_eq_none_iff] at hi;exact (List.getElem?_eq_none_iff.2 (by omega)).symm
  | some cs =>
    have cj:=(Aad.1 hi).1;have h2:=Aaa (l:=l) (i:=i) (by omega);rw [h2,<-a8 cs _ (bU i cs _ hi h2)];rfl
 have Hi:=hid bK;have cE:=hid cq;have HE:=hid hE;have HS:=hid hS;have Hn:=hid hn;clear hl cB bK cq hE hS hn bU a8 b8;refine (callsIn_wide (n:=6)).1 ?_;refine callsIn_of_wp_marks Tryz.func16 rfl trivial ?_ rfl;simp only [Tryz.ntmps16,Abn,Aba,Ab5,Nat.reduceAdd,Nat.reduceSub,Ace,Acf,List.push_toArray,Acg,Abc,Ab6]
 gi_wp2_with (refine⟨trivial,?_⟩;gi_at_call 30;refine (aqh Fence.wide 5 trivial rfl _ _ _ _).mono ?_;rintro e w' ⟨rfl,rfl⟩)
 obtain⟨W0,aY⟩:∃V,V=((w.alloc (.cells #[.int .i64 words] 3)).alloc (.cells #[.slice none 0 0] 39)).alloc (.cells #[.slice none 0 0] 47):=⟨_,rfl⟩
 have ca:W0.heap.size=w.heap.size+1+1+1:=by rw [aY];simp
 have bz:Below w.heap.size w W0:=by rw [aY];exact bE
 obtain⟨Wk,bB⟩:∃V,V=W0.alloc (.cells #[.slice a E.length c] 39):=⟨_,rfl⟩
 have cG:Wk.heap.size=w.heap.size+4:=by rw [bB];simp [ca]
 have bh:Below W0.heap.size W0 Wk:=by rw [bB];exact bE
 have b3:Wk.cell? ⟨w.heap.size+3,0,none⟩=some (.slice a E.length c):=by
  have h:=heap_alloc_new W0 (.cells #[.slice a E.length c] 39);rw [<-bB,ca] at h;exact (aad (cs:=[_]) h).get1
 have h0:W0.heap[w.heap.size]?=some (.cells #[.int .i64 words] 3 (0,0)):=by
  rw [aY,Below.heap_alloc _ _ _ (by simp;omega),Below.heap_alloc _ _ _ (by simp)];exact heap_alloc_new _ _
 have h1:W0.heap[w.heap.size+1]?=some (.cells #[.slice none 0 0] 39 (0,0)):=by
  rw [aY,Below.heap_alloc _ _ _ (by simp)];have h:=heap_alloc_new (w.alloc (.cells #[.int .i64 words] 3)) (.cells #[.slice none 0 0] 39);simpa using h
 have h2:W0.heap[w.heap.size+2]?=some (.cells #[.slice none 0 0] 47 (0,0)):=by
  have h:=heap_alloc_new ((w.alloc (.cells #[.int .i64 words] 3)).alloc (.cells #[.slice none 0 0] 39)) (.cells #[.slice none 0 0] 47);rw [<-aY] at h;simpa using h
 rw [<-aY,<-bB];obtain⟨B,hB⟩:∃B,B=Wk.heap.size:=⟨_,rfl⟩
 obtain⟨WD,bo⟩:∃WD,WD=w.heap.size:=⟨_,rfl⟩
 obtain⟨OB,bF⟩:∃OB,OB=w.heap.size+1:=⟨_,rfl⟩
 obtain⟨LB,cb⟩:∃LB,LB=w.heap.size+1+1:=⟨_,rfl⟩
 obtain⟨BB,cy⟩:∃BB,BB=w.heap.size+1+1+1:=⟨_,rfl⟩
 have bx:aeY w WD OB LB B words S Wk Wk (.slice none 0 0) (.slice none 0 0) [] ([],[]):=by
  have c0:Below w.heap.size w Wk:=bz.trans (bh.mono bz.size);refine⟨c0,⟨bo,bF,by omega,by omega⟩,by omega,?_,?_,?_,ab1.nil _ _ _,⟨World.ownsRow_nil _ _ _ _,fun cs h=>(by cases h)⟩,fun c hc=>(by cases hc),KeepsOthers.refl _,acQ.refl _ _ _⟩
  . rw [bo,bh.block _ (by omega)];exact h0
  . rw [bF,bh.block _ (by omega)];exact h1
  . rw [cb,bh.block _ (by omega)];exact h2
 rw [<-cy] at b3 ⊢;rw [<-cb,<-bF,<-bo];have b2:=hid bx;have aM:Hid (WD=w.heap.size∧OB=w.heap.size+1∧LB=w.heap.size+2∧BB=w.heap.size+3∧B=w.heap.size+4∧Wk.heap.size=B):=⟨bo,bF,by omega,by omega,by omega,by omega⟩
 have c4:=hid (bz.trans (bh.mono bz.size));have cL:=hid b3;clear bx bo bF cb cy hB h0 h1 h2 b3 bh cG bB bz ca aY
 refine ac4 (α := BackE E) rfl (by decide) (gf := 66) (lb := #[.pointer (some ⟨BB, 0, none⟩)]) rfl trivial (enters_of Tryz.func66 (by kernel_rfl) rfl)
  (alo Fence.wide (6 - 1) trivial rfl (by decide) BB B (fun k => k = OB ∨ k = LB) a c E Wk Wk Hn.out
    (fun i cs h => by
      obtain ⟨b, off, e1, e2, e3, e4⟩ := HE.out i cs h
      have h1 := HS.out b e2
      have h2 := aM.out
      exact ⟨b, off, e1, ⟨by omega, by omega⟩, e3, fun j u hj => aab (e4 j u hj) c4.out⟩)
    (by have h2 := aM.out; exact ⟨by omega, by omega⟩) (Below.refl _ _) cL.out)
  (fun h k=>adx h k) (aoc (by have h2:=aM.out;omega)) (Below.refl _ _) (fun _=>rfl)
  (fun pre V=>∃vo vl xs,aeY w WD OB LB B words S V V vo vl xs ((pre.map fun x=>dec (cellsOf x)).foldl (aa1 words) ([],[])))
  (fun _ _ _=>False)
  ?hI ?hIx ?h0 (fun x => .cells (cellsOf x).toArray 49) (fun x m=>{ tmps:=#[.slice a E.length c,.int .i64 words,undef,.pointer (some ⟨WD,0,none⟩),.slice none 0 0,.pointer (some ⟨OB,0,none⟩),.pointer (some ⟨LB,0,none⟩),undef,.pointer (some ⟨m,0,none⟩),.slice a E.length c,(.func (.func 66) #[] #[.pointer (some ⟨BB,0,none⟩)]),.int .i64 (x.1.1:Int),.agg (cellsOf x).toArray,undef,undef,undef,undef,undef,undef,undef,undef,undef,undef,undef,undef,undef,undef,undef,undef,undef,undef,undef,undef,undef,undef,undef,undef,undef,undef,undef,undef,undef,undef,undef,undef,undef,undef,undef,undef,undef,undef,undef,undef,undef,undef],defers:=[] }) ?assign ?body ?done ?stop
 case hI =>
  rintro pre A A' row ⟨vo,vl,xs,aC⟩ hg hr;have cH:=aM.out;exact⟨vo,vl,xs,aC.grown HS.out hg fun r e=>⟨by have:=(hr r e).1;omega,(hr r e).2⟩⟩
 case hIx=>exact fun _ _ _ _ _ h _ _=>h
 case h0=>exact⟨_,_,_,b2.out⟩
 case assign =>
  intro l x V K hK;obtain⟨y,⟨v,aJ,hv,-⟩,-⟩:=Hi.out _ (afd x);obtain⟨va,vc,rfl,-⟩:=hv;have he:aqg x=#[.int .i64 (x.1.1:Int),.agg (cellsOf x).toArray]:=rfl;rw [he];rw [aJ] at hK ⊢
  gi_wp2
  exact hK
 case body =>
  rintro lp pre x W ⟨vo,vl,xs,aC⟩ c5;obtain⟨y,bM,cp⟩:=Hi.out _ (afd x);obtain⟨ix,ck⟩:∃ix:Nat,ix=x.1.1:=⟨_,rfl⟩
  obtain⟨s,hs⟩:∃s,s=(pre.map fun x=>dec (cellsOf x)).foldl (aa1 words) ([],[]):=⟨_,rfl⟩
  have aS:((pre++[x]).map fun x=>dec (cellsOf x)).foldl (aa1 words) ([],[])=aa1 words s y:=by
   rw [Aa8,List.foldl_append,<-hs,<-cp];rfl
  have hlen:=apU words (pre.map fun x=>dec (cellsOf x)) ([],[]);rw [<-hs,Aah] at hlen;have cC:∀v∈s.1,I64 v.n:=by
   rw [hs];refine arU words _ _ (fun z hz=>?_) (fun v hv=>by cases hv);obtain⟨x',-,rfl⟩:=Aal.1 hz;obtain⟨z,⟨v,hc,-,-,-,h4,-⟩,hz⟩:=Hi.out _ (afd x');rw [hz];exact h4
  rw [<-hs] at aC;obtain⟨oa,oc,b7⟩:=aC.out.slice;subst b7;obtain⟨on,cx⟩:∃on,on=xs.length:=⟨_,rfl⟩
  rw [<-cx] at aC;obtain⟨ln,bl⟩:∃ln,ln=s.1.length:=⟨_,rfl⟩
  obtain⟨la,lc,cT⟩:∃a c,vl = .slice a ln c:=by
   obtain⟨a,c,e⟩:=aao aC.vals.own;exact⟨a,c,by rw [e,Aah,bl]⟩
  subst cT;obtain⟨yo,yd,⟨ar,an⟩,⟨br,bn⟩,yf,ai⟩:=y;obtain⟨av,aJ,aP,bA⟩:=id bM;obtain⟨aa,ac,cP,-⟩:=id aP;subst cP;dsimp only at aJ aP bA;obtain⟨al,cf⟩:∃al,al=ai.length:=⟨_,rfl⟩
  rw [<-cf] at aJ;have aH:Hid (xs.length<=1048576):=by have h1:=aC.out.len;have h2:=hlen.2;have h3:=Hn.out;show _<=_;simp at h2;omega
  have bk:Hid (s.1.length<=1048576):=by have h2:=hlen.1;have h3:=Hn.out;show _<=_;simp at h2;omega
  rw [aJ] at bM ⊢;have aI:=hid aC;have ay:=hid aS;have aV:=hid bM;have cz:=hid cC;have bL:=hid bl;rw [<-ck];clear aC aS bM cC hlen aJ aP bA cf cp hs ck c5 cx bl;obtain⟨IB,bN⟩:∃IB,IB=W.heap.size:=⟨_,rfl⟩
  obtain⟨W4,bw⟩:∃V,V=W.alloc (.cells #[.int .i64 yo,.int .i64 yd,.bool ar,.int .i64 an,.bool br,.int .i64 bn,.int .i64 yf,.slice aa al ac] 49):=⟨_,rfl⟩
  have ct:W4.heap[IB]?=some (.cells #[.int .i64 yo,.int .i64 yd,.bool ar,.int .i64 an,.bool br,.int .i64 bn,.int .i64 yf,.slice aa al ac] 49 (0,0)):=by rw [bw,bN];exact heap_alloc_new _ _
  have b5:Below W.heap.size W W4:=by rw [bw];exact bE
  have cv:IB<W4.heap.size:=by rw [bw,bN];simp
  have cr:W.alloc (.cells [.int .i64 yo,.int .i64 yd,.bool ar,.int .i64 an,.bool br,.int .i64 bn,.int .i64 yf,.slice aa al ac].toArray 49)=W4:=bw.symm;rw [cr,<-bN];have HX:Hid (∀V,Below W4.heap.size W4 V->V.heap[IB]?=some (.cells #[.int .i64 yo,.int .i64 yd,.bool ar,.int .i64 an,.bool br,.int .i64 bn,.int .i64 yf,.slice aa al ac] 49 (0,0))):=fun V hV=>(hV.block IB cv).trans ct;have az:=hid (aI.out.later b5);have cI:=hid (aax.out _ _ _ _ _ _ (fun _ h=>h) (aaS.below' (aI.out.below.trans (b5.mono aI.out.below.size))) aV.out);have aU:Hid (B<=IB∧(Value.slice oa on oc).ownBlock≠some IB∧(Value.slice la ln lc).ownBlock≠some IB):=by
   have bq:=aI.out.low;have db:=aI.out.big;exact⟨by omega,fun e=>by have:=(bq.1 IB e).2;omega,fun e=>by have:=(bq.2 IB e).2;omega⟩
  have aD:=hid (abO (HX.out W4 (Below.refl _ _)));obtain⟨x0,x1,x2,x3,x4,x5,x6,x7⟩:=aD.out;have zX:=aac x0;obtain⟨l0,fl⟩:=az.out.lbc;have zL:=aac l0;have d0:=az.out.wdc;have zD:=aac d0;clear bN bw ct b5 cv cr
  by_cases h19:yo=19
  . subst h19
    cases hh:air s.1 ⟨ar,an⟩ with
    | true =>
      have Hz:Hid (aa1 words s ⟨19,yd,⟨ar,an⟩,⟨br,bn⟩,yf,ai⟩=s):=by
       show _=_;unfold aa1;rw [if_pos rfl,if_pos hh]
      have a6:=aeN la ln lc s.1 ar an W4 (amW az.out.vals cz.out) bL.out.symm (by have:=bk.out;have:=bL.out;omega);rw [hh] at a6;have Hc:=hid a6;clear a6
      gi_wp2_with (refine⟨trivial,?_⟩;gi_at_call 31;refine (CallsIn.inRound lp (callsIn_wide.2 Hc.out)).mono ?_;rintro e W5 ⟨rfl,aB⟩;have aj:=hid (az.out.later aB);clear aB)
      exact⟨aj.out.ko,aj.out.ke,_,_,_,by rw [ay.out,Hz.out];exact aj.out.again⟩
    | false =>
      have a6:=aeN la ln lc s.1 ar an W4 (amW az.out.vals cz.out) bL.out.symm (by have:=bk.out;have:=bL.out;omega);rw [hh] at a6;have Hc:=hid a6;clear a6;cases hm:acY words 19 ar an br bn with
      | true =>
        have Hz:Hid (aa1 words s ⟨19,yd,⟨ar,an⟩,⟨br,bn⟩,yf,ai⟩=([]++[⟨ar,an⟩],s.2++[⟨19,yd,⟨ar,an⟩,⟨br,bn⟩,yf,ai⟩])):=by
         show _=_;unfold aa1;rw [if_pos rfl,if_neg (by rw [hh];simp),aim];dsimp only;rw [hm];rfl
        have be:Hid (∀V,Calls Tryz.prog 32 #[.agg #[.int .i64 19,.int .i64 yd,.bool ar,.int .i64 an,.bool br,.int .i64 bn,.int .i64 yf,.slice aa al ac],.int .i64 words] V fun e w'=>e = .returned (.bool true)∧Below V.heap.size V w'):=fun V=>by
         have h:=ajT 19 yd an bn yf ar br aa al ac words V;rw [hm] at h;exact h
        clear hm hh
        gi_upto_region 9 with (first
         | (refine ⟨trivial, ?_⟩; gi_at_call 31; refine (CallsIn.inRound lp (callsIn_wide.2 Hc.out)).mono ?_; rintro e W5 ⟨rfl, aB⟩
            have aj := hid (az.out.later aB)
            have bJ := hid aB
            obtain ⟨x0, x1, x2, x3, x4, x5, x6, x7⟩ := abO (HX.out W5 aB)
            have zX := aac x0
            have d0 := aj.out.wdc
            have zD := aac d0
            obtain ⟨l0, fl⟩ := aj.out.lbc
            have zL := aac l0
            clear aB)
         | (refine ⟨trivial, ?_⟩; gi_at_call 32; refine (CallsIn.inRound lp (callsIn_wide.2 (be.out _))).mono ?_; rintro e W6 ⟨rfl, aW⟩
            have aO := hid (aj.out.later aW)
            have aQ := bJ.out.trans (aW.mono bJ.out.size)
            have a7 := HX.out W6 aQ
            have cc := hid a7
            obtain ⟨x0, x1, x2, x3, x4, x5, x6, x7⟩ := abO a7
            have zX := aac x0
            obtain ⟨l0, fl⟩ := aO.out.lbc
            have zL := aac l0
            clear aW aQ a7))
        obtain⟨WP,bQ⟩:∃V,V=W6.setCell ⟨LB,0,none⟩ (.slice none 0 0):=⟨_,rfl⟩
        rw [<-bQ]
        have ao := hid (show aeY w WD OB LB B words S W WP (.slice oa on oc) (.slice none 0 0) xs ([], s.2) by
         rw [bQ]
         exact aO.out.put HS.out ⟨World.ownsRow_nil _ _ _ _, fun cs h => by cases h⟩ (fun c hc => by cases hc))
        have bG := hid (show WP.heap[IB]? = some (.cells #[.int .i64 19, .int .i64 yd, .bool ar, .int .i64 an, .bool br, .int .i64 bn, .int .i64 yf, .slice aa al ac] 49 (0, 0)) by
         rw [bQ]
         exact ((aaQ W6 LB 0 (.slice none 0 0)).block IB zX (by have := aU.out.1; have := aM.out; omega)).trans cc.out)
        clear bQ
        obtain⟨x0,x1,x2,x3,x4,x5,x6,x7⟩:=abO bG.out;have zX:=aac x0;obtain⟨l0,fl⟩:=ao.out.lbc;have zL:=aac l0
        gi_upto_region 12 with
         (gi_at_builtin; refine wpListIn_append_own_at _ rfl _ _ 47 rfl B 41 iv (.agg #[.bool false, .int .i64 0]) 2 16 Tryz.underlying47 cm bI bt bp rfl (by decide) (.slice none 0 0) ([] : List aay).length (([] : List aay).map aaA).flatten rfl (aan (by have h := ao.out.vals.own; rw [Aah] at h; exact h) bE) ⟨WP.heap.size, 0, none⟩ 1 1 [.bool ar, .int .i64 an] rfl rfl (aaB WP _ _ rfl) (by intro u hu; simp only [Aam, Aao, or_false] at hu; rcases hu with rfl | rfl <;> rfl) (by have := bk.out; unfold maxLen; simp) (by have := bk.out; simp) (by have := ao.out.big; simp; omega) ?_
          intro v8 w8 aA ad _ aN
          obtain ⟨b9, m8, bS, bT⟩ : ∃ a m c, v8 = .slice a m c := by
           obtain ⟨a, c, e⟩ := aao aA
           exact ⟨a, _, c, e⟩
          subst bT
          have a1 : Below WP.heap.size WP (WP.alloc (.cells #[.bool ar, .int .i64 an] 41)) := by exact bE
          have ae := hid (ao.out.push HS.out a1 (x := (⟨ar, an⟩ : aay)) aA ad (by rcases aN with h | h; exact .inl h; exact .inr (by first | exact h | (rw [h]; simp))))
          have au : Kp (fun c => (Value.slice none 0 0).ownBlock ≠ some c) WP w8 := (Kp.of a1).trans ⟨ad.os, ad.tape, ad.output, ad.size, fun c hc hF => ad.block c hc fun e => hF e.symm⟩
          have aZ := (au.block IB zX (fun e => by cases e)).trans bG.out
          have b1 := hid aZ
          have bd := (au.block LB zL (fun e => by have := (ao.out.low.2 LB e).1; have := ao.out.lo; omega)).trans ao.out.lb
          have l0 := (aad (cs := [_]) bd).get1
          have fl := aaq bd 0
          have zL := aac l0
          have bZ : Hid (IB ≠ LB) := by have := aU.out.1; have := aM.out; show _ ≠ _; omega
          have zX := (Aag.1 aZ).1
          clear aA ad aN a1 au aZ bd x0 x1 x2 x3 x4 x5 x6 x7)
        obtain⟨W8,aq⟩:∃V,V=w8.setCell ⟨LB,0,none⟩ (.slice b9 m8 bS):=⟨_,rfl⟩
        rw [<-aq] at ae ⊢
        have aD := hid (abO (show W8.heap[IB]? = some (.cells #[.int .i64 19, .int .i64 yd, .bool ar, .int .i64 an, .bool br, .int .i64 bn, .int .i64 yf, .slice aa al ac] 49 (0, 0)) by
         rw [aq]
         exact ((aaQ w8 LB 0 _).block IB zX bZ.out).trans b1.out))
        clear aq l0 fl zL zX
        have aL:=hid (aax.out _ _ _ _ _ _ (fun _ h=>h) (aaS.below' ae.out.below) aV.out);obtain⟨x0,x1,x2,x3,x4,x5,x6,x7⟩:=aD.out;obtain⟨o0,fo⟩:=ae.out.obc;have zO:=aac o0;have zX:=aac x0;clear zX;have zX:=aac x0
        gi_wp2_with (gi_at_builtin;refine wpListIn_append_own_at _ rfl _ _ 39 rfl B 49 ii (.agg #[.int .i64 0,.int .i64 0,.bool false,.int .i64 0,.bool false,.int .i64 0,.int .i64 0,.slice none 0 0]) 8 80 Tryz.underlying39 bf aE aF aG rfl (by decide) (.slice oa on oc) xs.length xs.flatten rfl (aan ae.out.out.row.own bE) ⟨W8.heap.size,0,none⟩ 1 1 [.int .i64 19,.int .i64 yd,.bool ar,.int .i64 an,.bool br,.int .i64 bn,.int .i64 yf,.slice aa al ac] rfl rfl (aaB W8 _ _ rfl) (by intro u hu;simp only [Aam,Aao,or_false] at hu;rcases hu with rfl | rfl | rfl | rfl | rfl | rfl | rfl | rfl <;> rfl) (by have:=aH.out;unfold maxLen;omega) (by have:=aH.out;omega) (by have:=ae.out.big;simp;omega) ?_)
        intro v9 w9 af ad _ ak;obtain⟨bg,bj,rfl⟩:=aao af;have ax:Below W8.heap.size W8 (W8.alloc (.cells #[.int .i64 19,.int .i64 yd,.bool ar,.int .i64 an,.bool br,.int .i64 bn,.int .i64 yf,.slice aa al ac] 49)):=by exact bE
        have ah:=ae.out.snoc HS.out ax rfl aL.out af ad (by rcases ak with h | h;exact .inl h;exact .inr (by first | exact h | (rw [h];simp)));have au:Kp (fun c=>(Value.slice oa on oc).ownBlock≠some c) W8 w9:=(Kp.of ax).trans ⟨ad.os,ad.tape,ad.output,ad.size,fun c hc hF=>ad.block c hc fun e=>hF e.symm⟩;have aw:=(au.block OB zO (fun e=>by have:=(ae.out.low.1 OB e).1;have:=ae.out.lo;omega)).trans ae.out.ob;have c9:=(aad (cs:=[_]) aw).get1;have f9:=aaq aw 0;have z9:=aac c9;rw [<-Hz.out] at ah;have ag:=hid ah;clear af ad ak ax ah au aw o0 fo zO x0 x1 x2 x3 x4 x5 x6 x7 zX
        gi_wp2
        exact⟨ag.out.ko,ag.out.ke,_,_,_,by rw [ay.out];exact ag.out.again⟩
      | false =>
        have Hz:Hid (aa1 words s ⟨19,yd,⟨ar,an⟩,⟨br,bn⟩,yf,ai⟩=(s.1++[⟨ar,an⟩],s.2++[⟨19,yd,⟨ar,an⟩,⟨br,bn⟩,yf,ai⟩])):=by
         show _=_;unfold aa1;rw [if_pos rfl,if_neg (by rw [hh];simp),aim];dsimp only;rw [hm];rfl
        have be:Hid (∀V,Calls Tryz.prog 32 #[.agg #[.int .i64 19,.int .i64 yd,.bool ar,.int .i64 an,.bool br,.int .i64 bn,.int .i64 yf,.slice aa al ac],.int .i64 words] V fun e w'=>e = .returned (.bool false)∧Below V.heap.size V w'):=fun V=>by
         have h:=ajT 19 yd an bn yf ar br aa al ac words V;rw [hm] at h;exact h
        clear hm hh
        gi_upto_region 9 with (first
         | (refine ⟨trivial, ?_⟩; gi_at_call 31; refine (CallsIn.inRound lp (callsIn_wide.2 Hc.out)).mono ?_; rintro e W5 ⟨rfl, aB⟩
            have aj := hid (az.out.later aB)
            have bJ := hid aB
            obtain ⟨x0, x1, x2, x3, x4, x5, x6, x7⟩ := abO (HX.out W5 aB)
            have zX := aac x0
            have d0 := aj.out.wdc
            have zD := aac d0
            obtain ⟨l0, fl⟩ := aj.out.lbc
            have zL := aac l0
            clear aB)
         | (refine ⟨trivial, ?_⟩; gi_at_call 32; refine (CallsIn.inRound lp (callsIn_wide.2 (be.out _))).mono ?_; rintro e W6 ⟨rfl, aW⟩
            have aO := hid (aj.out.later aW)
            have aQ := bJ.out.trans (aW.mono bJ.out.size)
            have a7 := HX.out W6 aQ
            have cc := hid a7
            obtain ⟨x0, x1, x2, x3, x4, x5, x6, x7⟩ := abO a7
            have zX := aac x0
            obtain ⟨l0, fl⟩ := aO.out.lbc
            have zL := aac l0
            clear aW aQ a7))
        have ao:=aO;have bG:=cc
        obtain⟨x0,x1,x2,x3,x4,x5,x6,x7⟩:=abO bG.out;have zX:=aac x0;obtain⟨l0,fl⟩:=ao.out.lbc;have zL:=aac l0
        gi_upto_region 12 with
         (gi_at_builtin; refine wpListIn_append_own_at _ rfl _ _ 47 rfl B 41 iv (.agg #[.bool false, .int .i64 0]) 2 16 Tryz.underlying47 cm bI bt bp rfl (by decide) (.slice la ln lc) (s.1 : List aay).length ((s.1 : List aay).map aaA).flatten rfl (aan (by have h := ao.out.vals.own; rw [Aah] at h; exact h) bE) ⟨W6.heap.size, 0, none⟩ 1 1 [.bool ar, .int .i64 an] rfl rfl (aaB W6 _ _ rfl) (by intro u hu; simp only [Aam, Aao, or_false] at hu; rcases hu with rfl | rfl <;> rfl) (by have := bk.out; unfold maxLen; omega) (by have := bk.out; omega) (by have := ao.out.big; simp; omega) ?_
          intro v8 w8 aA ad _ aN
          obtain ⟨b9, m8, bS, bT⟩ : ∃ a m c, v8 = .slice a m c := by
           obtain ⟨a, c, e⟩ := aao aA
           exact ⟨a, _, c, e⟩
          subst bT
          have a1 : Below W6.heap.size W6 (W6.alloc (.cells #[.bool ar, .int .i64 an] 41)) := by exact bE
          have ae := hid (ao.out.push HS.out a1 (x := (⟨ar, an⟩ : aay)) aA ad (by rcases aN with h | h; exact .inl h; exact .inr (by first | exact h | (rw [h]; simp))))
          have au : Kp (fun c => (Value.slice la ln lc).ownBlock ≠ some c) W6 w8 := (Kp.of a1).trans ⟨ad.os, ad.tape, ad.output, ad.size, fun c hc hF => ad.block c hc fun e => hF e.symm⟩
          have aZ := (au.block IB zX aU.out.2.2).trans bG.out
          have b1 := hid aZ
          have bd := (au.block LB zL (fun e => by have := (ao.out.low.2 LB e).1; have := ao.out.lo; omega)).trans ao.out.lb
          have l0 := (aad (cs := [_]) bd).get1
          have fl := aaq bd 0
          have zL := aac l0
          have bZ : Hid (IB ≠ LB) := by have := aU.out.1; have := aM.out; show _ ≠ _; omega
          have zX := (Aag.1 aZ).1
          clear aA ad aN a1 au aZ bd x0 x1 x2 x3 x4 x5 x6 x7)
        obtain⟨W8,aq⟩:∃V,V=w8.setCell ⟨LB,0,none⟩ (.slice b9 m8 bS):=⟨_,rfl⟩
        rw [<-aq] at ae ⊢
        have aD := hid (abO (show W8.heap[IB]? = some (.cells #[.int .i64 19, .int .i64 yd, .bool ar, .int .i64 an, .bool br, .int .i64 bn, .int .i64 yf, .slice aa al ac] 49 (0, 0)) by
         rw [aq]
         exact ((aaQ w8 LB 0 _).block IB zX bZ.out).trans b1.out))
        clear aq l0 fl zL zX
        have aL:=hid (aax.out _ _ _ _ _ _ (fun _ h=>h) (aaS.below' ae.out.below) aV.out);obtain⟨x0,x1,x2,x3,x4,x5,x6,x7⟩:=aD.out;obtain⟨o0,fo⟩:=ae.out.obc;have zO:=aac o0;have zX:=aac x0;clear zX;have zX:=aac x0
        gi_wp2_with (gi_at_builtin;refine wpListIn_append_own_at _ rfl _ _ 39 rfl B 49 ii (.agg #[.int .i64 0,.int .i64 0,.bool false,.int .i64 0,.bool false,.int .i64 0,.int .i64 0,.slice none 0 0]) 8 80 Tryz.underlying39 bf aE aF aG rfl (by decide) (.slice oa on oc) xs.length xs.flatten rfl (aan ae.out.out.row.own bE) ⟨W8.heap.size,0,none⟩ 1 1 [.int .i64 19,.int .i64 yd,.bool ar,.int .i64 an,.bool br,.int .i64 bn,.int .i64 yf,.slice aa al ac] rfl rfl (aaB W8 _ _ rfl) (by intro u hu;simp only [Aam,Aao,or_false] at hu;rcases hu with rfl | rfl | rfl | rfl | rfl | rfl | rfl | rfl <;> rfl) (by have:=aH.out;unfold maxLen;omega) (by have:=aH.out;omega) (by have:=ae.out.big;simp;omega) ?_)
        intro v9 w9 af ad _ ak;obtain⟨bg,bj,rfl⟩:=aao af;have ax:Below W8.heap.size W8 (W8.alloc (.cells #[.int .i64 19,.int .i64 yd,.bool ar,.int .i64 an,.bool br,.int .i64 bn,.int .i64 yf,.slice aa al ac] 49)):=by exact bE
        have ah:=ae.out.snoc HS.out ax rfl aL.out af ad (by rcases ak with h | h;exact .inl h;exact .inr (by first | exact h | (rw [h];simp)));have au:Kp (fun c=>(Value.slice oa on oc).ownBlock≠some c) W8 w9:=(Kp.of ax).trans ⟨ad.os,ad.tape,ad.output,ad.size,fun c hc hF=>ad.block c hc fun e=>hF e.symm⟩;have aw:=(au.block OB zO (fun e=>by have:=(ae.out.low.1 OB e).1;have:=ae.out.lo;omega)).trans ae.out.ob;have c9:=(aad (cs:=[_]) aw).get1;have f9:=aaq aw 0;have z9:=aac c9;rw [<-Hz.out] at ah;have ag:=hid ah;clear af ad ak ax ah au aw o0 fo zO x0 x1 x2 x3 x4 x5 x6 x7 zX
        gi_wp2
        exact⟨ag.out.ko,ag.out.ke,_,_,_,by rw [ay.out];exact ag.out.again⟩
  . by_cases h18:yo=18
    . subst h18
      clear h19 ;have Hz:Hid (aa1 words s ⟨18,yd,⟨ar,an⟩,⟨br,bn⟩,yf,ai⟩=([],s.2++[⟨18,yd,⟨ar,an⟩,⟨br,bn⟩,yf,ai⟩])):=by
       show _=_;unfold aa1;rw [if_neg (show ¬((18:Int)=19) by decide),if_pos (by simp)]
      have aj:=az;have aR:=hid (HX.out W4 (Below.refl _ _))
      gi_upto_region 12 with (refine⟨trivial,?_⟩)
      obtain⟨W8,aq⟩:∃V,V=W4.setCell ⟨LB,0,none⟩ (.slice none 0 0):=⟨_,rfl⟩
      rw [<-aq]
      have ae := hid (show aeY w WD OB LB B words S W W8 (.slice oa on oc) (.slice none 0 0) xs ([], s.2) by
       rw [aq]
       exact aj.out.put HS.out ⟨World.ownsRow_nil _ _ _ _, fun cs h => by cases h⟩ (fun c hc => by cases hc))
      have aD := hid (abO (show W8.heap[IB]? = some (.cells #[.int .i64 18, .int .i64 yd, .bool ar, .int .i64 an, .bool br, .int .i64 bn, .int .i64 yf, .slice aa al ac] 49 (0, 0)) by
       rw [aq]
       exact ((aaQ W4 LB 0 (.slice none 0 0)).block IB zX (by have := aU.out.1; have := aM.out; omega)).trans aR.out))
      clear aq l0 fl zL zX
      have aL:=hid (aax.out _ _ _ _ _ _ (fun _ h=>h) (aaS.below' ae.out.below) aV.out);obtain⟨x0,x1,x2,x3,x4,x5,x6,x7⟩:=aD.out;obtain⟨o0,fo⟩:=ae.out.obc;have zO:=aac o0;have zX:=aac x0;clear zX;have zX:=aac x0
      gi_wp2_with (gi_at_builtin;refine wpListIn_append_own_at _ rfl _ _ 39 rfl B 49 ii (.agg #[.int .i64 0,.int .i64 0,.bool false,.int .i64 0,.bool false,.int .i64 0,.int .i64 0,.slice none 0 0]) 8 80 Tryz.underlying39 bf aE aF aG rfl (by decide) (.slice oa on oc) xs.length xs.flatten rfl (aan ae.out.out.row.own bE) ⟨W8.heap.size,0,none⟩ 1 1 [.int .i64 18,.int .i64 yd,.bool ar,.int .i64 an,.bool br,.int .i64 bn,.int .i64 yf,.slice aa al ac] rfl rfl (aaB W8 _ _ rfl) (by intro u hu;simp only [Aam,Aao,or_false] at hu;rcases hu with rfl | rfl | rfl | rfl | rfl | rfl | rfl | rfl <;> rfl) (by have:=aH.out;unfold maxLen;omega) (by have:=aH.out;omega) (by have:=ae.out.big;simp;omega) ?_)
      intro v9 w9 af ad _ ak;obtain⟨bg,bj,rfl⟩:=aao af;have ax:Below W8.heap.size W8 (W8.alloc (.cells #[.int .i64 18,.int .i64 yd,.bool ar,.int .i64 an,.bool br,.int .i64 bn,.int .i64 yf,.slice aa al ac] 49)):=by exact bE
      have ah:=ae.out.snoc HS.out ax rfl aL.out af ad (by rcases ak with h | h;exact .inl h;exact .inr (by first | exact h | (rw [h];simp)));have au:Kp (fun c=>(Value.slice oa on oc).ownBlock≠some c) W8 w9:=(Kp.of ax).trans ⟨ad.os,ad.tape,ad.output,ad.size,fun c hc hF=>ad.block c hc fun e=>hF e.symm⟩;have aw:=(au.block OB zO (fun e=>by have:=(ae.out.low.1 OB e).1;have:=ae.out.lo;omega)).trans ae.out.ob;have c9:=(aad (cs:=[_]) aw).get1;have f9:=aaq aw 0;have z9:=aac c9;rw [<-Hz.out] at ah;have ag:=hid ah;clear af ad ak ax ah au aw o0 fo zO x0 x1 x2 x3 x4 x5 x6 x7 zX
      gi_wp2
      exact⟨ag.out.ko,ag.out.ke,_,_,_,by rw [ay.out];exact ag.out.again⟩
    . by_cases h20:yo=20
      . subst h20
        clear h19 h18;have Hz:Hid (aa1 words s ⟨20,yd,⟨ar,an⟩,⟨br,bn⟩,yf,ai⟩=([],s.2++[⟨20,yd,⟨ar,an⟩,⟨br,bn⟩,yf,ai⟩])):=by
         show _=_;unfold aa1;rw [if_neg (show ¬((20:Int)=19) by decide),if_pos (by simp)]
        have aj:=az;have aR:=hid (HX.out W4 (Below.refl _ _))
        gi_upto_region 12 with (refine⟨trivial,?_⟩)
        obtain⟨W8,aq⟩:∃V,V=W4.setCell ⟨LB,0,none⟩ (.slice none 0 0):=⟨_,rfl⟩
        rw [<-aq]
        have ae := hid (show aeY w WD OB LB B words S W W8 (.slice oa on oc) (.slice none 0 0) xs ([], s.2) by
         rw [aq]
         exact aj.out.put HS.out ⟨World.ownsRow_nil _ _ _ _, fun cs h => by cases h⟩ (fun c hc => by cases hc))
        have aD := hid (abO (show W8.heap[IB]? = some (.cells #[.int .i64 20, .int .i64 yd, .bool ar, .int .i64 an, .bool br, .int .i64 bn, .int .i64 yf, .slice aa al ac] 49 (0, 0)) by
         rw [aq]
         exact ((aaQ W4 LB 0 (.slice none 0 0)).block IB zX (by have := aU.out.1; have := aM.out; omega)).trans aR.out))
        clear aq l0 fl zL zX
        have aL:=hid (aax.out _ _ _ _ _ _ (fun _ h=>h) (aaS.below' ae.out.below) aV.out);obtain⟨x0,x1,x2,x3,x4,x5,x6,x7⟩:=aD.out;obtain⟨o0,fo⟩:=ae.out.obc;have zO:=aac o0;have zX:=aac x0;clear zX;have zX:=aac x0
        gi_wp2_with (gi_at_builtin;refine wpListIn_append_own_at _ rfl _ _ 39 rfl B 49 ii (.agg #[.int .i64 0,.int .i64 0,.bool false,.int .i64 0,.bool false,.int .i64 0,.int .i64 0,.slice none 0 0]) 8 80 Tryz.underlying39 bf aE aF aG rfl (by decide) (.slice oa on oc) xs.length xs.flatten rfl (aan ae.out.out.row.own bE) ⟨W8.heap.size,0,none⟩ 1 1 [.int .i64 20,.int .i64 yd,.bool ar,.int .i64 an,.bool br,.int .i64 bn,.int .i64 yf,.slice aa al ac] rfl rfl (aaB W8 _ _ rfl) (by intro u hu;simp only [Aam,Aao,or_false] at hu;rcases hu with rfl | rfl | rfl | rfl | rfl | rfl | rfl | rfl <;> rfl) (by have:=aH.out;unfold maxLen;omega) (by have:=aH.out;omega) (by have:=ae.out.big;simp;omega) ?_)
        intro v9 w9 af ad _ ak;obtain⟨bg,bj,rfl⟩:=aao af;have ax:Below W8.heap.size W8 (W8.alloc (.cells #[.int .i64 20,.int .i64 yd,.bool ar,.int .i64 an,.bool br,.int .i64 bn,.int .i64 yf,.slice aa al ac] 49)):=by exact bE
        have ah:=ae.out.snoc HS.out ax rfl aL.out af ad (by rcases ak with h | h;exact .inl h;exact .inr (by first | exact h | (rw [h];simp)));have au:Kp (fun c=>(Value.slice oa on oc).ownBlock≠some c) W8 w9:=(Kp.of ax).trans ⟨ad.os,ad.tape,ad.output,ad.size,fun c hc hF=>ad.block c hc fun e=>hF e.symm⟩;have aw:=(au.block OB zO (fun e=>by have:=(ae.out.low.1 OB e).1;have:=ae.out.lo;omega)).trans ae.out.ob;have c9:=(aad (cs:=[_]) aw).get1;have f9:=aaq aw 0;have z9:=aac c9;rw [<-Hz.out] at ah;have ag:=hid ah;clear af ad ak ax ah au aw o0 fo zO x0 x1 x2 x3 x4 x5 x6 x7 zX
        gi_wp2
        exact⟨ag.out.ko,ag.out.ke,_,_,_,by rw [ay.out];exact ag.out.again⟩
      . by_cases h22:yo=22
        . subst h22
          clear h19 h18 h20;have Hz:Hid (aa1 words s ⟨22,yd,⟨ar,an⟩,⟨br,bn⟩,yf,ai⟩=([],s.2++[⟨22,yd,⟨ar,an⟩,⟨br,bn⟩,yf,ai⟩])):=by
           show _=_;unfold aa1;rw [if_neg (show ¬((22:Int)=19) by decide),if_pos (by simp)]
          have aj:=az;have aR:=hid (HX.out W4 (Below.refl _ _))
          gi_upto_region 12 with (refine⟨trivial,?_⟩)
          obtain⟨W8,aq⟩:∃V,V=W4.setCell ⟨LB,0,none⟩ (.slice none 0 0):=⟨_,rfl⟩
          rw [<-aq]
          have ae := hid (show aeY w WD OB LB B words S W W8 (.slice oa on oc) (.slice none 0 0) xs ([], s.2) by
           rw [aq]
           exact aj.out.put HS.out ⟨World.ownsRow_nil _ _ _ _, fun cs h => by cases h⟩ (fun c hc => by cases hc))
          have aD := hid (abO (show W8.heap[IB]? = some (.cells #[.int .i64 22, .int .i64 yd, .bool ar, .int .i64 an, .bool br, .int .i64 bn, .int .i64 yf, .slice aa al ac] 49 (0, 0)) by
           rw [aq]
           exact ((aaQ W4 LB 0 (.slice none 0 0)).block IB zX (by have := aU.out.1; have := aM.out; omega)).trans aR.out))
          clear aq l0 fl zL zX
          have aL:=hid (aax.out _ _ _ _ _ _ (fun _ h=>h) (aaS.below' ae.out.below) aV.out);obtain⟨x0,x1,x2,x3,x4,x5,x6,x7⟩:=aD.out;obtain⟨o0,fo⟩:=ae.out.obc;have zO:=aac o0;have zX:=aac x0;clear zX;have zX:=aac x0
          gi_wp2_with (gi_at_builtin;refine wpListIn_append_own_at _ rfl _ _ 39 rfl B 49 ii (.agg #[.int .i64 0,.int .i64 0,.bool false,.int .i64 0,.bool false,.int .i64 0,.int .i64 0,.slice none 0 0]) 8 80 Tryz.underlying39 bf aE aF aG rfl (by decide) (.slice oa on oc) xs.length xs.flatten rfl (aan ae.out.out.row.own bE) ⟨W8.heap.size,0,none⟩ 1 1 [.int .i64 22,.int .i64 yd,.bool ar,.int .i64 an,.bool br,.int .i64 bn,.int .i64 yf,.slice aa al ac] rfl rfl (aaB W8 _ _ rfl) (by intro u hu;simp only [Aam,Aao,or_false] at hu;rcases hu with rfl | rfl | rfl | rfl | rfl | rfl | rfl | rfl <;> rfl) (by have:=aH.out;unfold maxLen;omega) (by have:=aH.out;omega) (by have:=ae.out.big;simp;omega) ?_)
          intro v9 w9 af ad _ ak;obtain⟨bg,bj,rfl⟩:=aao af;have ax:Below W8.heap.size W8 (W8.alloc (.cells #[.int .i64 22,.int .i64 yd,.bool ar,.int .i64 an,.bool br,.int .i64 bn,.int .i64 yf,.slice aa al ac] 49)):=by exact bE
          have ah:=ae.out.snoc HS.out ax rfl aL.out af ad (by rcases ak with h | h;exact .inl h;exact .inr (by first | exact h | (rw [h];simp)));have au:Kp (fun c=>(Value.slice oa on oc).ownBlock≠some c) W8 w9:=(Kp.of ax).trans ⟨ad.os,ad.tape,ad.output,ad.size,fun c hc hF=>ad.block c hc fun e=>hF e.symm⟩;have aw:=(au.block OB zO (fun e=>by have:=(ae.out.low.1 OB e).1;have:=ae.out.lo;omega)).trans ae.out.ob;have c9:=(aad (cs:=[_]) aw).get1;have f9:=aaq aw 0;have z9:=aac c9;rw [<-Hz.out] at ah;have ag:=hid ah;clear af ad ak ax ah au aw o0 fo zO x0 x1 x2 x3 x4 x5 x6 x7 zX
          gi_wp2
          exact⟨ag.out.ko,ag.out.ke,_,_,_,by rw [ay.out];exact ag.out.again⟩
        . cases hm:acY words yo ar an br bn with
          | true =>
            have Hz:Hid (aa1 words s ⟨yo,yd,⟨ar,an⟩,⟨br,bn⟩,yf,ai⟩=([],s.2++[⟨yo,yd,⟨ar,an⟩,⟨br,bn⟩,yf,ai⟩])):=by
             show _=_;unfold aa1;rw [if_neg h19];rw [if_pos (.inr (.inr (.inr (by rw [aim];exact hm))))]
            have be:Hid (∀V,Calls Tryz.prog 32 #[.agg #[.int .i64 yo,.int .i64 yd,.bool ar,.int .i64 an,.bool br,.int .i64 bn,.int .i64 yf,.slice aa al ac],.int .i64 words] V fun e w'=>e = .returned (.bool true)∧Below V.heap.size V w'):=fun V=>by
             have h:=ajT yo yd an bn yf ar br aa al ac words V;rw [hm] at h;exact h
            have cY:(decide (yo<=19)&&decide (19<=yo))=false:=abI h19;have cV:(decide (yo<=18)&&decide (18<=yo))=false:=abI h18;have c3:(decide (yo<=20)&&decide (20<=yo))=false:=abI h20;have cF:(decide (yo<=22)&&decide (22<=yo))=false:=abI h22;clear h19 h18 h20 h22 hm
            gi_upto_region 12 with
             (refine ⟨trivial, ?_⟩; gi_at_call 32; refine (CallsIn.inRound lp (callsIn_wide.2 (be.out _))).mono ?_; rintro e W5 ⟨rfl, aB⟩
              have aj := hid (az.out.later aB)
              have aX := HX.out W5 aB
              have aR := hid aX
              have zX := (Aag.1 aX).1
              obtain ⟨l0, fl⟩ := aj.out.lbc
              have zL := aac l0
              clear aB aX x0 x1 x2 x3 x4 x5 x6 x7 d0 zD)
            obtain⟨W8,aq⟩:∃V,V=W5.setCell ⟨LB,0,none⟩ (.slice none 0 0):=⟨_,rfl⟩
            rw [<-aq]
            have ae := hid (show aeY w WD OB LB B words S W W8 (.slice oa on oc) (.slice none 0 0) xs ([], s.2) by
             rw [aq]
             exact aj.out.put HS.out ⟨World.ownsRow_nil _ _ _ _, fun cs h => by cases h⟩ (fun c hc => by cases hc))
            have aD := hid (abO (show W8.heap[IB]? = some (.cells #[.int .i64 yo, .int .i64 yd, .bool ar, .int .i64 an, .bool br, .int .i64 bn, .int .i64 yf, .slice aa al ac] 49 (0, 0)) by
             rw [aq]
             exact ((aaQ W5 LB 0 (.slice none 0 0)).block IB zX (by have := aU.out.1; have := aM.out; omega)).trans aR.out))
            clear aq l0 fl zL zX
            have aL:=hid (aax.out _ _ _ _ _ _ (fun _ h=>h) (aaS.below' ae.out.below) aV.out);obtain⟨x0,x1,x2,x3,x4,x5,x6,x7⟩:=aD.out;obtain⟨o0,fo⟩:=ae.out.obc;have zO:=aac o0;have zX:=aac x0;clear zX;have zX:=aac x0
            gi_wp2_with (gi_at_builtin;refine wpListIn_append_own_at _ rfl _ _ 39 rfl B 49 ii (.agg #[.int .i64 0,.int .i64 0,.bool false,.int .i64 0,.bool false,.int .i64 0,.int .i64 0,.slice none 0 0]) 8 80 Tryz.underlying39 bf aE aF aG rfl (by decide) (.slice oa on oc) xs.length xs.flatten rfl (aan ae.out.out.row.own bE) ⟨W8.heap.size,0,none⟩ 1 1 [.int .i64 yo,.int .i64 yd,.bool ar,.int .i64 an,.bool br,.int .i64 bn,.int .i64 yf,.slice aa al ac] rfl rfl (aaB W8 _ _ rfl) (by intro u hu;simp only [Aam,Aao,or_false] at hu;rcases hu with rfl | rfl | rfl | rfl | rfl | rfl | rfl | rfl <;> rfl) (by have:=aH.out;unfold maxLen;omega) (by have:=aH.out;omega) (by have:=ae.out.big;simp;omega) ?_)
            intro v9 w9 af ad _ ak;obtain⟨bg,bj,rfl⟩:=aao af;have ax:Below W8.heap.size W8 (W8.alloc (.cells #[.int .i64 yo,.int .i64 yd,.bool ar,.int .i64 an,.bool br,.int .i64 bn,.int .i64 yf,.slice aa al ac] 49)):=by exact bE
            have ah:=ae.out.snoc HS.out ax rfl aL.out af ad (by rcases ak with h | h;exact .inl h;exact .inr (by first | exact h | (rw [h];simp)));have au:Kp (fun c=>(Value.slice oa on oc).ownBlock≠some c) W8 w9:=(Kp.of ax).trans ⟨ad.os,ad.tape,ad.output,ad.size,fun c hc hF=>ad.block c hc fun e=>hF e.symm⟩;have aw:=(au.block OB zO (fun e=>by have:=(ae.out.low.1 OB e).1;have:=ae.out.lo;omega)).trans ae.out.ob;have c9:=(aad (cs:=[_]) aw).get1;have f9:=aaq aw 0;have z9:=aac c9;rw [<-Hz.out] at ah;have ag:=hid ah;clear af ad ak ax ah au aw o0 fo zO x0 x1 x2 x3 x4 x5 x6 x7 zX
            gi_wp2
            exact⟨ag.out.ko,ag.out.ke,_,_,_,by rw [ay.out];exact ag.out.again⟩
          | false =>
            have Hz:Hid (aa1 words s ⟨yo,yd,⟨ar,an⟩,⟨br,bn⟩,yf,ai⟩=(s.1,s.2++[⟨yo,yd,⟨ar,an⟩,⟨br,bn⟩,yf,ai⟩])):=by
             show _=_;unfold aa1;rw [if_neg h19];rw [if_neg (by rw [aim,hm];simp [h18,h20,h22])]
            have be:Hid (∀V,Calls Tryz.prog 32 #[.agg #[.int .i64 yo,.int .i64 yd,.bool ar,.int .i64 an,.bool br,.int .i64 bn,.int .i64 yf,.slice aa al ac],.int .i64 words] V fun e w'=>e = .returned (.bool false)∧Below V.heap.size V w'):=fun V=>by
             have h:=ajT yo yd an bn yf ar br aa al ac words V;rw [hm] at h;exact h
            have cY:(decide (yo<=19)&&decide (19<=yo))=false:=abI h19;have cV:(decide (yo<=18)&&decide (18<=yo))=false:=abI h18;have c3:(decide (yo<=20)&&decide (20<=yo))=false:=abI h20;have cF:(decide (yo<=22)&&decide (22<=yo))=false:=abI h22;clear h19 h18 h20 h22 hm
            gi_upto_region 12 with
             (refine ⟨trivial, ?_⟩; gi_at_call 32; refine (CallsIn.inRound lp (callsIn_wide.2 (be.out _))).mono ?_; rintro e W5 ⟨rfl, aB⟩
              have aj := hid (az.out.later aB)
              have aX := HX.out W5 aB
              have aR := hid aX
              have zX := (Aag.1 aX).1
              obtain ⟨l0, fl⟩ := aj.out.lbc
              have zL := aac l0
              clear aB aX x0 x1 x2 x3 x4 x5 x6 x7 d0 zD)
            have ae:=aj;have aD:=hid (abO aR.out);obtain⟨W8,aq⟩:∃V,V=W5:=⟨_,rfl⟩
            rw [<-aq] at ae aD ⊢;clear aq l0 fl zL zX
            have aL:=hid (aax.out _ _ _ _ _ _ (fun _ h=>h) (aaS.below' ae.out.below) aV.out);obtain⟨x0,x1,x2,x3,x4,x5,x6,x7⟩:=aD.out;obtain⟨o0,fo⟩:=ae.out.obc;have zO:=aac o0;have zX:=aac x0;clear zX;have zX:=aac x0
            gi_wp2_with (gi_at_builtin;refine wpListIn_append_own_at _ rfl _ _ 39 rfl B 49 ii (.agg #[.int .i64 0,.int .i64 0,.bool false,.int .i64 0,.bool false,.int .i64 0,.int .i64 0,.slice none 0 0]) 8 80 Tryz.underlying39 bf aE aF aG rfl (by decide) (.slice oa on oc) xs.length xs.flatten rfl (aan ae.out.out.row.own bE) ⟨W8.heap.size,0,none⟩ 1 1 [.int .i64 yo,.int .i64 yd,.bool ar,.int .i64 an,.bool br,.int .i64 bn,.int .i64 yf,.slice aa al ac] rfl rfl (aaB W8 _ _ rfl) (by intro u hu;simp only [Aam,Aao,or_false] at hu;rcases hu with rfl | rfl | rfl | rfl | rfl | rfl | rfl | rfl <;> rfl) (by have:=aH.out;unfold maxLen;omega) (by have:=aH.out;omega) (by have:=ae.out.big;simp;omega) ?_)
            intro v9 w9 af ad _ ak;obtain⟨bg,bj,rfl⟩:=aao af;have ax:Below W8.heap.size W8 (W8.alloc (.cells #[.int .i64 yo,.int .i64 yd,.bool ar,.int .i64 an,.bool br,.int .i64 bn,.int .i64 yf,.slice aa al ac] 49)):=by exact bE
            have ah:=ae.out.snoc HS.out ax rfl aL.out af ad (by rcases ak with h | h;exact .inl h;exact .inr (by first | exact h | (rw [h];simp)));have au:Kp (fun c=>(Value.slice oa on oc).ownBlock≠some c) W8 w9:=(Kp.of ax).trans ⟨ad.os,ad.tape,ad.output,ad.size,fun c hc hF=>ad.block c hc fun e=>hF e.symm⟩;have aw:=(au.block OB zO (fun e=>by have:=(ae.out.low.1 OB e).1;have:=ae.out.lo;omega)).trans ae.out.ob;have c9:=(aad (cs:=[_]) aw).get1;have f9:=aaq aw 0;have z9:=aac c9;rw [<-Hz.out] at ah;have ag:=hid ah;clear af ad ak ax ah au aw o0 fo zO x0 x1 x2 x3 x4 x5 x6 x7 zX
            gi_wp2
            exact⟨ag.out.ko,ag.out.ke,_,_,_,by rw [ay.out];exact ag.out.again⟩
 case done =>
  rintro D ys V hD cn ⟨vo,vl,xs,aC⟩ hd;have aT:ys.map (fun x=>dec (cellsOf x))=l.reverse:=by
   have h:ys.map (fun x=>dec (cellsOf x))=(ys.map cellsOf).map dec:=by rw [Abl];rfl
   rw [h,cn,List.map_reverse,cE.out]
  rw [aT] at aC;have hlen:=apU words l.reverse ([],[]);rw [Ach] at hlen;have bl:l.length=E.length:=by rw [<-cE.out,Aah]
  have hn:=Hn.out;have cO:=aC.out.len;obtain⟨oa,oc,b7⟩:=aC.out.slice;subst b7;have cu:=aiw B oa xs.length oc xs V aC.out.row rfl (by have h5:=hlen.2;simp only [Ab5,Aab] at h5;omega) aC.out.shape;have cK:=hid cu;have aI:=hid aC;have Hd:=hid hd;obtain⟨o0,-⟩:=aC.obc;have zO:=aac o0;clear aT aC hlen bl hn cO cu hd cn
  gi_wp2_with
   (refine ⟨trivial, ?_⟩; gi_at_call 33; refine (callsIn_wide.2 cK.out).mono ?_; rintro e w7 ⟨rfl, cD, b0⟩
    have o7 := b0.cell (fun e => by have := (aI.out.low.1 OB e).1; have := aI.out.lo; omega) o0
    have zO := aac o7
    have cM := hid cD
    have bO := hid b0
    clear cD b0 o0)
  have cH:=aM.out;have c7:D<V.heap.size:=(Aag.1 Hd.out).1
  have cX : w7.heap[D]? = some (.deferred (some [])) := (bO.out.block D c7 (fun e => by
   obtain ⟨o, q1, q2⟩ := aI.out.out.row.isCells D e
   rw [Hd.out] at q1
   cases q1
   cases q2)).trans Hd.out
  have c8:=bO.out.size;refine aeH (B:=B) (C:=D+1) _ _ (by omega) ((adG.nil B D w7).cons (Aac _) (by omega) (by omega) cX) (fun W' hW=>?_);have bY:Tryz.f16.results=#[.tmp 4]:=rfl;have bH:ab1 w7 B S (.slice oa xs.length oc) (agm words l) xs.reverse:=aI.out.out.rev cM.out bO.out (fun c hc=>by have:=HS.out c hc;omega);have cg:Kp (fun c=>c<B) w7 W':=⟨hW.1.os,hW.1.tape,hW.1.output,hW.1.size,fun b _ hF=>hW.1.block b hF⟩
  refine⟨.slice oa xs.length oc,by unfold results;rw [bY];simp [go_sem],oa,xs.length,oc,xs.reverse,rfl,(by simp),?_,?_⟩
  . have cR:w.heap.size+4=B:=by omega
    rw [cR];refine⟨⟨⟨bH.row.own.1,?_⟩,bH.row.wid⟩,bH.len,fun i cs y h1 h2=>aax.out _ _ _ _ _ _ (fun _ h=>h) (cg.stays fun c hc=>by have:=HS.out c hc;omega) (bH.rd i cs y h1 h2)⟩;rcases bH.row.own.2 with h1 | ⟨g,cap,cur,e,h2,h3,h4⟩
    . exact .inl h1
    . exact .inr ⟨g,cap,cur,e,h2,hW.2 _ _ _ _ h3,h4⟩
  . exact (aI.out.below.trans (bO.out.below fun b hb=>⟨by have:=aI.out.big;omega,fun e=>by have:=(aI.out.low.1 b e).1;omega⟩)).trans (cg.below fun b hb=>⟨by have:=aI.out.big;omega,by omega⟩)
 case stop=>exact fun _ _ _ _ _ _ h _=>h.elim
end
end Go.Proofs.YtpeejlpcikefcaaGreatDoor
