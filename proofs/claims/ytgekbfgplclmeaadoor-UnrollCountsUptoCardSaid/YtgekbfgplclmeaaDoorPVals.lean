import Derived.Test.YtgekbfgplclmeaaDoorPBits0
import Derived.Test.YtgekbfgplclmeaaDoorPPost
/- core.Vals: the values that an instruction takes, one by one. -/
namespace Go.Proofs.YtgekbfgplclmeaaDoor
open Go.RowKit Go.Shelf
attribute [local go_sem] Oper.semAt_some
def abZ(W W':World):Prop:=W.heap.size<=W'.heap.size∧∀(b:Nat) c t f,W.heap[b]?=some (.cells c t f)->W'.heap[b]?=some (.cells c t f)
theorem abZ.refl(W:World):abZ W W:=⟨Aad _,fun _ _ _ _ h=>h⟩
theorem adj {A B C:World}(h:abZ A B)(k:abZ B C):abZ A C:=⟨Aaj h.1 k.1,fun b c t f hc=>k.2 b c t f (h.2 b c t f hc)⟩
theorem ale {n:Nat}(W:World)(l:Nat)(o o':Obj)(_:n<=l)(hl:W.heap[l]?=some o)(hc:o.isCells=false)(_:o.isWalk=false):abZ W (W.putObj l o') :=
 ⟨by simp, fun b c t f h => by
   rw [World.putObj_heap_other (fun e => by subst e; rw [hl] at h; cases h; cases hc)]
   exact h⟩
variable {W W':World}
theorem acs(h:Below W.heap.size W W'):abZ W W':=⟨h.size,fun b c t f hc=>by rw [h.block b (Aan.1 hc).1];exact hc⟩
theorem abZ.cell(h:abZ W W'){b o:Nat}{v:Value}(hc:W.cell? ⟨b,o,none⟩=some v):W'.cell? ⟨b,o,none⟩=some v:=by
 have aq:=hc;simp only [World.cell?] at hc;cases hh:W.heap[b]? with
 | none=>rw [hh] at hc;cases hc
 | some ob =>
   rw [hh] at hc;cases ob with
   | cells c t f=>rw [World.cell?_of_block (w:=W) (a:=⟨b,o,none⟩) ((h.2 b c t f hh).trans hh.symm)];exact aq
   | _=>cases hc
theorem abZ.sl{α:Type}{r:Rp α}(hr:r.Mono){S:Nat->Prop}{sz:Nat}{v:Value}{l:List α}(h:abZ W W')(hs:SlAt S W sz r v l):SlAt S W' sz r v l :=
 hs.mono hr (fun _ h=>h) (fun _ _ _ _ hc=>h.cell hc)
theorem abZ.cells(h:abZ W W'){b o:Nat}{cs:List Value}(hc:aaj W b o cs):aaj W' b o cs:=fun j v hj=>h.cell (hc j v hj)
@[go_sem] theorem akL:yielded.match_1 (fun _=>Option Bool) (some undef) (fun b=>some b) (fun _=>none)=none:=rfl
@[go_sem] theorem ag7 {m:Value->Type}(h1:∀(fn:Fn) (first captured:Array Value),m (.func fn first captured))(h2:Unit->m .nilFunc)(h3:∀x,m x):Deferred.ofValue.match_1 m undef h1 h2 h3=h3 undef:=rfl
def akX(v:ab3):Array Value:=#[.agg #[.bool v.reg,.int .i64 v.n]]
def abv(x:abo)(fa:Option Addr)(fc:Nat):List Value:=[.int .i64 x.op,.int .i64 x.dst,.bool x.a.reg,.int .i64 x.a.n,.bool x.b.reg,.int .i64 x.b.n,.int .i64 x.fn,.slice fa x.args.length fc]
theorem alM(n:Nat)(x:abo)(fa:Option Addr)(fc:Nat)(w:World) :
 CallsIn Fence.wide n Tryd.prog 87 #[.agg (abv x fa fc).toArray] w fun e w'=>e = .returned (.func (.func 111) #[] #[.pointer (some ⟨w.heap.size,0,none⟩)])∧w'=w.alloc (.cells (abv x fa fc).toArray 63):=by
 refine callsIn_of_wp Tryd.func87 rfl trivial ?_ rfl;simp only [Tryd.ntmps87,List.size_toArray,Aaq,List.length_nil,Nat.reduceAdd,Nat.reduceSub,Array.replicate_succ,Array.replicate_zero,List.push_toArray,List.append_toArray,Aa7,List.cons_append]
 gi_wp2
 go_ret;exact⟨rfl,rfl⟩
set_option maxRecDepth 100000 in
set_option maxHeartbeats 4000000 in
theorem akK (n : Nat) (hn : 1 <= n) (l Bs : Nat) (S : Nat -> Prop) (x : abo) (fa : Option Addr) (fc : Nat)
 (hm:x.args.length<=1048576)
 (J Jx:List ab3->World->Prop) (hJ:∀pre A B,J pre A->Below A.heap.size A B->J pre B)
 (hY : ∀ pre v W1, J pre W1 -> pre.length < (abU x).length -> v ∈ abU x -> YieldAt Fence.wide (n - 1) Tryd.prog l (akX v) W1 fun e W' =>
   (e = .returned (.bool true) ∧ J (pre ++ [v]) W' ∧ abZ W1 W') ∨ (e = .returned (.bool false) ∧ Jx (pre ++ [v]) W'))
 (W:World) (hb:SlAt S W 2 aeL (.slice fa x.args.length fc) x.args) (aR:aaj W Bs 0 (abv x fa fc)) (h0:J [] W) :
 CallsIn Fence.wide n Tryd.prog 111 #[.func (.yield l) #[] #[],.pointer (some ⟨Bs,0,none⟩)] W fun e W'=>(∃v,e = .returned v) ∧
  (J (abU x) W'∨(∃pre:List ab3,pre <+: abU x∧Jx pre W')):=by
 have Hb:=hid hb;have HJ:=hid hJ;have HY:=hid hY;have aU:=hid aR;obtain⟨b0,-,-,-,-,-,-,-⟩:=aR.get8;have zB:Bs<W.heap.size:=aac b0;obtain⟨op,hop⟩:∃op,op=x.op:=⟨_,rfl⟩
 rw [<-hop] at b0;have aY:=ac1 op W;obtain⟨sd,aZ⟩:∃sd,shpD op=sd:=⟨_,rfl⟩
 obtain⟨sa,aI⟩:∃sa,shpA op=sa:=⟨_,rfl⟩
 obtain⟨sb,aJ⟩:∃sb,shpB op=sb:=⟨_,rfl⟩
 rw [aZ,aI,aJ] at aY;have aX:=hid ((callsIn_wide (n:=n - 1)).2 aY);have ad:Hid (abU x=(if sa=true then [x.a] else [])++((if sb=true then [x.b] else [])++x.args)):=by
  show _=_;unfold abU;rw [<-hop,aI,aJ]
 have a6:Hid (sb=true->sa=true):=fun h=>by
  rw [h] at aJ;rw [<-aI];unfold shpB at aJ;unfold shpA;simp at aJ ⊢;omega
 clear hb hJ hY aR aY aZ aI aJ hop;refine callsIn_of_wp Tryd.func111 rfl trivial ?_ rfl;simp only [Tryd.ntmps111,List.size_toArray,Aaq,List.length_nil,Nat.reduceAdd,Nat.reduceSub,Array.replicate_succ,Array.replicate_zero,List.push_toArray,List.append_toArray,Aa7,List.cons_append];cases sb with
 | true =>
   have aI:=a6.out rfl;subst aI;have ad:Hid (abU x=[x.a,x.b]++x.args):=ad.out
   gi_wp2_with (first
    | (refine ⟨trivial, ?_⟩; gi_at_call 36; refine (aX.out).mono ?_; rintro e w1 ⟨rfl, an⟩
       obtain ⟨W2, ag⟩ : ∃ W2, W2 = w1.alloc (.cells #[.bool sd, .bool true, .bool true] 105) := ⟨_, rfl⟩
       have aE : Below w1.heap.size w1 W2 := by rw [ag]; exact bE
       have ao : Below W.heap.size W W2 := an.trans (aE.mono an.size)
       have al : J [] W2 := HJ.out _ _ _ h0 ao
       have aq : aaj W2 Bs 0 (abv x fa fc) := aU.out.later ao
       obtain ⟨b0, -, b2, b3, b4, b5, -, b7⟩ := aq.get8
       have s1 : W2.cell? ⟨w1.heap.size, 1, none⟩ = some (.bool true) := by rw [ag]; simp
       have s2 : W2.cell? ⟨w1.heap.size, 2, none⟩ = some (.bool true) := by rw [ag]; simp
       have aT := hid aq
       have aV := hid al
       have aM := hid (Hb.out.later aap ao)
       have S2 := hid s2
       obtain ⟨fn, tmps, assign, body, ak, hR⟩ := HY.out [] x.a W2 al (by rw [ad.out]; simp) (by rw [ad.out]; simp)
       have af := hR
       rw [ag] at ak af
       unfold akX at ak
       have HR := hid af
       clear hR af
       rw [ag] at b0 b2 b3 b4 b5 b7 s1 s2
       have zs : w1.heap.size < (w1.alloc (.cells #[.bool sd, .bool true, .bool true] 105)).heap.size := by simp
       have a1 : Bs < w1.heap.size := by have := an.size; omega
       clear an aE ao al aq))
   refine HR.out.mono ?_;rintro e W3 (⟨rfl,aj,ar⟩ | ⟨rfl,az⟩)
   rotate_left
   . have aL:=hid az
     clear az
     gi_wp2
     refine bodyPost_ret (results_none rfl _ _ _) rfl ?_;exact⟨⟨_,rfl⟩,.inr ⟨_,by rw [ad.out];simp,aL.out⟩⟩
   . rw [Aa7] at aj
     rw [<-ag] at ar;have au:=hid aj;have a7:=hid ar;have aS:=ar.cells aT.out;obtain⟨-,-,c2,c3,c4,c5,-,c7⟩:=aS.get8;have s3:=ar.cell S2.out;have bh:w1.heap.size<W3.heap.size:=aac s3;have bg:Bs<W3.heap.size:=aac c2;have aN:=hid (ar.sl aap aM.out);clear aj ar aS;obtain⟨fn,tmps,assign,body,ak,hR⟩:=HY.out [x.a] x.b W3 au.out (by rw [ad.out];simp) (by rw [ad.out];simp);unfold akX at ak;have HR:=hid hR;clear hR
     gi_wp2
     refine HR.out.mono ?_;rintro e W5 (⟨rfl,ay,av⟩ | ⟨rfl,ae⟩)
     rotate_left
     . have aL:=hid ae
       clear ae
       gi_wp2
       refine bodyPost_ret (results_none rfl _ _ _) rfl ?_;exact⟨⟨_,rfl⟩,.inr ⟨_,by rw [ad.out];simp,aL.out⟩⟩
     . have aK:Hid (J [x.a,x.b] W5):=ay
       have a8:=av.cell c7;have bk:Bs<W5.heap.size:=aac a8;have aW:=hid (av.sl aap aN.out);clear ay av
       gi_wp2
       gi_loopw [32] (fun i wr=>∃(k:Nat),k<=x.args.length∧i = .int .i64 k∧J ([x.a,x.b]++x.args.take k) wr∧abZ W5 wr) (fun i _=>x.args.length - (intOf i).toNat)
       case atStart=>exact⟨0,Aaf _,rfl,by simpa using aK.out,abZ.refl _⟩
       case round =>
        obtain⟨k,hk,rfl,aj,aH⟩:=hrel;have au:=hid aj;have aC:=hid aH;clear aj aH
        by_cases hkl:k<x.args.length
        . obtain⟨ab,aQ,cs,rfl,-,hv,-,aF⟩:=(aC.out.sl aap aW.out).get hkl
          obtain⟨rfl,-⟩:=hv;obtain⟨g0,g1⟩:=aF.get2;obtain⟨y,hy⟩:∃y,y=x.args[k]:=⟨_,rfl⟩
          rw [<-hy] at g0 g1;have za:ab<wr.heap.size:=aac g0;obtain⟨W4,ai⟩:∃W4,W4=wr.alloc (.cells #[.bool y.reg,.int .i64 y.n] 42):=⟨_,rfl⟩
          have aA:Below wr.heap.size wr W4:=by rw [ai];exact bE
          obtain ⟨fn, tmps, assign, body, ak, hR⟩ := HY.out ([x.a, x.b] ++ x.args.take k) y W4 (HJ.out _ _ _ au.out aA) (by
           rw [ad.out]
           simp [List.length_take]
           omega) (by
           rw [ad.out, hy]
           simp)
          rw [ai] at ak;have af:=hR;rw [ai] at af;have aB:=hid (adj aC.out (acs aA));rw [ai] at aB;have aD:Hid ([x.a,x.b]++x.args.take k++[y]=[x.a,x.b]++x.args.take (k+1)):=by
           show _=_;rw [Aa9,Aaz hkl,hy]
          have aP:Hid ([x.a,x.b]++x.args.take (k+1) <+: abU x):=by
           have h:[x.a,x.b]++x.args.take (k+1) <+: [x.a,x.b]++x.args:=(List.prefix_append_right_inj _).2 (List.take_prefix _ _);show _ <+: _;rw [ad.out];exact h
          unfold akX at ak;have HR:=hid af;clear aF hR af hy aA ai
          gi_wp2
          refine HR.out.mono ?_;rintro e W3 (⟨rfl,ay,av⟩ | ⟨rfl,ae⟩)
          . have aw:=hid ay
            have aO:=hid (adj aB.out av);clear ay av
            gi_wp2
            go_roundw
            case rel=>exact⟨k+1,by omega,by go_num,by rw [<-aD.out];exact aw.out,aO.out⟩
            case measure=>simp [intOf];omega
          . have aw:=hid ae
            clear ae
            gi_wp2
            refine bodyPost_ret (results_none rfl _ _ _) rfl ?_;exact⟨⟨_,rfl⟩,.inr ⟨_,by rw [aD.out];exact aP.out,aw.out⟩⟩
        . have aG:k=x.args.length:=by omega
          have ax:Hid (J (abU x) wr):=by
           have h:=au.out;rw [aG,Aa0] at h;show J _ _;rw [ad.out];exact h
          clear aG
          gi_wp2
          go_end0;exact⟨⟨_,rfl⟩,.inl ax.out⟩
 | false =>
   cases sa with
   | true =>
     have ad:Hid (abU x=[x.a]++x.args):=ad.out
     gi_wp2_with (first
      | (refine ⟨trivial, ?_⟩; gi_at_call 36; refine (aX.out).mono ?_; rintro e w1 ⟨rfl, an⟩
         obtain ⟨W2, ag⟩ : ∃ W2, W2 = w1.alloc (.cells #[.bool sd, .bool true, .bool false] 105) := ⟨_, rfl⟩
         have aE : Below w1.heap.size w1 W2 := by rw [ag]; exact bE
         have ao : Below W.heap.size W W2 := an.trans (aE.mono an.size)
         have al : J [] W2 := HJ.out _ _ _ h0 ao
         have aq : aaj W2 Bs 0 (abv x fa fc) := aU.out.later ao
         obtain ⟨b0, -, b2, b3, b4, b5, -, b7⟩ := aq.get8
         have s1 : W2.cell? ⟨w1.heap.size, 1, none⟩ = some (.bool true) := by rw [ag]; simp
         have s2 : W2.cell? ⟨w1.heap.size, 2, none⟩ = some (.bool false) := by rw [ag]; simp
         have aT := hid aq
         have aV := hid al
         have aM := hid (Hb.out.later aap ao)
         have S2 := hid s2
         obtain ⟨fn, tmps, assign, body, ak, hR⟩ := HY.out [] x.a W2 al (by rw [ad.out]; simp) (by rw [ad.out]; simp)
         have af := hR
         rw [ag] at ak af
         unfold akX at ak
         have HR := hid af
         clear hR af
         rw [ag] at b0 b2 b3 b4 b5 b7 s1 s2
         have zs : w1.heap.size < (w1.alloc (.cells #[.bool sd, .bool true, .bool false] 105)).heap.size := by simp
         have a1 : Bs < w1.heap.size := by have := an.size; omega
         clear an aE ao al aq))
     refine HR.out.mono ?_;rintro e W3 (⟨rfl,aj,ar⟩ | ⟨rfl,az⟩)
     rotate_left
     . have aL:=hid az
       clear az
       gi_wp2
       refine bodyPost_ret (results_none rfl _ _ _) rfl ?_;exact⟨⟨_,rfl⟩,.inr ⟨_,by rw [ad.out];simp,aL.out⟩⟩
     . rw [Aa7] at aj
       rw [<-ag] at ar;have au:=hid aj;have a7:=hid ar;have aS:=ar.cells aT.out;obtain⟨-,-,c2,c3,c4,c5,-,c7⟩:=aS.get8;have s3:=ar.cell S2.out;have bh:w1.heap.size<W3.heap.size:=aac s3;have bg:Bs<W3.heap.size:=aac c2;have aN:=hid (ar.sl aap aM.out);clear aj ar aS
       gi_wp2
       obtain⟨WL,bj⟩:∃WL,WL=W3:=⟨_,rfl⟩
       have aK:Hid (J [x.a] W3):=au.out
       gi_loopw [32] (fun i wr=>∃(k:Nat),k<=x.args.length∧i = .int .i64 k∧J ([x.a]++x.args.take k) wr∧abZ W3 wr) (fun i _=>x.args.length - (intOf i).toNat)
       case atStart=>exact⟨0,Aaf _,rfl,by simpa using aK.out,abZ.refl _⟩
       case round =>
        obtain⟨k,hk,rfl,aj,aH⟩:=hrel;have au:=hid aj;have aC:=hid aH;clear aj aH
        by_cases hkl:k<x.args.length
        . obtain⟨ab,aQ,cs,rfl,-,hv,-,aF⟩:=(aC.out.sl aap aN.out).get hkl
          obtain⟨rfl,-⟩:=hv;obtain⟨g0,g1⟩:=aF.get2;obtain⟨y,hy⟩:∃y,y=x.args[k]:=⟨_,rfl⟩
          rw [<-hy] at g0 g1;have za:ab<wr.heap.size:=aac g0;obtain⟨W4,ai⟩:∃W4,W4=wr.alloc (.cells #[.bool y.reg,.int .i64 y.n] 42):=⟨_,rfl⟩
          have aA:Below wr.heap.size wr W4:=by rw [ai];exact bE
          obtain ⟨fn, tmps, assign, body, ak, hR⟩ := HY.out ([x.a] ++ x.args.take k) y W4 (HJ.out _ _ _ au.out aA) (by
           rw [ad.out]
           simp [List.length_take]
           omega) (by
           rw [ad.out, hy]
           simp)
          rw [ai] at ak;have af:=hR;rw [ai] at af;have aB:=hid (adj aC.out (acs aA));rw [ai] at aB;have aD:Hid ([x.a]++x.args.take k++[y]=[x.a]++x.args.take (k+1)):=by
           show _=_;rw [Aa9,Aaz hkl,hy]
          have aP:Hid ([x.a]++x.args.take (k+1) <+: abU x):=by
           have h:[x.a]++x.args.take (k+1) <+: [x.a]++x.args:=(List.prefix_append_right_inj _).2 (List.take_prefix _ _);show _ <+: _;rw [ad.out];exact h
          unfold akX at ak;have HR:=hid af;clear aF hR af hy aA ai
          gi_wp2
          refine HR.out.mono ?_;rintro e W3 (⟨rfl,ay,av⟩ | ⟨rfl,ae⟩)
          . have aw:=hid ay
            have aO:=hid (adj aB.out av);clear ay av
            gi_wp2
            go_roundw
            case rel=>exact⟨k+1,by omega,by go_num,by rw [<-aD.out];exact aw.out,aO.out⟩
            case measure=>simp [intOf];omega
          . have aw:=hid ae
            clear ae
            gi_wp2
            refine bodyPost_ret (results_none rfl _ _ _) rfl ?_;exact⟨⟨_,rfl⟩,.inr ⟨_,by rw [aD.out];exact aP.out,aw.out⟩⟩
        . have aG:k=x.args.length:=by omega
          have ax:Hid (J (abU x) wr):=by
           have h:=au.out;rw [aG,Aa0] at h;show J _ _;rw [ad.out];exact h
          clear aG
          gi_wp2
          go_end0;exact⟨⟨_,rfl⟩,.inl ax.out⟩
   | false =>
     have ad:Hid (abU x=([]:List ab3)++x.args):=ad.out
     gi_wp2_with (first
      | (refine ⟨trivial, ?_⟩; gi_at_call 36; refine (aX.out).mono ?_; rintro e w1 ⟨rfl, an⟩
         obtain ⟨W2, ag⟩ : ∃ W2, W2 = w1.alloc (.cells #[.bool sd, .bool false, .bool false] 105) := ⟨_, rfl⟩
         have aE : Below w1.heap.size w1 W2 := by rw [ag]; exact bE
         have ao : Below W.heap.size W W2 := an.trans (aE.mono an.size)
         have al : J [] W2 := HJ.out _ _ _ h0 ao
         have aq : aaj W2 Bs 0 (abv x fa fc) := aU.out.later ao
         obtain ⟨b0, -, b2, b3, b4, b5, -, b7⟩ := aq.get8
         have s1 : W2.cell? ⟨w1.heap.size, 1, none⟩ = some (.bool false) := by rw [ag]; simp
         have s2 : W2.cell? ⟨w1.heap.size, 2, none⟩ = some (.bool false) := by rw [ag]; simp
         have aT := hid aq
         have aV := hid al
         have aM := hid (Hb.out.later aap ao)
         have S2 := hid s2
         rw [ag] at b0 b2 b3 b4 b5 b7 s1 s2
         have zs : w1.heap.size < (w1.alloc (.cells #[.bool sd, .bool false, .bool false] 105)).heap.size := by simp
         have a1 : Bs < w1.heap.size := by have := an.size; omega
         clear an aE ao al aq))
     have aN:=hid aM.out;have aK:=hid aV.out;rw [<-ag]
     gi_loopw [32] (fun i wr=>∃(k:Nat),k<=x.args.length∧i = .int .i64 k∧J (([]:List ab3)++x.args.take k) wr∧abZ W2 wr) (fun i _=>x.args.length - (intOf i).toNat)
     case atStart=>exact⟨0,Aaf _,rfl,by simpa using aK.out,abZ.refl _⟩
     case round =>
      obtain⟨k,hk,rfl,aj,aH⟩:=hrel;have au:=hid aj;have aC:=hid aH;clear aj aH
      by_cases hkl:k<x.args.length
      . obtain⟨ab,aQ,cs,rfl,-,hv,-,aF⟩:=(aC.out.sl aap aN.out).get hkl
        obtain⟨rfl,-⟩:=hv;obtain⟨g0,g1⟩:=aF.get2;obtain⟨y,hy⟩:∃y,y=x.args[k]:=⟨_,rfl⟩
        rw [<-hy] at g0 g1;have za:ab<wr.heap.size:=aac g0;obtain⟨W4,ai⟩:∃W4,W4=wr.alloc (.cells #[.bool y.reg,.int .i64 y.n] 42):=⟨_,rfl⟩
        have aA:Below wr.heap.size wr W4:=by rw [ai];exact bE
        obtain ⟨fn, tmps, assign, body, ak, hR⟩ := HY.out (([] : List ab3) ++ x.args.take k) y W4 (HJ.out _ _ _ au.out aA) (by
         rw [ad.out]
         simp [List.length_take]
         omega) (by
         rw [ad.out, hy]
         simp)
        rw [ai] at ak;have af:=hR;rw [ai] at af;have aB:=hid (adj aC.out (acs aA));rw [ai] at aB;have aD:Hid (([]:List ab3)++x.args.take k++[y]=([]:List ab3)++x.args.take (k+1)):=by
         show _=_;rw [Aa9,Aaz hkl,hy]
        have aP:Hid (([]:List ab3)++x.args.take (k+1) <+: abU x):=by
         have h:([]:List ab3)++x.args.take (k+1) <+: ([]:List ab3)++x.args:=(List.prefix_append_right_inj _).2 (List.take_prefix _ _);show _ <+: _;rw [ad.out];exact h
        unfold akX at ak;have HR:=hid af;clear aF hR af hy aA ai
        gi_wp2
        refine HR.out.mono ?_;rintro e W3 (⟨rfl,ay,av⟩ | ⟨rfl,ae⟩)
        . have aw:=hid ay
          have aO:=hid (adj aB.out av);clear ay av
          gi_wp2
          go_roundw
          case rel=>exact⟨k+1,by omega,by go_num,by rw [<-aD.out];exact aw.out,aO.out⟩
          case measure=>simp [intOf];omega
        . have aw:=hid ae
          clear ae
          gi_wp2
          refine bodyPost_ret (results_none rfl _ _ _) rfl ?_;exact⟨⟨_,rfl⟩,.inr ⟨_,by rw [aD.out];exact aP.out,aw.out⟩⟩
      . have aG:k=x.args.length:=by omega
        have ax:Hid (J (abU x) wr):=by
         have h:=au.out;rw [aG,Aa0] at h;show J _ _;rw [ad.out];exact h
        clear aG
        gi_wp2
        go_end0;exact⟨⟨_,rfl⟩,.inl ax.out⟩
def al1(x:abo):Type:={ v:ab3 // v∈abU x }
def valOf {x:abo}(v:al1 x):ab3:=v.1
def amL {x:abo}(v:al1 x):Array Value:=#[.agg #[.bool (valOf v).reg,.int .i64 (valOf v).n]]
theorem aiq (n : Nat) (hn : 1 <= n) (Bs : Nat) (S : Nat -> Prop) (x : abo) (fa : Option Addr) (fc : Nat) (w : World)
 (hm:x.args.length<=1048576) (hb:SlAt S w 2 aeL (.slice fa x.args.length fc) x.args) (aR:aaj w Bs 0 (abv x fa fc)) :
 SeqStopsK Fence.wide n Tryd.prog 111 #[.pointer (some ⟨Bs,0,none⟩)] (amL (x:=x)) abZ (fun ys=>ys.map valOf=abU x) (fun pre=>pre.map valOf <+: abU x) (abU x).length w:=by
 intro l J Jx W hW hJ _ hY be
 refine (akK n hn l Bs S x fa fc hm (fun pre W => ∃ ys : List (al1 x), ys.map valOf = pre ∧ J ys W) (fun pre W => ∃ ys : List (al1 x), ys.map valOf = pre ∧ Jx ys W)
  (fun pre A B hA bd => hA.elim fun ys hy => ⟨ys, hy.1, hJ ys A B none hy.2 (adh (B := 0) bd none (Aaf _)) (fun r e => by cases e)⟩)
  ?_ W (hb.later aap hW) (aR.later hW) ⟨[], rfl, be⟩).mono ?_
 . rintro pre v W1 ⟨ys,rfl,bf⟩ hl hv
   obtain⟨fn,tmps,assign,body,h1,h2⟩:=hY ys ⟨v,hv⟩ W1 bf (by simpa using hl);refine⟨fn,tmps,assign,body,h1,h2.mono ?_⟩;rintro e W' (⟨he,al,hk⟩ | ⟨he,al⟩)
   . exact .inl ⟨he,⟨ys++[⟨v,hv⟩],by rw [Aat];rfl,al⟩,hk⟩
   . exact .inr ⟨he,ys++[⟨v,hv⟩],by rw [Aat];rfl,al⟩
 . rintro e W' ⟨hv,(⟨ys,h1,h2⟩ | ⟨pre,h1,ys,rfl,h3⟩)⟩
   . exact⟨hv,.inl ⟨ys,h1,h2⟩⟩
   . exact⟨hv,.inr ⟨ys,h1,h3⟩⟩
end Go.Proofs.YtgekbfgplclmeaaDoor
