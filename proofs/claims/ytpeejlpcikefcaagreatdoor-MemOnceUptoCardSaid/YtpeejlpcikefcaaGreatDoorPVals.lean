import Derived.Test.YtpeejlpcikefcaaGreatDoorPPost
/- core.Vals: the values that an instruction takes, one by one. -/
namespace Go.Proofs.YtpeejlpcikefcaaGreatDoor
open Go.RowKit Go.Shelf
attribute [local go_sem] Oper.semAt_some
def adJ(W W':World):Prop:=W.heap.size<=W'.heap.size∧∀(b:Nat) c t f,W.heap[b]?=some (.cells c t f)->W'.heap[b]?=some (.cells c t f)
theorem adJ.refl(W:World):adJ W W:=⟨Aac _,fun _ _ _ _ h=>h⟩
theorem afx {A B C:World}(h:adJ A B)(k:adJ B C):adJ A C:=⟨Aai h.1 k.1,fun b c t f hc=>k.2 b c t f (h.2 b c t f hc)⟩
theorem asP {n:Nat}(W:World)(l:Nat)(o o':Obj)(_:n<=l)(hl:W.heap[l]?=some o)(hc:o.isCells=false)(_:o.isWalk=false):adJ W (W.putObj l o') :=
 ⟨by simp, fun b c t f h => by
   rw [World.putObj_heap_other (fun e => by subst e; rw [hl] at h; cases h; cases hc)]
   exact h⟩
variable {W W':World}
theorem aeg(h:Below W.heap.size W W'):adJ W W':=⟨h.size,fun b c t f hc=>by rw [h.block b (Aag.1 hc).1];exact hc⟩
theorem adJ.cell(h:adJ W W'){b o:Nat}{v:Value}(hc:W.cell? ⟨b,o,none⟩=some v):W'.cell? ⟨b,o,none⟩=some v:=by
 have ao:=hc;simp only [World.cell?] at hc;cases hh:W.heap[b]? with
 | none=>rw [hh] at hc;cases hc
 | some ob =>
   rw [hh] at hc;cases ob with
   | cells c t f=>rw [World.cell?_of_block (w:=W) (a:=⟨b,o,none⟩) ((h.2 b c t f hh).trans hh.symm)];exact ao
   | _=>cases hc
theorem adJ.sl{α:Type}{r:Rp α}(hr:r.Mono){S:Nat->Prop}{sz:Nat}{v:Value}{l:List α}(h:adJ W W')(hs:SlAt S W sz r v l):SlAt S W' sz r v l :=
 hs.mono hr (fun _ h=>h) (fun _ _ _ _ hc=>h.cell hc)
theorem adJ.cells(h:adJ W W'){b o:Nat}{cs:List Value}(hc:aal W b o cs):aal W' b o cs:=fun j v hj=>h.cell (hc j v hj)
@[go_sem] theorem arv:yielded.match_1 (fun _=>Option Bool) (some undef) (fun b=>some b) (fun _=>none)=none:=rfl
@[go_sem] theorem al8 {m:Value->Type}(h1:∀(fn:Fn) (first captured:Array Value),m (.func fn first captured))(h2:Unit->m .nilFunc)(h3:∀x,m x):Deferred.ofValue.match_1 m undef h1 h2 h3=h3 undef:=rfl
def asQ(v:aay):Array Value:=#[.agg #[.bool v.reg,.int .i64 v.n]]
def acO(x:aaJ)(fa:Option Addr)(fc:Nat):List Value:=[.int .i64 x.op,.int .i64 x.dst,.bool x.a.reg,.int .i64 x.a.n,.bool x.b.reg,.int .i64 x.b.n,.int .i64 x.fn,.slice fa x.args.length fc]
theorem asR(n:Nat)(x:aaJ)(fa:Option Addr)(fc:Nat)(w:World) :
 CallsIn Fence.wide n Tryz.prog 81 #[.agg (acO x fa fc).toArray] w fun e w'=>e = .returned (.func (.func 108) #[] #[.pointer (some ⟨w.heap.size,0,none⟩)])∧w'=w.alloc (.cells (acO x fa fc).toArray 49):=by
 refine callsIn_of_wp Tryz.func81 rfl trivial ?_ rfl;simp only [Tryz.ntmps81,Abn,Aba,Ab5,Nat.reduceAdd,Nat.reduceSub,Ace,Acf,List.push_toArray,Acg,Abc,Ab6]
 gi_wp2
 go_ret;exact⟨rfl,rfl⟩
set_option maxRecDepth 100000 in
set_option maxHeartbeats 4000000 in
theorem arw (n : Nat) (hn : 1 <= n) (l Bs : Nat) (S : Nat -> Prop) (x : aaJ) (fa : Option Addr) (fc : Nat)
 (hm:x.args.length<=1048576)
 (J Jx:List aay->World->Prop) (hJ:∀pre A B,J pre A->Below A.heap.size A B->J pre B)
 (hY : ∀ pre v W1, J pre W1 -> pre.length < (adm x).length -> v ∈ adm x -> YieldAt Fence.wide (n - 1) Tryz.prog l (asQ v) W1 fun e W' =>
   (e = .returned (.bool true) ∧ J (pre ++ [v]) W' ∧ adJ W1 W') ∨ (e = .returned (.bool false) ∧ Jx (pre ++ [v]) W'))
 (W:World) (hb:SlAt S W 2 agd (.slice fa x.args.length fc) x.args) (aJ:aal W Bs 0 (acO x fa fc)) (h0:J [] W) :
 CallsIn Fence.wide n Tryz.prog 108 #[.func (.yield l) #[] #[],.pointer (some ⟨Bs,0,none⟩)] W fun e W'=>(∃v,e = .returned v) ∧
  (J (adm x) W'∨(∃pre:List aay,pre <+: adm x∧Jx pre W')):=by
 have Hb:=hid hb;have HJ:=hid hJ;have HY:=hid hY;have aV:=hid aJ;obtain⟨b0,-,-,-,-,-,-,-⟩:=aJ.get8;have zB:Bs<W.heap.size:=aac b0;obtain⟨op,hop⟩:∃op,op=x.op:=⟨_,rfl⟩
 rw [<-hop] at b0;have aW:=aiM op W;obtain⟨sd,aZ⟩:∃sd,shpD op=sd:=⟨_,rfl⟩
 obtain⟨sa,aI⟩:∃sa,shpA op=sa:=⟨_,rfl⟩
 obtain⟨sb,aH⟩:∃sb,shpB op=sb:=⟨_,rfl⟩
 rw [aZ,aI,aH] at aW;have aU:=hid ((callsIn_wide (n:=n - 1)).2 aW);have ad:Hid (adm x=(if sa=true then [x.a] else [])++((if sb=true then [x.b] else [])++x.args)):=by
  show _=_;unfold adm;rw [<-hop,aI,aH]
 have bf:Hid (sb=true->sa=true):=fun h=>by
  rw [h] at aH;rw [<-aI];unfold shpB at aH;unfold shpA;simp at aH ⊢;omega
 clear hb hJ hY aJ aW aZ aI aH hop;refine callsIn_of_wp Tryz.func108 rfl trivial ?_ rfl;simp only [Tryz.ntmps108,Abn,Aba,Ab5,Nat.reduceAdd,Nat.reduceSub,Ace,Acf,List.push_toArray,Acg,Abc,Ab6];cases sb with
 | true =>
   have aI:=bf.out rfl;subst aI;have ad:Hid (adm x=[x.a,x.b]++x.args):=ad.out
   gi_wp2_with (first
    | (refine ⟨trivial, ?_⟩; gi_at_call 99; refine (aU.out).mono ?_; rintro e w1 ⟨rfl, an⟩
       obtain ⟨W2, af⟩ : ∃ W2, W2 = w1.alloc (.cells #[.bool sd, .bool true, .bool true] 154) := ⟨_, rfl⟩
       have aA : Below w1.heap.size w1 W2 := by rw [af]; exact bE
       have al : Below W.heap.size W W2 := an.trans (aA.mono an.size)
       have ak : J [] W2 := HJ.out _ _ _ h0 al
       have ao : aal W2 Bs 0 (acO x fa fc) := aV.out.later al
       obtain ⟨b0, -, b2, b3, b4, b5, -, b7⟩ := ao.get8
       have s1 : W2.cell? ⟨w1.heap.size, 1, none⟩ = some (.bool true) := by rw [af]; simp
       have s2 : W2.cell? ⟨w1.heap.size, 2, none⟩ = some (.bool true) := by rw [af]; simp
       have aS := hid ao
       have aT := hid ak
       have aO := hid (Hb.out.later aaN al)
       have S2 := hid s2
       obtain ⟨fn, tmps, assign, body, ai, hR⟩ := HY.out [] x.a W2 ak (by rw [ad.out]; simp) (by rw [ad.out]; simp)
       have ag := hR
       rw [af] at ai ag
       unfold asQ at ai
       have HR := hid ag
       clear hR ag
       rw [af] at b0 b2 b3 b4 b5 b7 s1 s2
       have zs : w1.heap.size < (w1.alloc (.cells #[.bool sd, .bool true, .bool true] 154)).heap.size := by simp
       have aY : Bs < w1.heap.size := by have := an.size; omega
       clear an aA al ak ao))
   refine HR.out.mono ?_;rintro e W3 (⟨rfl,aj,aq⟩ | ⟨rfl,aw⟩)
   rotate_left
   . have aQ:=hid aw
     clear aw
     gi_wp2
     refine bodyPost_ret (results_none rfl _ _ _) rfl ?_;exact⟨⟨_,rfl⟩,.inr ⟨_,by rw [ad.out];simp,aQ.out⟩⟩
   . rw [Abc] at aj
     rw [<-af] at aq;have ar:=hid aj;have a6:=hid aq;have aK:=aq.cells aS.out;obtain⟨-,-,c2,c3,c4,c5,-,c7⟩:=aK.get8;have s3:=aq.cell S2.out;have a8:w1.heap.size<W3.heap.size:=aac s3;have be:Bs<W3.heap.size:=aac c2;have aP:=hid (aq.sl aaN aO.out);clear aj aq aK;obtain⟨fn,tmps,assign,body,ai,hR⟩:=HY.out [x.a] x.b W3 ar.out (by rw [ad.out];simp) (by rw [ad.out];simp);unfold asQ at ai;have HR:=hid hR;clear hR
     gi_wp2
     refine HR.out.mono ?_;rintro e W5 (⟨rfl,ay,au⟩ | ⟨rfl,ae⟩)
     rotate_left
     . have aQ:=hid ae
       clear ae
       gi_wp2
       refine bodyPost_ret (results_none rfl _ _ _) rfl ?_;exact⟨⟨_,rfl⟩,.inr ⟨_,by rw [ad.out];simp,aQ.out⟩⟩
     . have aR:Hid (J [x.a,x.b] W5):=ay
       have a7:=au.cell c7;have bj:Bs<W5.heap.size:=aac a7;have aX:=hid (au.sl aaN aP.out);clear ay au
       gi_wp2
       gi_loopw [32] (fun i wr=>∃(k:Nat),k<=x.args.length∧i = .int .i64 k∧J ([x.a,x.b]++x.args.take k) wr∧adJ W5 wr) (fun i _=>x.args.length - (intOf i).toNat)
       case atStart=>exact⟨0,Aaj _,rfl,by simpa using aR.out,adJ.refl _⟩
       case round =>
        obtain⟨k,hk,rfl,aj,aG⟩:=hrel;have ar:=hid aj;have aE:=hid aG;clear aj aG
        by_cases hkl:k<x.args.length
        . obtain⟨ab,aM,cs,rfl,-,hv,-,aC⟩:=(aE.out.sl aaN aX.out).get hkl
          obtain⟨rfl,-⟩:=hv;obtain⟨g0,g1⟩:=aC.get2;obtain⟨y,hy⟩:∃y,y=x.args[k]:=⟨_,rfl⟩
          rw [<-hy] at g0 g1;have za:ab<wr.heap.size:=aac g0;obtain⟨W4,ah⟩:∃W4,W4=wr.alloc (.cells #[.bool y.reg,.int .i64 y.n] 41):=⟨_,rfl⟩
          have av:Below wr.heap.size wr W4:=by rw [ah];exact bE
          obtain ⟨fn, tmps, assign, body, ai, hR⟩ := HY.out ([x.a, x.b] ++ x.args.take k) y W4 (HJ.out _ _ _ ar.out av) (by
           rw [ad.out]
           simp [List.length_take]
           omega) (by
           rw [ad.out, hy]
           simp)
          rw [ah] at ai;have ag:=hR;rw [ah] at ag;have aF:=hid (afx aE.out (aeg av));rw [ah] at aF;have aB:Hid ([x.a,x.b]++x.args.take k++[y]=[x.a,x.b]++x.args.take (k+1)):=by
           show _=_;rw [Abo,Aby hkl,hy]
          have aN:Hid ([x.a,x.b]++x.args.take (k+1) <+: adm x):=by
           have h:[x.a,x.b]++x.args.take (k+1) <+: [x.a,x.b]++x.args:=(List.prefix_append_right_inj _).2 (List.take_prefix _ _);show _ <+: _;rw [ad.out];exact h
          unfold asQ at ai;have HR:=hid ag;clear aC hR ag hy av ah
          gi_wp2
          refine HR.out.mono ?_;rintro e W3 (⟨rfl,ay,au⟩ | ⟨rfl,ae⟩)
          . have az:=hid ay
            have aL:=hid (afx aF.out au);clear ay au
            gi_wp2
            go_roundw
            case rel=>exact⟨k+1,by omega,by go_num,by rw [<-aB.out];exact az.out,aL.out⟩
            case measure=>simp [intOf];omega
          . have az:=hid ae
            clear ae
            gi_wp2
            refine bodyPost_ret (results_none rfl _ _ _) rfl ?_;exact⟨⟨_,rfl⟩,.inr ⟨_,by rw [aB.out];exact aN.out,az.out⟩⟩
        . have aD:k=x.args.length:=by omega
          have ax:Hid (J (adm x) wr):=by
           have h:=ar.out;rw [aD,Aa1] at h;show J _ _;rw [ad.out];exact h
          clear aD
          gi_wp2
          go_end0;exact⟨⟨_,rfl⟩,.inl ax.out⟩
 | false =>
   cases sa with
   | true =>
     have ad:Hid (adm x=[x.a]++x.args):=ad.out
     gi_wp2_with (first
      | (refine ⟨trivial, ?_⟩; gi_at_call 99; refine (aU.out).mono ?_; rintro e w1 ⟨rfl, an⟩
         obtain ⟨W2, af⟩ : ∃ W2, W2 = w1.alloc (.cells #[.bool sd, .bool true, .bool false] 154) := ⟨_, rfl⟩
         have aA : Below w1.heap.size w1 W2 := by rw [af]; exact bE
         have al : Below W.heap.size W W2 := an.trans (aA.mono an.size)
         have ak : J [] W2 := HJ.out _ _ _ h0 al
         have ao : aal W2 Bs 0 (acO x fa fc) := aV.out.later al
         obtain ⟨b0, -, b2, b3, b4, b5, -, b7⟩ := ao.get8
         have s1 : W2.cell? ⟨w1.heap.size, 1, none⟩ = some (.bool true) := by rw [af]; simp
         have s2 : W2.cell? ⟨w1.heap.size, 2, none⟩ = some (.bool false) := by rw [af]; simp
         have aS := hid ao
         have aT := hid ak
         have aO := hid (Hb.out.later aaN al)
         have S2 := hid s2
         obtain ⟨fn, tmps, assign, body, ai, hR⟩ := HY.out [] x.a W2 ak (by rw [ad.out]; simp) (by rw [ad.out]; simp)
         have ag := hR
         rw [af] at ai ag
         unfold asQ at ai
         have HR := hid ag
         clear hR ag
         rw [af] at b0 b2 b3 b4 b5 b7 s1 s2
         have zs : w1.heap.size < (w1.alloc (.cells #[.bool sd, .bool true, .bool false] 154)).heap.size := by simp
         have aY : Bs < w1.heap.size := by have := an.size; omega
         clear an aA al ak ao))
     refine HR.out.mono ?_;rintro e W3 (⟨rfl,aj,aq⟩ | ⟨rfl,aw⟩)
     rotate_left
     . have aQ:=hid aw
       clear aw
       gi_wp2
       refine bodyPost_ret (results_none rfl _ _ _) rfl ?_;exact⟨⟨_,rfl⟩,.inr ⟨_,by rw [ad.out];simp,aQ.out⟩⟩
     . rw [Abc] at aj
       rw [<-af] at aq;have ar:=hid aj;have a6:=hid aq;have aK:=aq.cells aS.out;obtain⟨-,-,c2,c3,c4,c5,-,c7⟩:=aK.get8;have s3:=aq.cell S2.out;have a8:w1.heap.size<W3.heap.size:=aac s3;have be:Bs<W3.heap.size:=aac c2;have aP:=hid (aq.sl aaN aO.out);clear aj aq aK
       gi_wp2
       obtain⟨WL,bh⟩:∃WL,WL=W3:=⟨_,rfl⟩
       have aR:Hid (J [x.a] W3):=ar.out
       gi_loopw [32] (fun i wr=>∃(k:Nat),k<=x.args.length∧i = .int .i64 k∧J ([x.a]++x.args.take k) wr∧adJ W3 wr) (fun i _=>x.args.length - (intOf i).toNat)
       case atStart=>exact⟨0,Aaj _,rfl,by simpa using aR.out,adJ.refl _⟩
       case round =>
        obtain⟨k,hk,rfl,aj,aG⟩:=hrel;have ar:=hid aj;have aE:=hid aG;clear aj aG
        by_cases hkl:k<x.args.length
        . obtain⟨ab,aM,cs,rfl,-,hv,-,aC⟩:=(aE.out.sl aaN aP.out).get hkl
          obtain⟨rfl,-⟩:=hv;obtain⟨g0,g1⟩:=aC.get2;obtain⟨y,hy⟩:∃y,y=x.args[k]:=⟨_,rfl⟩
          rw [<-hy] at g0 g1;have za:ab<wr.heap.size:=aac g0;obtain⟨W4,ah⟩:∃W4,W4=wr.alloc (.cells #[.bool y.reg,.int .i64 y.n] 41):=⟨_,rfl⟩
          have av:Below wr.heap.size wr W4:=by rw [ah];exact bE
          obtain ⟨fn, tmps, assign, body, ai, hR⟩ := HY.out ([x.a] ++ x.args.take k) y W4 (HJ.out _ _ _ ar.out av) (by
           rw [ad.out]
           simp [List.length_take]
           omega) (by
           rw [ad.out, hy]
           simp)
          rw [ah] at ai;have ag:=hR;rw [ah] at ag;have aF:=hid (afx aE.out (aeg av));rw [ah] at aF;have aB:Hid ([x.a]++x.args.take k++[y]=[x.a]++x.args.take (k+1)):=by
           show _=_;rw [Abo,Aby hkl,hy]
          have aN:Hid ([x.a]++x.args.take (k+1) <+: adm x):=by
           have h:[x.a]++x.args.take (k+1) <+: [x.a]++x.args:=(List.prefix_append_right_inj _).2 (List.take_prefix _ _);show _ <+: _;rw [ad.out];exact h
          unfold asQ at ai;have HR:=hid ag;clear aC hR ag hy av ah
          gi_wp2
          refine HR.out.mono ?_;rintro e W3 (⟨rfl,ay,au⟩ | ⟨rfl,ae⟩)
          . have az:=hid ay
            have aL:=hid (afx aF.out au);clear ay au
            gi_wp2
            go_roundw
            case rel=>exact⟨k+1,by omega,by go_num,by rw [<-aB.out];exact az.out,aL.out⟩
            case measure=>simp [intOf];omega
          . have az:=hid ae
            clear ae
            gi_wp2
            refine bodyPost_ret (results_none rfl _ _ _) rfl ?_;exact⟨⟨_,rfl⟩,.inr ⟨_,by rw [aB.out];exact aN.out,az.out⟩⟩
        . have aD:k=x.args.length:=by omega
          have ax:Hid (J (adm x) wr):=by
           have h:=ar.out;rw [aD,Aa1] at h;show J _ _;rw [ad.out];exact h
          clear aD
          gi_wp2
          go_end0;exact⟨⟨_,rfl⟩,.inl ax.out⟩
   | false =>
     have ad:Hid (adm x=([]:List aay)++x.args):=ad.out
     gi_wp2_with (first
      | (refine ⟨trivial, ?_⟩; gi_at_call 99; refine (aU.out).mono ?_; rintro e w1 ⟨rfl, an⟩
         obtain ⟨W2, af⟩ : ∃ W2, W2 = w1.alloc (.cells #[.bool sd, .bool false, .bool false] 154) := ⟨_, rfl⟩
         have aA : Below w1.heap.size w1 W2 := by rw [af]; exact bE
         have al : Below W.heap.size W W2 := an.trans (aA.mono an.size)
         have ak : J [] W2 := HJ.out _ _ _ h0 al
         have ao : aal W2 Bs 0 (acO x fa fc) := aV.out.later al
         obtain ⟨b0, -, b2, b3, b4, b5, -, b7⟩ := ao.get8
         have s1 : W2.cell? ⟨w1.heap.size, 1, none⟩ = some (.bool false) := by rw [af]; simp
         have s2 : W2.cell? ⟨w1.heap.size, 2, none⟩ = some (.bool false) := by rw [af]; simp
         have aS := hid ao
         have aT := hid ak
         have aO := hid (Hb.out.later aaN al)
         have S2 := hid s2
         rw [af] at b0 b2 b3 b4 b5 b7 s1 s2
         have zs : w1.heap.size < (w1.alloc (.cells #[.bool sd, .bool false, .bool false] 154)).heap.size := by simp
         have aY : Bs < w1.heap.size := by have := an.size; omega
         clear an aA al ak ao))
     have aP:=hid aO.out;have aR:=hid aT.out;rw [<-af]
     gi_loopw [32] (fun i wr=>∃(k:Nat),k<=x.args.length∧i = .int .i64 k∧J (([]:List aay)++x.args.take k) wr∧adJ W2 wr) (fun i _=>x.args.length - (intOf i).toNat)
     case atStart=>exact⟨0,Aaj _,rfl,by simpa using aR.out,adJ.refl _⟩
     case round =>
      obtain⟨k,hk,rfl,aj,aG⟩:=hrel;have ar:=hid aj;have aE:=hid aG;clear aj aG
      by_cases hkl:k<x.args.length
      . obtain⟨ab,aM,cs,rfl,-,hv,-,aC⟩:=(aE.out.sl aaN aP.out).get hkl
        obtain⟨rfl,-⟩:=hv;obtain⟨g0,g1⟩:=aC.get2;obtain⟨y,hy⟩:∃y,y=x.args[k]:=⟨_,rfl⟩
        rw [<-hy] at g0 g1;have za:ab<wr.heap.size:=aac g0;obtain⟨W4,ah⟩:∃W4,W4=wr.alloc (.cells #[.bool y.reg,.int .i64 y.n] 41):=⟨_,rfl⟩
        have av:Below wr.heap.size wr W4:=by rw [ah];exact bE
        obtain ⟨fn, tmps, assign, body, ai, hR⟩ := HY.out (([] : List aay) ++ x.args.take k) y W4 (HJ.out _ _ _ ar.out av) (by
         rw [ad.out]
         simp [List.length_take]
         omega) (by
         rw [ad.out, hy]
         simp)
        rw [ah] at ai;have ag:=hR;rw [ah] at ag;have aF:=hid (afx aE.out (aeg av));rw [ah] at aF;have aB:Hid (([]:List aay)++x.args.take k++[y]=([]:List aay)++x.args.take (k+1)):=by
         show _=_;rw [Abo,Aby hkl,hy]
        have aN:Hid (([]:List aay)++x.args.take (k+1) <+: adm x):=by
         have h:([]:List aay)++x.args.take (k+1) <+: ([]:List aay)++x.args:=(List.prefix_append_right_inj _).2 (List.take_prefix _ _);show _ <+: _;rw [ad.out];exact h
        unfold asQ at ai;have HR:=hid ag;clear aC hR ag hy av ah
        gi_wp2
        refine HR.out.mono ?_;rintro e W3 (⟨rfl,ay,au⟩ | ⟨rfl,ae⟩)
        . have az:=hid ay
          have aL:=hid (afx aF.out au);clear ay au
          gi_wp2
          go_roundw
          case rel=>exact⟨k+1,by omega,by go_num,by rw [<-aB.out];exact az.out,aL.out⟩
          case measure=>simp [intOf];omega
        . have az:=hid ae
          clear ae
          gi_wp2
          refine bodyPost_ret (results_none rfl _ _ _) rfl ?_;exact⟨⟨_,rfl⟩,.inr ⟨_,by rw [aB.out];exact aN.out,az.out⟩⟩
      . have aD:k=x.args.length:=by omega
        have ax:Hid (J (adm x) wr):=by
         have h:=ar.out;rw [aD,Aa1] at h;show J _ _;rw [ad.out];exact h
        clear aD
        gi_wp2
        go_end0;exact⟨⟨_,rfl⟩,.inl ax.out⟩
def atQ(x:aaJ):Type:={ v:aay // v∈adm x }
def valOf {x:aaJ}(v:atQ x):aay:=v.1
def aue {x:aaJ}(v:atQ x):Array Value:=#[.agg #[.bool (valOf v).reg,.int .i64 (valOf v).n]]
theorem anW (n : Nat) (hn : 1 <= n) (Bs : Nat) (S : Nat -> Prop) (x : aaJ) (fa : Option Addr) (fc : Nat) (w : World)
 (hm:x.args.length<=1048576) (hb:SlAt S w 2 agd (.slice fa x.args.length fc) x.args) (aJ:aal w Bs 0 (acO x fa fc)) :
 SeqStopsK Fence.wide n Tryz.prog 108 #[.pointer (some ⟨Bs,0,none⟩)] (aue (x:=x)) adJ (fun ys=>ys.map valOf=adm x) (fun pre=>pre.map valOf <+: adm x) (adm x).length w:=by
 intro l J Jx W hW hJ _ hY bg
 refine (arw n hn l Bs S x fa fc hm (fun pre W => ∃ ys : List (atQ x), ys.map valOf = pre ∧ J ys W) (fun pre W => ∃ ys : List (atQ x), ys.map valOf = pre ∧ Jx ys W)
  (fun pre A B hA a1 => hA.elim fun ys hy => ⟨ys, hy.1, hJ ys A B none hy.2 (aho (B := 0) a1 none (Aaj _)) (fun r e => by cases e)⟩)
  ?_ W (hb.later aaN hW) (aJ.later hW) ⟨[], rfl, bg⟩).mono ?_
 . rintro pre v W1 ⟨ys,rfl,bd⟩ hl hv
   obtain⟨fn,tmps,assign,body,h1,h2⟩:=hY ys ⟨v,hv⟩ W1 bd (by simpa using hl);refine⟨fn,tmps,assign,body,h1,h2.mono ?_⟩;rintro e W' (⟨he,ak,hk⟩ | ⟨he,ak⟩)
   . exact .inl ⟨he,⟨ys++[⟨v,hv⟩],by rw [Aa8];rfl,ak⟩,hk⟩
   . exact .inr ⟨he,ys++[⟨v,hv⟩],by rw [Aa8];rfl,ak⟩
 . rintro e W' ⟨hv,(⟨ys,h1,h2⟩ | ⟨pre,h1,ys,rfl,h3⟩)⟩
   . exact⟨hv,.inl ⟨ys,h1,h2⟩⟩
   . exact⟨hv,.inr ⟨ys,h1,h3⟩⟩
end Go.Proofs.YtpeejlpcikefcaaGreatDoor
