import Derived.Test.YtpeejlpcikefcaaGreatDoorPPost
/- core.Vals: the values that an instruction takes, one by one. -/
namespace Go.Proofs.YtpeejlpcikefcaaGreatDoor
open Go.RowKit Go.Shelf
attribute [local go_sem] Oper.semAt_some
def adL(W W':World):Prop:=W.heap.size<=W'.heap.size∧∀(b:Nat) c t f,W.heap[b]?=some (.cells c t f)->W'.heap[b]?=some (.cells c t f)
theorem adL.refl(W:World):adL W W:=⟨Aac _,fun _ _ _ _ h=>h⟩
theorem afy {A B C:World}(h:adL A B)(k:adL B C):adL A C:=⟨Aai h.1 k.1,fun b c t f hc=>k.2 b c t f (h.2 b c t f hc)⟩
theorem asX {n:Nat}(W:World)(l:Nat)(o o':Obj)(_:n<=l)(hl:W.heap[l]?=some o)(hc:o.isCells=false)(_:o.isWalk=false):adL W (W.putObj l o') :=
 ⟨by simp, fun b c t f h => by
   rw [World.putObj_heap_other (fun e => by subst e; rw [hl] at h; cases h; cases hc)]
   exact h⟩
variable {W W':World}
theorem aeg(h:Below W.heap.size W W'):adL W W':=⟨h.size,fun b c t f hc=>by rw [h.block b (Aag.1 hc).1];exact hc⟩
theorem adL.cell(h:adL W W'){b o:Nat}{v:Value}(hc:W.cell? ⟨b,o,none⟩=some v):W'.cell? ⟨b,o,none⟩=some v:=by
 have aq:=hc;simp only [World.cell?] at hc;cases hh:W.heap[b]? with
 | none=>rw [hh] at hc;cases hc
 | some ob =>
   rw [hh] at hc;cases ob with
   | cells c t f=>rw [World.cell?_of_block (w:=W) (a:=⟨b,o,none⟩) ((h.2 b c t f hh).trans hh.symm)];exact aq
   | _=>cases hc
theorem adL.sl{α:Type}{r:Rp α}(hr:r.Mono){S:Nat->Prop}{sz:Nat}{v:Value}{l:List α}(h:adL W W')(hs:SlAt S W sz r v l):SlAt S W' sz r v l :=
 hs.mono hr (fun _ h=>h) (fun _ _ _ _ hc=>h.cell hc)
theorem adL.cells(h:adL W W'){b o:Nat}{cs:List Value}(hc:aal W b o cs):aal W' b o cs:=fun j v hj=>h.cell (hc j v hj)
@[go_sem] theorem arF:yielded.match_1 (fun _=>Option Bool) (some undef) (fun b=>some b) (fun _=>none)=none:=rfl
@[go_sem] theorem al7 {m:Value->Type}(h1:∀(fn:Fn) (first captured:Array Value),m (.func fn first captured))(h2:Unit->m .nilFunc)(h3:∀x,m x):Deferred.ofValue.match_1 m undef h1 h2 h3=h3 undef:=rfl
def asY(v:aaA):Array Value:=#[.agg #[.bool v.reg,.int .i64 v.n]]
def acN(x:aaK)(fa:Option Addr)(fc:Nat):List Value:=[.int .i64 x.op,.int .i64 x.dst,.bool x.a.reg,.int .i64 x.a.n,.bool x.b.reg,.int .i64 x.b.n,.int .i64 x.fn,.slice fa x.args.length fc]
theorem asZ(n:Nat)(x:aaK)(fa:Option Addr)(fc:Nat)(w:World) :
 CallsIn Fence.wide n Tryz.prog 81 #[.agg (acN x fa fc).toArray] w fun e w'=>e = .returned (.func (.func 108) #[] #[.pointer (some ⟨w.heap.size,0,none⟩)])∧w'=w.alloc (.cells (acN x fa fc).toArray 49):=by
 refine callsIn_of_wp Tryz.func81 rfl trivial ?_ rfl;simp only [Tryz.ntmps81,Abo,Aa8,Ab6,Nat.reduceAdd,Nat.reduceSub,Ach,Aci,List.push_toArray,Acj,Abg,List.cons_append]
 gi_wp2
 go_ret;exact⟨rfl,rfl⟩
set_option maxRecDepth 100000 in
set_option maxHeartbeats 4000000 in
theorem arG (n : Nat) (hn : 1 <= n) (l Bs : Nat) (S : Nat -> Prop) (x : aaK) (fa : Option Addr) (fc : Nat)
 (hm:x.args.length<=1048576)
 (J Jx:List aaA->World->Prop) (hJ:∀pre A B,J pre A->Below A.heap.size A B->J pre B)
 (hY : ∀ pre v W1, J pre W1 -> pre.length < (adp x).length -> v ∈ adp x -> YieldAt Fence.wide (n - 1) Tryz.prog l (asY v) W1 fun e W' =>
   (e = .returned (.bool true) ∧ J (pre ++ [v]) W' ∧ adL W1 W') ∨ (e = .returned (.bool false) ∧ Jx (pre ++ [v]) W'))
 (W:World) (hb:SlAt S W 2 agi (.slice fa x.args.length fc) x.args) (aM:aal W Bs 0 (acN x fa fc)) (h0:J [] W) :
 CallsIn Fence.wide n Tryz.prog 108 #[.func (.yield l) #[] #[],.pointer (some ⟨Bs,0,none⟩)] W fun e W'=>(∃v,e = .returned v) ∧
  (J (adp x) W'∨(∃pre:List aaA,pre <+: adp x∧Jx pre W')):=by
 have Hb:=hid hb;have HJ:=hid hJ;have HY:=hid hY;have aU:=hid aM;obtain⟨b0,-,-,-,-,-,-,-⟩:=aM.get8;have zB:Bs<W.heap.size:=aac b0;obtain⟨op,hop⟩:∃op,op=x.op:=⟨_,rfl⟩
 rw [<-hop] at b0;have aW:=aiH op W;obtain⟨sd,aY⟩:∃sd,shpD op=sd:=⟨_,rfl⟩
 obtain⟨sa,aH⟩:∃sa,shpA op=sa:=⟨_,rfl⟩
 obtain⟨sb,aI⟩:∃sb,shpB op=sb:=⟨_,rfl⟩
 rw [aY,aH,aI] at aW;have aT:=hid ((callsIn_wide (n:=n - 1)).2 aW);have ad:Hid (adp x=(if sa=true then [x.a] else [])++((if sb=true then [x.b] else [])++x.args)):=by
  show _=_;unfold adp;rw [<-hop,aH,aI]
 have a8:Hid (sb=true->sa=true):=fun h=>by
  rw [h] at aI;rw [<-aH];unfold shpB at aI;unfold shpA;simp at aI ⊢;omega
 clear hb hJ hY aM aW aY aH aI hop;refine callsIn_of_wp Tryz.func108 rfl trivial ?_ rfl;simp only [Tryz.ntmps108,Abo,Aa8,Ab6,Nat.reduceAdd,Nat.reduceSub,Ach,Aci,List.push_toArray,Acj,Abg,List.cons_append];cases sb with
 | true =>
   have aH:=a8.out rfl;subst aH;have ad:Hid (adp x=[x.a,x.b]++x.args):=ad.out
   gi_wp2_with (first
    | (refine ⟨trivial, ?_⟩; gi_at_call 99; refine (aT.out).mono ?_; rintro e w1 ⟨rfl, ak⟩
       obtain ⟨W2, ag⟩ : ∃ W2, W2 = w1.alloc (.cells #[.bool sd, .bool true, .bool true] 154) := ⟨_, rfl⟩
       have aE : Below w1.heap.size w1 W2 := by rw [ag]; exact bE
       have an : Below W.heap.size W W2 := ak.trans (aE.mono ak.size)
       have al : J [] W2 := HJ.out _ _ _ h0 an
       have aq : aal W2 Bs 0 (acN x fa fc) := aU.out.later an
       obtain ⟨b0, -, b2, b3, b4, b5, -, b7⟩ := aq.get8
       have s1 : W2.cell? ⟨w1.heap.size, 1, none⟩ = some (.bool true) := by rw [ag]; simp
       have s2 : W2.cell? ⟨w1.heap.size, 2, none⟩ = some (.bool true) := by rw [ag]; simp
       have aS := hid aq
       have aV := hid al
       have aP := hid (Hb.out.later aaM an)
       have S2 := hid s2
       obtain ⟨fn, tmps, assign, body, aj, hR⟩ := HY.out [] x.a W2 al (by rw [ad.out]; simp) (by rw [ad.out]; simp)
       have af := hR
       rw [ag] at aj af
       unfold asY at aj
       have HR := hid af
       clear hR af
       rw [ag] at b0 b2 b3 b4 b5 b7 s1 s2
       have zs : w1.heap.size < (w1.alloc (.cells #[.bool sd, .bool true, .bool true] 154)).heap.size := by simp
       have aZ : Bs < w1.heap.size := by have := ak.size; omega
       clear ak aE an al aq))
   refine HR.out.mono ?_;rintro e W3 (⟨rfl,ai,ao⟩ | ⟨rfl,av⟩)
   rotate_left
   . have aR:=hid av
     clear av
     gi_wp2
     refine bodyPost_ret (results_none rfl _ _ _) rfl ?_;exact⟨⟨_,rfl⟩,.inr ⟨_,by rw [ad.out];simp,aR.out⟩⟩
   . rw [Abg] at ai
     rw [<-ag] at ao;have ar:=hid ai;have be:=hid ao;have aJ:=ao.cells aS.out;obtain⟨-,-,c2,c3,c4,c5,-,c7⟩:=aJ.get8;have s3:=ao.cell S2.out;have bg:w1.heap.size<W3.heap.size:=aac s3;have a7:Bs<W3.heap.size:=aac c2;have aL:=hid (ao.sl aaM aP.out);clear ai ao aJ;obtain⟨fn,tmps,assign,body,aj,hR⟩:=HY.out [x.a] x.b W3 ar.out (by rw [ad.out];simp) (by rw [ad.out];simp);unfold asY at aj;have HR:=hid hR;clear hR
     gi_wp2
     refine HR.out.mono ?_;rintro e W5 (⟨rfl,aw,au⟩ | ⟨rfl,ae⟩)
     rotate_left
     . have aR:=hid ae
       clear ae
       gi_wp2
       refine bodyPost_ret (results_none rfl _ _ _) rfl ?_;exact⟨⟨_,rfl⟩,.inr ⟨_,by rw [ad.out];simp,aR.out⟩⟩
     . have aN:Hid (J [x.a,x.b] W5):=aw
       have bd:=au.cell c7;have bh:Bs<W5.heap.size:=aac bd;have aX:=hid (au.sl aaM aL.out);clear aw au
       gi_wp2
       gi_loopw [32] (fun i wr=>∃(k:Nat),k<=x.args.length∧i = .int .i64 k∧J ([x.a,x.b]++x.args.take k) wr∧adL W5 wr) (fun i _=>x.args.length - (intOf i).toNat)
       case atStart=>exact⟨0,Aaj _,rfl,by simpa using aN.out,adL.refl _⟩
       case round =>
        obtain⟨k,hk,rfl,ai,aC⟩:=hrel;have ar:=hid ai;have aG:=hid aC;clear ai aC
        by_cases hkl:k<x.args.length
        . obtain⟨ab,aO,cs,rfl,-,hv,-,aD⟩:=(aG.out.sl aaM aX.out).get hkl
          obtain⟨rfl,-⟩:=hv;obtain⟨g0,g1⟩:=aD.get2;obtain⟨y,hy⟩:∃y,y=x.args[k]:=⟨_,rfl⟩
          rw [<-hy] at g0 g1;have za:ab<wr.heap.size:=aac g0;obtain⟨W4,ah⟩:∃W4,W4=wr.alloc (.cells #[.bool y.reg,.int .i64 y.n] 41):=⟨_,rfl⟩
          have ay:Below wr.heap.size wr W4:=by rw [ah];exact bE
          obtain ⟨fn, tmps, assign, body, aj, hR⟩ := HY.out ([x.a, x.b] ++ x.args.take k) y W4 (HJ.out _ _ _ ar.out ay) (by
           rw [ad.out]
           simp [List.length_take]
           omega) (by
           rw [ad.out, hy]
           simp)
          rw [ah] at aj;have af:=hR;rw [ah] at af;have aF:=hid (afy aG.out (aeg ay));rw [ah] at aF;have aA:Hid ([x.a,x.b]++x.args.take k++[y]=[x.a,x.b]++x.args.take (k+1)):=by
           show _=_;rw [Abh,Abp hkl,hy]
          have aQ:Hid ([x.a,x.b]++x.args.take (k+1) <+: adp x):=by
           have h:[x.a,x.b]++x.args.take (k+1) <+: [x.a,x.b]++x.args:=(List.prefix_append_right_inj _).2 (List.take_prefix _ _);show _ <+: _;rw [ad.out];exact h
          unfold asY at aj;have HR:=hid af;clear aD hR af hy ay ah
          gi_wp2
          refine HR.out.mono ?_;rintro e W3 (⟨rfl,aw,au⟩ | ⟨rfl,ae⟩)
          . have az:=hid aw
            have aK:=hid (afy aF.out au);clear aw au
            gi_wp2
            go_roundw
            case rel=>exact⟨k+1,by omega,by go_num,by rw [<-aA.out];exact az.out,aK.out⟩
            case measure=>simp [intOf];omega
          . have az:=hid ae
            clear ae
            gi_wp2
            refine bodyPost_ret (results_none rfl _ _ _) rfl ?_;exact⟨⟨_,rfl⟩,.inr ⟨_,by rw [aA.out];exact aQ.out,az.out⟩⟩
        . have aB:k=x.args.length:=by omega
          have ax:Hid (J (adp x) wr):=by
           have h:=ar.out;rw [aB,Aa0] at h;show J _ _;rw [ad.out];exact h
          clear aB
          gi_wp2
          go_end0;exact⟨⟨_,rfl⟩,.inl ax.out⟩
 | false =>
   cases sa with
   | true =>
     have ad:Hid (adp x=[x.a]++x.args):=ad.out
     gi_wp2_with (first
      | (refine ⟨trivial, ?_⟩; gi_at_call 99; refine (aT.out).mono ?_; rintro e w1 ⟨rfl, ak⟩
         obtain ⟨W2, ag⟩ : ∃ W2, W2 = w1.alloc (.cells #[.bool sd, .bool true, .bool false] 154) := ⟨_, rfl⟩
         have aE : Below w1.heap.size w1 W2 := by rw [ag]; exact bE
         have an : Below W.heap.size W W2 := ak.trans (aE.mono ak.size)
         have al : J [] W2 := HJ.out _ _ _ h0 an
         have aq : aal W2 Bs 0 (acN x fa fc) := aU.out.later an
         obtain ⟨b0, -, b2, b3, b4, b5, -, b7⟩ := aq.get8
         have s1 : W2.cell? ⟨w1.heap.size, 1, none⟩ = some (.bool true) := by rw [ag]; simp
         have s2 : W2.cell? ⟨w1.heap.size, 2, none⟩ = some (.bool false) := by rw [ag]; simp
         have aS := hid aq
         have aV := hid al
         have aP := hid (Hb.out.later aaM an)
         have S2 := hid s2
         obtain ⟨fn, tmps, assign, body, aj, hR⟩ := HY.out [] x.a W2 al (by rw [ad.out]; simp) (by rw [ad.out]; simp)
         have af := hR
         rw [ag] at aj af
         unfold asY at aj
         have HR := hid af
         clear hR af
         rw [ag] at b0 b2 b3 b4 b5 b7 s1 s2
         have zs : w1.heap.size < (w1.alloc (.cells #[.bool sd, .bool true, .bool false] 154)).heap.size := by simp
         have aZ : Bs < w1.heap.size := by have := ak.size; omega
         clear ak aE an al aq))
     refine HR.out.mono ?_;rintro e W3 (⟨rfl,ai,ao⟩ | ⟨rfl,av⟩)
     rotate_left
     . have aR:=hid av
       clear av
       gi_wp2
       refine bodyPost_ret (results_none rfl _ _ _) rfl ?_;exact⟨⟨_,rfl⟩,.inr ⟨_,by rw [ad.out];simp,aR.out⟩⟩
     . rw [Abg] at ai
       rw [<-ag] at ao;have ar:=hid ai;have be:=hid ao;have aJ:=ao.cells aS.out;obtain⟨-,-,c2,c3,c4,c5,-,c7⟩:=aJ.get8;have s3:=ao.cell S2.out;have bg:w1.heap.size<W3.heap.size:=aac s3;have a7:Bs<W3.heap.size:=aac c2;have aL:=hid (ao.sl aaM aP.out);clear ai ao aJ
       gi_wp2
       obtain⟨WL,bj⟩:∃WL,WL=W3:=⟨_,rfl⟩
       have aN:Hid (J [x.a] W3):=ar.out
       gi_loopw [32] (fun i wr=>∃(k:Nat),k<=x.args.length∧i = .int .i64 k∧J ([x.a]++x.args.take k) wr∧adL W3 wr) (fun i _=>x.args.length - (intOf i).toNat)
       case atStart=>exact⟨0,Aaj _,rfl,by simpa using aN.out,adL.refl _⟩
       case round =>
        obtain⟨k,hk,rfl,ai,aC⟩:=hrel;have ar:=hid ai;have aG:=hid aC;clear ai aC
        by_cases hkl:k<x.args.length
        . obtain⟨ab,aO,cs,rfl,-,hv,-,aD⟩:=(aG.out.sl aaM aL.out).get hkl
          obtain⟨rfl,-⟩:=hv;obtain⟨g0,g1⟩:=aD.get2;obtain⟨y,hy⟩:∃y,y=x.args[k]:=⟨_,rfl⟩
          rw [<-hy] at g0 g1;have za:ab<wr.heap.size:=aac g0;obtain⟨W4,ah⟩:∃W4,W4=wr.alloc (.cells #[.bool y.reg,.int .i64 y.n] 41):=⟨_,rfl⟩
          have ay:Below wr.heap.size wr W4:=by rw [ah];exact bE
          obtain ⟨fn, tmps, assign, body, aj, hR⟩ := HY.out ([x.a] ++ x.args.take k) y W4 (HJ.out _ _ _ ar.out ay) (by
           rw [ad.out]
           simp [List.length_take]
           omega) (by
           rw [ad.out, hy]
           simp)
          rw [ah] at aj;have af:=hR;rw [ah] at af;have aF:=hid (afy aG.out (aeg ay));rw [ah] at aF;have aA:Hid ([x.a]++x.args.take k++[y]=[x.a]++x.args.take (k+1)):=by
           show _=_;rw [Abh,Abp hkl,hy]
          have aQ:Hid ([x.a]++x.args.take (k+1) <+: adp x):=by
           have h:[x.a]++x.args.take (k+1) <+: [x.a]++x.args:=(List.prefix_append_right_inj _).2 (List.take_prefix _ _);show _ <+: _;rw [ad.out];exact h
          unfold asY at aj;have HR:=hid af;clear aD hR af hy ay ah
          gi_wp2
          refine HR.out.mono ?_;rintro e W3 (⟨rfl,aw,au⟩ | ⟨rfl,ae⟩)
          . have az:=hid aw
            have aK:=hid (afy aF.out au);clear aw au
            gi_wp2
            go_roundw
            case rel=>exact⟨k+1,by omega,by go_num,by rw [<-aA.out];exact az.out,aK.out⟩
            case measure=>simp [intOf];omega
          . have az:=hid ae
            clear ae
            gi_wp2
            refine bodyPost_ret (results_none rfl _ _ _) rfl ?_;exact⟨⟨_,rfl⟩,.inr ⟨_,by rw [aA.out];exact aQ.out,az.out⟩⟩
        . have aB:k=x.args.length:=by omega
          have ax:Hid (J (adp x) wr):=by
           have h:=ar.out;rw [aB,Aa0] at h;show J _ _;rw [ad.out];exact h
          clear aB
          gi_wp2
          go_end0;exact⟨⟨_,rfl⟩,.inl ax.out⟩
   | false =>
     have ad:Hid (adp x=([]:List aaA)++x.args):=ad.out
     gi_wp2_with (first
      | (refine ⟨trivial, ?_⟩; gi_at_call 99; refine (aT.out).mono ?_; rintro e w1 ⟨rfl, ak⟩
         obtain ⟨W2, ag⟩ : ∃ W2, W2 = w1.alloc (.cells #[.bool sd, .bool false, .bool false] 154) := ⟨_, rfl⟩
         have aE : Below w1.heap.size w1 W2 := by rw [ag]; exact bE
         have an : Below W.heap.size W W2 := ak.trans (aE.mono ak.size)
         have al : J [] W2 := HJ.out _ _ _ h0 an
         have aq : aal W2 Bs 0 (acN x fa fc) := aU.out.later an
         obtain ⟨b0, -, b2, b3, b4, b5, -, b7⟩ := aq.get8
         have s1 : W2.cell? ⟨w1.heap.size, 1, none⟩ = some (.bool false) := by rw [ag]; simp
         have s2 : W2.cell? ⟨w1.heap.size, 2, none⟩ = some (.bool false) := by rw [ag]; simp
         have aS := hid aq
         have aV := hid al
         have aP := hid (Hb.out.later aaM an)
         have S2 := hid s2
         rw [ag] at b0 b2 b3 b4 b5 b7 s1 s2
         have zs : w1.heap.size < (w1.alloc (.cells #[.bool sd, .bool false, .bool false] 154)).heap.size := by simp
         have aZ : Bs < w1.heap.size := by have := ak.size; omega
         clear ak aE an al aq))
     have aL:=hid aP.out;have aN:=hid aV.out;rw [<-ag]
     gi_loopw [32] (fun i wr=>∃(k:Nat),k<=x.args.length∧i = .int .i64 k∧J (([]:List aaA)++x.args.take k) wr∧adL W2 wr) (fun i _=>x.args.length - (intOf i).toNat)
     case atStart=>exact⟨0,Aaj _,rfl,by simpa using aN.out,adL.refl _⟩
     case round =>
      obtain⟨k,hk,rfl,ai,aC⟩:=hrel;have ar:=hid ai;have aG:=hid aC;clear ai aC
      by_cases hkl:k<x.args.length
      . obtain⟨ab,aO,cs,rfl,-,hv,-,aD⟩:=(aG.out.sl aaM aL.out).get hkl
        obtain⟨rfl,-⟩:=hv;obtain⟨g0,g1⟩:=aD.get2;obtain⟨y,hy⟩:∃y,y=x.args[k]:=⟨_,rfl⟩
        rw [<-hy] at g0 g1;have za:ab<wr.heap.size:=aac g0;obtain⟨W4,ah⟩:∃W4,W4=wr.alloc (.cells #[.bool y.reg,.int .i64 y.n] 41):=⟨_,rfl⟩
        have ay:Below wr.heap.size wr W4:=by rw [ah];exact bE
        obtain ⟨fn, tmps, assign, body, aj, hR⟩ := HY.out (([] : List aaA) ++ x.args.take k) y W4 (HJ.out _ _ _ ar.out ay) (by
         rw [ad.out]
         simp [List.length_take]
         omega) (by
         rw [ad.out, hy]
         simp)
        rw [ah] at aj;have af:=hR;rw [ah] at af;have aF:=hid (afy aG.out (aeg ay));rw [ah] at aF;have aA:Hid (([]:List aaA)++x.args.take k++[y]=([]:List aaA)++x.args.take (k+1)):=by
         show _=_;rw [Abh,Abp hkl,hy]
        have aQ:Hid (([]:List aaA)++x.args.take (k+1) <+: adp x):=by
         have h:([]:List aaA)++x.args.take (k+1) <+: ([]:List aaA)++x.args:=(List.prefix_append_right_inj _).2 (List.take_prefix _ _);show _ <+: _;rw [ad.out];exact h
        unfold asY at aj;have HR:=hid af;clear aD hR af hy ay ah
        gi_wp2
        refine HR.out.mono ?_;rintro e W3 (⟨rfl,aw,au⟩ | ⟨rfl,ae⟩)
        . have az:=hid aw
          have aK:=hid (afy aF.out au);clear aw au
          gi_wp2
          go_roundw
          case rel=>exact⟨k+1,by omega,by go_num,by rw [<-aA.out];exact az.out,aK.out⟩
          case measure=>simp [intOf];omega
        . have az:=hid ae
          clear ae
          gi_wp2
          refine bodyPost_ret (results_none rfl _ _ _) rfl ?_;exact⟨⟨_,rfl⟩,.inr ⟨_,by rw [aA.out];exact aQ.out,az.out⟩⟩
      . have aB:k=x.args.length:=by omega
        have ax:Hid (J (adp x) wr):=by
         have h:=ar.out;rw [aB,Aa0] at h;show J _ _;rw [ad.out];exact h
        clear aB
        gi_wp2
        go_end0;exact⟨⟨_,rfl⟩,.inl ax.out⟩
def atW(x:aaK):Type:={ v:aaA // v∈adp x }
def valOf {x:aaK}(v:atW x):aaA:=v.1
def aug {x:aaK}(v:atW x):Array Value:=#[.agg #[.bool (valOf v).reg,.int .i64 (valOf v).n]]
theorem anT (n : Nat) (hn : 1 <= n) (Bs : Nat) (S : Nat -> Prop) (x : aaK) (fa : Option Addr) (fc : Nat) (w : World)
 (hm:x.args.length<=1048576) (hb:SlAt S w 2 agi (.slice fa x.args.length fc) x.args) (aM:aal w Bs 0 (acN x fa fc)) :
 SeqStopsK Fence.wide n Tryz.prog 108 #[.pointer (some ⟨Bs,0,none⟩)] (aug (x:=x)) adL (fun ys=>ys.map valOf=adp x) (fun pre=>pre.map valOf <+: adp x) (adp x).length w:=by
 intro l J Jx W hW hJ _ hY a1
 refine (arG n hn l Bs S x fa fc hm (fun pre W => ∃ ys : List (atW x), ys.map valOf = pre ∧ J ys W) (fun pre W => ∃ ys : List (atW x), ys.map valOf = pre ∧ Jx ys W)
  (fun pre A B hA bf => hA.elim fun ys hy => ⟨ys, hy.1, hJ ys A B none hy.2 (ahn (B := 0) bf none (Aaj _)) (fun r e => by cases e)⟩)
  ?_ W (hb.later aaM hW) (aM.later hW) ⟨[], rfl, a1⟩).mono ?_
 . rintro pre v W1 ⟨ys,rfl,a6⟩ hl hv
   obtain⟨fn,tmps,assign,body,h1,h2⟩:=hY ys ⟨v,hv⟩ W1 a6 (by simpa using hl);refine⟨fn,tmps,assign,body,h1,h2.mono ?_⟩;rintro e W' (⟨he,al,hk⟩ | ⟨he,al⟩)
   . exact .inl ⟨he,⟨ys++[⟨v,hv⟩],by rw [Aa9];rfl,al⟩,hk⟩
   . exact .inr ⟨he,ys++[⟨v,hv⟩],by rw [Aa9];rfl,al⟩
 . rintro e W' ⟨hv,(⟨ys,h1,h2⟩ | ⟨pre,h1,ys,rfl,h3⟩)⟩
   . exact⟨hv,.inl ⟨ys,h1,h2⟩⟩
   . exact⟨hv,.inr ⟨ys,h1,h3⟩⟩
end Go.Proofs.YtpeejlpcikefcaaGreatDoor
