import Derived.Test.YtnkfdeiigplhoaaGreatDoorPBy
import Derived.Test.YtnkfdeiigplhoaaGreatDoorPLawLay
import Derived.Test.YtnkfdeiigplhoaaGreatDoorPRefGuess
/- The document's turn: blocks of the call's own, and the states of its loops. The document's turn: the state between two rounds of the loop that gathers the blocks. turneryref6.WeighTurn: the document's function with its blocks in another order. turneryref6.WeighBy: the document's unit with its blocks laid by counts. weigh.Do. -/
namespace Go.Proofs.YtnkfdeiigplhoaaGreatDoor
section
open Go.RowKit
section
variable {base : Nat} {w w' : World} {v v' : Value} {X : Nat -> aad} {L : List (List Value)} {A B : Nat -> Nat} {k : Nat}
end
end
section
open Go.RowKit
end
section
open Go.RowKit
end
section
open Go.RowKit
end
section
open Go.RowKit
def guessL(fs:List aao):List (List Int):=fs.map fun f=>abh (aeS f.blocks)
theorem acO(fs:List aao):(guessL fs).length=fs.length:=by unfold guessL;simp
variable {fs:List aao}
theorem af0{k:Nat}(h:k<fs.length):(guessL fs)[k]?=some (abh (aeS fs[k].blocks)):=by unfold guessL;rw [Aak,Aaa h];rfl
variable {gs:List aas}
theorem af1(h:aal ⟨gs,fs⟩=(0,0)):acs ⟨gs,fs⟩ (guessL fs)=(0,0):=by
 refine afz h (acO fs) fun j hj=>?_;have bw:j<fs.length:=by rw [acO] at hj;exact hj
 refine (adA bw hj).2 ?_;have h1:=af0 bw;rw [Aaa hj] at h1;rw [Option.some.inj h1,aeZ,aer]
theorem aie(h:aal ⟨gs,fs⟩=(0,0)):∀C∈guessL fs,C.length<=1048576:=by
 intro C hC;unfold guessL at hC;obtain⟨f,hf,rfl⟩:=Aau.1 hC;obtain⟨i,hi,rfl⟩:=Aa1 hf;have:=(aiI (u:=⟨gs,fs⟩) h (Aaa hi)).len;rw [aeZ,aer];omega
theorem am6(h:aal ⟨gs,fs⟩=(0,0)){k:Nat}(hk:k<fs.length):(abx ⟨gs,fs⟩ (k:Int)).1=some fs[k]:=by
 unfold abx amO;rw [if_neg (by rw [h];simp),if_neg (by omega),Aaj,Aaa hk]
def alc(gs:List aas)(fs:List aao)(w:World)(e:Ending)(w':World):Prop :=
 Below w.heap.size w w' ∧
 ((aal ⟨gs,fs⟩).1≠0->e = .returned (.tuple #[.agg #[.slice none 0 0,.slice none 0 0],.agg #[.int .i64 (aal ⟨gs,fs⟩).1,.int .i64 (aal ⟨gs,fs⟩).2]])) ∧
 ((aal ⟨gs, fs⟩).1 = 0 -> ∃ ga gc fa fc, e = .returned (.tuple #[.agg #[.slice ga gs.length gc, .slice fa fs.length fc], .agg #[.int .i64 0, .int .i64 0]]) ∧
    SlAt (iv w.heap.size w'.heap.size) w' 3 aaE (.slice ga gs.length gc) gs ∧ SlAt (iv w.heap.size w'.heap.size) w' 4 aaZ (.slice fa fs.length fc) (byL fs (guessL fs)))
set_option maxRecDepth 100000 in
set_option maxHeartbeats 4000000 in
theorem apB {S : Nat -> Prop} (ga : Option Addr) (gc : Nat) (fa : Option Addr) (fc : Nat) (gs : List aas) (fs : List aao) (w : World)
 (hg:SlAt S w 3 aaE (.slice ga gs.length gc) gs) (hf:SlAt S w 4 aaZ (.slice fa fs.length fc) fs) (hw:abX w) (hS:∀b,S b->b<w.heap.size)
 (aY:gs.length<=1048576) (au:fs.length<=1048576) (aO:∀(k:Nat) (f:aao),fs[k]?=some f->aaT f.blocks<=1048576∧f.blocks.length<=1048576) :
 Calls Tryz.prog 10 #[.agg #[.slice ga gs.length gc,.slice fa fs.length fc]] w fun e w'=>alc gs fs w e w':=by
 obtain⟨c,hc⟩:∃c,c=(aal ⟨gs,fs⟩).1:=⟨_,rfl⟩
 obtain⟨d,hd⟩:∃d,d=(aal ⟨gs,fs⟩).2:=⟨_,rfl⟩
 have an:Hid (aal ⟨gs,fs⟩=(c,d)):=by show _=_;rw [hc,hd]
 have ay:Hid (∀V,Below w.heap.size w V->Calls Tryz.prog 23 #[.agg #[.slice ga gs.length gc,.slice fa fs.length fc]] V fun e w'=>e = .returned (.agg #[.int .i64 c,.int .i64 d])∧Below V.heap.size V w'):=fun V hV=>by
  have h:=adr (S:=S) ga gc fa fc gs fs V (hg.later aan hV) (hf.later aak hV) (abX.below hw hV) aY au aO;rw [<-hc,<-hd] at h;exact h
 have HG:Hid (c=0->∀V,Below w.heap.size w V->∀(k:Nat) (y:List Int),(guessL fs)[k]?=some y->Calls Tryz.prog 35 #[.agg #[.slice ga gs.length gc,.slice fa fs.length fc],.int .i64 (k:Int)] V fun e w'=>∃a n c,e = .returned (.tuple #[.slice a n c,.agg #[.int .i64 0,.int .i64 0]])∧aaz V.heap.size w' (.slice a n c) y∧Below V.heap.size V w'):=fun h0 V hV k y hy=>by
  have hk:k<fs.length:=by rw [<-acO];exact (Aae.1 hy).1
  rw [af0 hk] at hy;obtain rfl:=Option.some.inj hy;have h:=alD (S:=S) ga gc fa fc gs fs (k:Int) V (by unfold I64;omega) (hg.later aan hV) (hf.later aak hV) (abX.below hw hV) (fun b hb=>Aap (hS b hb) hV.size) aY au aO;have hz:=abR (u:=⟨gs,fs⟩) (by rw [an.out];exact h0);refine h.mono fun e w' hp=>?_;obtain⟨v,e1,e2⟩:=hp.2.1 _ (am6 hz hk);obtain⟨a,c,rfl⟩:=e2.shape;exact⟨a,_,c,e1,e2,hp.1⟩
 have bf : Hid (c = 0 -> ∀ (V : World) (T : Nat -> Prop) (ca : Option Addr) (cn cc : Nat), Below w.heap.size w V -> SlAt T V 1 rRow (.slice ca cn cc) (guessL fs) -> Calls Tryz.prog 9 #[.agg #[.slice ga gs.length gc, .slice fa fs.length fc], .slice ca cn cc] V fun e w' => Below V.heap.size V w' ∧ ∃ aj ak ag ai, e = .returned (.tuple #[.agg #[.slice aj gs.length ak, .slice ag fs.length ai], .agg #[.int .i64 0, .int .i64 0]]) ∧
  SlAt (iv V.heap.size w'.heap.size) w' 3 aaE (.slice aj gs.length ak) gs ∧ SlAt (iv V.heap.size w'.heap.size) w' 4 aaZ (.slice ag fs.length ai) (byL fs (guessL fs))) := fun h0 V T ca cn cc hV hC => by
  have hz:=abR (u:=⟨gs,fs⟩) (by rw [an.out];exact h0);obtain⟨bV,bW,bM,-⟩:=id hC.val;cases bM;have h:=an8 (S:=S) (S':=T) ga gc fa fc gs fs ca cc (guessL fs) V (hg.later aan hV) (hf.later aak hV) hC (abX.below hw hV) aY au (by rw [acO];exact au) aO (aie hz);refine h.mono fun e w' hp=>⟨hp.1,?_⟩
  rcases hp.2 with⟨c1,d1,e1,e2,-⟩ | ⟨-,e1⟩
  . rw [af1 hz] at e1
    cases e1;exact absurd ⟨rfl,rfl⟩ e2
  . exact e1
 clear hg hf hw aO hc hd hS;go_enter Tryz.func10,Tryz.ntmps10;go_upto_region 1 with (fail)
 obtain⟨W,hW⟩:∃W,W=((w.alloc (.cells #[.slice ga gs.length gc,.slice fa fs.length fc] 25)).alloc (.cells #[.slice none 0 0,.slice none 0 0] 25)).alloc (.cells #[.int .i64 0,.int .i64 0] 31):=⟨_,rfl⟩
 obtain⟨aX,h0,h1,h2⟩:=ac2 w (.cells #[.slice ga gs.length gc,.slice fa fs.length fc] 25) (.cells #[.slice none 0 0,.slice none 0 0] 25) (.cells #[.int .i64 0,.int .i64 0] 31);rw [<-hW] at aX h0 h1 h2 ⊢;have aL:Below w.heap.size w W:=by rw [hW];exact bE
 obtain⟨UB,aU⟩:∃UB,UB=w.heap.size:=⟨_,rfl⟩
 obtain⟨UO,aV⟩:∃UO,UO=w.heap.size+1:=⟨_,rfl⟩
 obtain⟨UX,aW⟩:∃UX,UX=w.heap.size+1+1:=⟨_,rfl⟩
 rw [<-aW] at h2 ⊢;rw [<-aV] at h1 ⊢;rw [<-aU] at h0 ⊢;have aG:Hid (UB=w.heap.size∧UO=w.heap.size+1∧UX=w.heap.size+2∧W.heap.size=w.heap.size+3):=⟨aU,aV,aW,aX⟩
 have aJ:Hid (∀V,Below W.heap.size W V->Below w.heap.size w V∧V.heap[UB]?=some (.cells #[.slice ga gs.length gc,.slice fa fs.length fc] 25 (0,0))∧V.heap[UO]?=some (.cells #[.slice none 0 0,.slice none 0 0] 25 (0,0))∧V.heap[UX]?=some (.cells #[.int .i64 0,.int .i64 0] 31 (0,0))) :=
  fun V hV=>⟨aL.trans (hV.mono aL.size),(hV.block UB (by omega)).trans h0,(hV.block UO (by omega)).trans h1,(hV.block UX (by omega)).trans h2⟩
 have bD:=hid aL;obtain⟨c0,c1⟩:=(aah (cs:=[_,_]) h0).get2;rw [Aab] at c1;have zB:UB<W.heap.size:=by omega
 clear hW h0 h1 h2 aL aU aV aW aX;go_upto_region 2 with (go_at_call 23;refine (ay.out W bD.out).mono ?_;rintro e w1 ⟨rfl,bl⟩;have aP:=hid bl;clear bl)
 obtain⟨W2,aC⟩:∃W2,W2=w1.alloc (.cells #[.int .i64 c,.int .i64 d] 31):=⟨_,rfl⟩
 have bm:Below w1.heap.size w1 W2:=by rw [aC];exact bE
 have aw:Hid (Below W.heap.size W W2):=aP.out.trans (bm.mono aP.out.size);have x0:W2.cell? ⟨w1.heap.size,0,none⟩=some (.int .i64 c):=by rw [aC];simp
 have x1:W2.cell? ⟨w1.heap.size,1,none⟩=some (.int .i64 d):=by rw [aC];simp
 rw [<-aC];obtain⟨XB,bk⟩:∃XB,XB=w1.heap.size:=⟨_,rfl⟩
 rw [<-bk] at x0 x1 ⊢;obtain⟨aS,s0,s1,s2⟩:=aJ.out W2 aw.out;have aS:=hid aS;have S1:=hid s1;have S2:=hid s2;obtain⟨a0,a1⟩:=(aah (cs:=[_,_]) s0).get2;rw [Aab] at a1;have b2:UB<W2.heap.size:=aac a0;have b4:XB<W2.heap.size:=aac x0;have a6:¬UO=UX:=by have:=aG.out;omega
 have bx:w.heap.size<=UO∧w.heap.size<=UX:=by have:=aG.out;omega
 have aI:=hid bx;have aZ:¬XB=UO∧¬UO=XB∧¬XB=UX∧¬UX=XB:=by have:=aG.out;have:=aP.out.size;omega
 have bJ:=hid aZ;clear aC bm bk s0 s1 s2 c0 c1 zB bx aZ
 by_cases hc0:c=0
 . subst hc0
   have bN:d=0:=by
    have h:=abR (u:=⟨gs,fs⟩) (by rw [an.out]);rw [an.out] at h;exact congrArg Prod.snd h
   subst bN;have ad:Hid (∀e w' ga gc fa fc,Below w.heap.size w w'->e = .returned (.tuple #[.agg #[.slice ga gs.length gc,.slice fa fs.length fc],.agg #[.int .i64 0,.int .i64 0]])->SlAt (iv w.heap.size w'.heap.size) w' 3 aaE (.slice ga gs.length gc) gs->SlAt (iv w.heap.size w'.heap.size) w' 4 aaZ (.slice fa fs.length fc) (byL fs (guessL fs))->alc gs fs w e w'):=fun e w' ga gc fa fc h1 h2 h3 h4 =>
    ⟨h1,fun h=>absurd (by rw [an.out]) h,fun _=>⟨ga,gc,fa,fc,h2,h3,h4⟩⟩
   have bg:=hid (HG.out rfl);have av:=hid (bf.out rfl);obtain⟨ip,bP,a8,bd,be⟩:=info_parts afB;obtain⟨fn,aM⟩:∃fn,fn=fs.length:=⟨_,rfl⟩
   have bO:fn<=1048576:=by rw [aM];exact au
   rw [<-aM] at a1 aJ bg av ad ⊢;have bh:=hid aM;clear HG bf aM au ay;go_wp2_with fail;clear x0 x1 a0 a1;go_loopw [5,19] (fun s5 s19 wr=>∃(k:Nat) (v:Value),v=s5∧k<=fn∧s19 = .int .i64 (k:Int)∧acI W2 wr 26 1 rRow v ((guessL fs).take k)) (fun _ s19 _=>fn - (intOf s19).toNat)
   case atStart=>exact⟨0,_,rfl,Aah _,rfl,acI.start W2 26 1 rRow⟩
   case round =>
    obtain⟨wo,bR⟩:∃wo:World,wo=wr:=⟨_,rfl⟩
    subst bR;obtain⟨k,v,rfl,hk,rfl,aq⟩:=hrel;have ax:=hid aq;have ao:Below W.heap.size W wo:=aw.out.trans (aq.old.mono aw.out.size);obtain⟨aB,s0,s1,s2⟩:=aJ.out wo ao;have aB:=hid aB;have S1:=hid s1;have S2:=hid s2;obtain⟨a0,a1⟩:=(aah (cs:=[_,_]) s0).get2;rw [Aab] at a1;have b3:UB<wo.heap.size:=aac a0;have bS:=aq.old.size;have aQ:=hid aq.old
    by_cases hkn:k<fn
    . have bQ:k<fs.length:=by rw [<-bh.out];exact hkn
      obtain⟨y,hy⟩:∃y,(guessL fs)[k]?=some y:=⟨_,af0 bQ⟩
      have aA:Hid ((guessL fs).take (k+1)=(guessL fs).take k++[y]):=by show _=_;rw [List.take_add_one,hy];rfl
      have bH:=hid (bg.out wo aB.out k y hy);clear aq ao s0 s1 s2 hy
      go_wp2_with (first
       | (go_at_call 35; refine bH.out.mono ?_; rintro e w5 ⟨ya, yn, yc, rfl, bA, bo⟩
          have bK := hid bA
          have aH := hid bo
          clear bA bo)
       | (at_builtin; refine acq rfl _ _ 27 rfl W2.heap.size 26 ip _ 1 24 Tryz.underlying27 bP a8 bd be rfl (by decide) aax v ((guessL fs).take k) rfl ?_ ⟨w5.heap.size + 1, 0, none⟩ 1 [.slice ya yn yc] y rfl rfl ?_ ?_ ?_ ?_ (by decide) ?_ ?_))
      . exact ax.out.own.later aax (by have h:=aH.out;exact bE1 h)
      . exact abd _ _ _ (by simp)
      . intro u hu;rw [Aaq] at hu;subst hu;rfl
      . refine⟨_,rfl,(bK.out.sl.later aae bE).mono aae (fun b hb=>⟨?_,?_,fun e=>?_⟩) (aav.refl _ _)⟩
        . have:=hb.1;omega
        . have:=hb.2;simp;omega
        . have:=(ax.out.own.lt b e).2;have:=hb.1;omega
      . rw [Aar];omega
      . have:=aH.out.size;simp;omega
      . intro v7 w7 ar al bL
        have bp:Below W2.heap.size W2 w7:=by
         refine Below.grown ?_ al (by have:=aH.out.size;simp;omega) (fun q hq=>(ax.out.own.lt q hq).1);have h:=ax.out.old.trans (aH.out.mono bS);exact bE1 h
        rw [<-aA.out] at ar;have aR:Hid (acI W2 w7 26 1 rRow v7 ((guessL fs).take (k+1))):=⟨ar,bp⟩
        clear ar al bL bp;go_wp2_with fail;go_roundw
        case rel=>exact⟨k+1,v7,rfl,by omega,by go_num,aR.out⟩
        case measure=>simp [intOf];omega
    . have aE:k=fn:=by omega
      have aF:=aq.own.toSl aax (by decide);rw [aE,bh.out,<-acO,Aay] at aF;obtain⟨ca,cc,rfl,-⟩:=id aF.val;obtain⟨cn,br⟩:∃cn,cn=(guessL fs).length:=⟨_,rfl⟩
      rw [<-br] at aF ⊢;have bF:=hid (av.out wo _ ca cn cc aB.out aF);have zf:w.heap.size<=wo.heap.size:=aB.out.size;clear aq ao s0 s1 s2 aE aF br ax
      go_wp2_with (go_at_call 9; refine bF.out.mono ?_; rintro e w9 ⟨bq, aj, ak, ag, ai, rfl, bu, bt⟩
                   have af : Below W.heap.size W wo := aw.out.trans (aQ.out.mono aw.out.size)
                   obtain ⟨aT, -, t1, t2⟩ := aJ.out w9 (af.trans (bq.mono af.size))
                   have T1 := hid t1
                   have T2 := hid t2
                   have aT := hid aT
                   have bI := hid bu
                   have bG := hid bt
                   have f0 := aat t1 0
                   have f1 := aat t1 1
                   have g0 := aat t2 0
                   have g1 := aat t2 1
                   obtain ⟨b0, b1⟩ := (aah (cs := [_, _]) t1).get2
                   obtain ⟨d0, d1⟩ := (aah (cs := [_, _]) t2).get2
                   rw [Aab] at b1 d1
                   have bT : UO < w9.heap.size := aac b0
                   have bU : UX < w9.heap.size := aac d0
                   have a7 : ¬ UX = UO := fun e => a6 e.symm
                   have bj : UO < wo.heap.size ∧ UX < wo.heap.size := by have := aG.out; have := af.size; omega
                   have bB := hid bj
                   clear bq bu bt t1 t2 af bj)
      have ae:=agR (.slice aj gs.length ak) (.slice ag fn ai) (.int .i64 0) (.int .i64 0) (aah (cs:=[_,_]) T1.out) (aah (cs:=[_,_]) T2.out) a6;have aD:Below w.heap.size w (aeX w9 UO UX (.slice aj gs.length ak) (.slice ag fn ai) (.int .i64 0) (.int .i64 0)):=afO aT.out aI.out.1 aI.out.2;have hh:∀b,b≠UO->b≠UX->(aeX w9 UO UX (.slice aj gs.length ak) (.slice ag fn ai) (.int .i64 0) (.int .i64 0)).heap[b]?=w9.heap[b]?:=fun b h1 h2=>alx h1 h2;have bz:(aeX w9 UO UX (.slice aj gs.length ak) (.slice ag fn ai) (.int .i64 0) (.int .i64 0)).heap.size=w9.heap.size:=by simp [aeX,World.setCell]
      have aN:∀b,iv wo.heap.size w9.heap.size b->b≠UO∧b≠UX:=fun b hb=>by have:=hb.1;have:=bB.out;omega
      refine bodyPost_ret (aj9 rfl rfl rfl ae.1 ae.2) rfl (ad.out _ _ aj ak ag ai aD rfl ?_ ?_)
      . exact bI.out.mono aan (fun b hb=>⟨by have:=hb.1;omega,Nat.lt_of_lt_of_eq hb.2 bz.symm⟩) (aba fun b hb _=>hh b (aN b hb).1 (aN b hb).2)
      . exact bG.out.mono aak (fun b hb=>⟨by have:=hb.1;omega,Nat.lt_of_lt_of_eq hb.2 bz.symm⟩) (aba fun b hb _=>hh b (aN b hb).1 (aN b hb).2)
 . have hq:((decide (c<0)||decide (0<c))||(decide (d<0)||decide (0<d)))=true:=by rw [Aa0];simp;omega
   have ad:Hid (∀e w',Below w.heap.size w w'->e = .returned (.tuple #[.agg #[.slice none 0 0,.slice none 0 0],.agg #[.int .i64 c,.int .i64 d]])->alc gs fs w e w'):=fun e w' h1 h2=>by
    refine⟨h1,fun _=>?_,fun h=>?_⟩
    . rw [an.out];exact h2
    . rw [an.out] at h;exact absurd h hc0
   have s1:=S1.out;have s2:=S2.out;have f0:=aat s1 0;have f1:=aat s1 1;have g0:=aat s2 0;have g1:=aat s2 1;obtain⟨b0,b1⟩:=(aah (cs:=[_,_]) s1).get2;obtain⟨d0,d1⟩:=(aah (cs:=[_,_]) s2).get2;rw [Aab] at b1 d1;have bT:UO<W2.heap.size:=aac b0;have bU:UX<W2.heap.size:=aac d0;obtain⟨aZ,bX,bY,bZ⟩:=bJ.out;have a7:¬UX=UO:=by omega
   clear hc0 s1 s2;go_wp2_with fail;go_region;have ae:=agR (.slice none 0 0) (.slice none 0 0) (.int .i64 c) (.int .i64 d) (aah (cs:=[_,_]) S1.out) (aah (cs:=[_,_]) S2.out) a6;have aD:Below w.heap.size w (aeX W2 UO UX (.slice none 0 0) (.slice none 0 0) (.int .i64 c) (.int .i64 d)):=afO aS.out aI.out.1 aI.out.2;obtain⟨W6,aK⟩:∃W6,W6=aeX W2 UO UX (.slice none 0 0) (.slice none 0 0) (.int .i64 c) (.int .i64 d):=⟨_,rfl⟩
   rw [<-aK] at ae aD;unfold aeX at aK;rw [<-aK];have az:=hid ae;have bC:=hid aD;clear aK ae aD;go_wp2_with fail;refine bodyPost_ret (aj9 rfl rfl rfl az.out.1.drewC az.out.2.drewC) rfl (ad.out _ _ bC.out.drew rfl)
end
end Go.Proofs.YtnkfdeiigplhoaaGreatDoor
