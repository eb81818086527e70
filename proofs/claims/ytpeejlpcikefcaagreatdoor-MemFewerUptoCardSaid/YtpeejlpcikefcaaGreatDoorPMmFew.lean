import Derived.Test.YtpeejlpcikefcaaGreatDoorPMemU
import Derived.Test.YtpeejlpcikefcaaGreatDoorPMemN
import Derived.Test.YtpeejlpcikefcaaGreatDoorPWk
import Derived.Test.YtpeejlpcikefcaaGreatDoorPSsaF
import Derived.Test.YtpeejlpcikefcaaGreatDoorPCopyRU
import Derived.StillTailTactics
/- tidy.Do. tidy.Do of a checked unit. mem.Do. mem.Do of any unit, by its fault. MemFewer: the law's walk. -/
set_option maxHeartbeats 4000000
set_option maxRecDepth 100000
namespace Go.Proofs.YtpeejlpcikefcaaGreatDoor
section
open Go.RowKit
def ajy(gs:List aaG)(fs:List aav)(w:World)(e:Ending)(w':World):Prop :=
 Below w.heap.size w w' ∧
 ((aat ⟨gs,fs⟩).1≠0->e = .returned (.tuple #[.agg #[.slice none 0 0,.slice none 0 0],.agg #[.int .i64 (aat ⟨gs,fs⟩).1,.int .i64 (aat ⟨gs,fs⟩).2]])) ∧
 ((aat ⟨gs, fs⟩).1 = 0 -> ∃ ga gc fa fc, e = .returned (.tuple #[.agg #[.slice ga gs.length gc, .slice fa fs.length fc], .agg #[.int .i64 0, .int .i64 0]]) ∧
    SlAt (iv w.heap.size w'.heap.size) w' 3 aaO (.slice ga gs.length gc) gs ∧ SlAt (iv w.heap.size w'.heap.size) w' 4 abC (.slice fa fs.length fc) (fs.map abi))
theorem aq6 {S : Nat -> Prop} (ga : Option Addr) (gc : Nat) (fa : Option Addr) (fc : Nat) (gs : List aaG) (fs : List aav) (w : World)
 (hg:SlAt S w 3 aaO (.slice ga gs.length gc) gs) (hf:SlAt S w 4 abC (.slice fa fs.length fc) fs) (hw:ae2 w) (hS:∀b,S b->b<w.heap.size)
 (be:gs.length<=1048576) (bB:fs.length<=1048576) (av:∀(k:Nat) (f:aav),fs[k]?=some f->aa5 f.blocks<=1048576∧f.blocks.length<=1048576) :
 Calls Tryz.prog 10 #[.agg #[.slice ga gs.length gc,.slice fa fs.length fc]] w fun e w'=>ajy gs fs w e w':=by
 obtain⟨c,hc⟩:∃c,c=(aat ⟨gs,fs⟩).1:=⟨_,rfl⟩
 obtain⟨d,hd⟩:∃d,d=(aat ⟨gs,fs⟩).2:=⟨_,rfl⟩
 have aB:Hid (aat ⟨gs,fs⟩=(c,d)):=by show _=_;rw [hc,hd]
 have aU:Hid (∀V,Below w.heap.size w V->Calls Tryz.prog 18 #[.agg #[.slice ga gs.length gc,.slice fa fs.length fc]] V fun e w'=>e = .returned (.agg #[.int .i64 c,.int .i64 d])∧Below V.heap.size V w'):=fun V hV=>by
  have h:=aj5 (S:=S) ga gc fa fc gs fs V (hg.later aaw hV) (hf.later aaE hV) (ae2.below hw hV) be bB av;rw [<-hc,<-hd] at h;exact h
 have dt : Hid (c = 0 -> ∀ V, Below w.heap.size w V -> Calls Tryz.prog 21 #[.agg #[.slice ga gs.length gc, .slice fa fs.length fc], .func (.func 22) #[] #[]] V fun e w' =>
  ∃ ag ai ah ae, e = .returned (.tuple #[.agg #[.slice ag gs.length ai, .slice ah fs.length ae], .agg #[.int .i64 0, .int .i64 0]]) ∧
    SlAt (iv V.heap.size w'.heap.size) w' 3 aaO (.slice ag gs.length ai) gs ∧ SlAt (iv V.heap.size w'.heap.size) w' 4 abC (.slice ah fs.length ae) (fs.map abi) ∧ Below V.heap.size V w') := fun h0 V hV =>
  aqz (S:=S) ga gc fa fc gs fs V (hg.later aaw hV) (hf.later aaE hV) (fun b hb=>Aay (hS b hb) hV.size) (afk (by rw [aB.out];exact h0))
 clear hg hf hw av hc hd hS;go_enter Tryz.func10,Tryz.ntmps10;go_upto_region 1 with (fail)
 obtain⟨W,hW⟩:∃W,W=((w.alloc (.cells #[.slice ga gs.length gc,.slice fa fs.length fc] 25)).alloc (.cells #[.slice none 0 0,.slice none 0 0] 25)).alloc (.cells #[.int .i64 0,.int .i64 0] 27):=⟨_,rfl⟩
 obtain⟨aX,h0,h1,h2⟩:=afi w (.cells #[.slice ga gs.length gc,.slice fa fs.length fc] 25) (.cells #[.slice none 0 0,.slice none 0 0] 25) (.cells #[.int .i64 0,.int .i64 0] 27);rw [<-hW] at aX h0 h1 h2 ⊢;have aq:Below w.heap.size w W:=by rw [hW];exact bE
 obtain⟨UB,aE⟩:∃UB,UB=w.heap.size:=⟨_,rfl⟩
 obtain⟨UO,bm⟩:∃UO,UO=w.heap.size+1:=⟨_,rfl⟩
 obtain⟨UX,bu⟩:∃UX,UX=w.heap.size+1+1:=⟨_,rfl⟩
 rw [<-bu] at h2 ⊢;rw [<-bm] at h1 ⊢;rw [<-aE] at h0 ⊢;have bd:Hid (UB=w.heap.size∧UO=w.heap.size+1∧UX=w.heap.size+2∧W.heap.size=w.heap.size+3):=⟨aE,bm,bu,aX⟩
 have bh:Hid (∀V,Below W.heap.size W V->Below w.heap.size w V∧V.heap[UB]?=some (.cells #[.slice ga gs.length gc,.slice fa fs.length fc] 25 (0,0))∧V.heap[UO]?=some (.cells #[.slice none 0 0,.slice none 0 0] 25 (0,0))∧V.heap[UX]?=some (.cells #[.int .i64 0,.int .i64 0] 27 (0,0))) :=
  fun V hV=>⟨aq.trans (hV.mono aq.size),(hV.block UB (by omega)).trans h0,(hV.block UO (by omega)).trans h1,(hV.block UX (by omega)).trans h2⟩
 have bC:=hid aq;obtain⟨c0,c1⟩:=(aad (cs:=[_,_]) h0).get2;rw [Aab] at c1;have zB:UB<W.heap.size:=by omega
 clear hW h0 h1 h2 aq aE bm bu aX;go_upto_region 2 with (go_at_call 18;refine (aU.out W bC.out).mono ?_;rintro e w1 ⟨rfl,aC⟩;have aO:=hid aC;clear aC)
 obtain⟨W2,an⟩:∃W2,W2=w1.alloc (.cells #[.int .i64 c,.int .i64 d] 27):=⟨_,rfl⟩
 have aV:Below w1.heap.size w1 W2:=by rw [an];exact bE
 have ak:Hid (Below W.heap.size W W2):=aO.out.trans (aV.mono aO.out.size);have x0:W2.cell? ⟨w1.heap.size,0,none⟩=some (.int .i64 c):=by rw [an];simp
 have x1:W2.cell? ⟨w1.heap.size,1,none⟩=some (.int .i64 d):=by rw [an];simp
 rw [<-an];obtain⟨XB,bH⟩:∃XB,XB=w1.heap.size:=⟨_,rfl⟩
 rw [<-bH] at x0 x1 ⊢;obtain⟨aj,s0,s1,s2⟩:=bh.out W2 ak.out;have aj:=hid aj;have S1:=hid s1;have S2:=hid s2;obtain⟨a0,a1⟩:=(aad (cs:=[_,_]) s0).get2;rw [Aab] at a1;have dF:UB<W2.heap.size:=aac a0;have dX:XB<W2.heap.size:=aac x0;have aP:¬UO=UX:=by have:=bd.out;omega
 have b7:w.heap.size<=UO∧w.heap.size<=UX:=by have:=bd.out;omega
 have aY:=hid b7;have bj:¬XB=UO∧¬UO=XB∧¬XB=UX∧¬UX=XB:=by have:=bd.out;have:=aO.out.size;omega
 have cI:=hid bj;clear an aV bH s0 s1 s2 c0 c1 zB b7 bj
 by_cases hc0:c=0
 . subst hc0
   have cO:d=0:=by
    have h:=afk (u:=⟨gs,fs⟩) (by rw [aB.out]);rw [aB.out] at h;exact congrArg Prod.snd h
   subst cO;have af:Hid (∀e w' ga gc fa fc,Below w.heap.size w w'->e = .returned (.tuple #[.agg #[.slice ga gs.length gc,.slice fa fs.length fc],.agg #[.int .i64 0,.int .i64 0]])->SlAt (iv w.heap.size w'.heap.size) w' 3 aaO (.slice ga gs.length gc) gs->SlAt (iv w.heap.size w'.heap.size) w' 4 abC (.slice fa fs.length fc) (fs.map abi)->ajy gs fs w e w'):=fun e w' ga gc fa fc h1 h2 h3 h4 =>
    ⟨h1,fun h=>absurd (by rw [aB.out]) h,fun _=>⟨ga,gc,fa,fc,h2,h3,h4⟩⟩
   have cD:=hid (dt.out rfl W2 aj.out);have zf:w.heap.size<=W2.heap.size:=aj.out.size;clear dt aU
   go_wp2_with (go_at_call 21; refine cD.out.mono ?_; rintro e w9 ⟨ag, ai, ah, ae, rfl, b4, bS, al⟩
                obtain ⟨bk, -, t1, t2⟩ := bh.out w9 (ak.out.trans (al.mono ak.out.size))
                have T1 := hid t1
                have T2 := hid t2
                have bk := hid bk
                have dq := hid b4
                have cC := hid bS
                have f0 := aaq t1 0
                have f1 := aaq t1 1
                have g0 := aaq t2 0
                have g1 := aaq t2 1
                obtain ⟨b0, b1⟩ := (aad (cs := [_, _]) t1).get2
                obtain ⟨d0, d1⟩ := (aad (cs := [_, _]) t2).get2
                rw [Aab] at b1 d1
                have dd : UO < w9.heap.size := aac b0
                have cP : UX < w9.heap.size := aac d0
                have bp : ¬ UX = UO := fun e => aP e.symm
                have bQ : UO < W2.heap.size ∧ UX < W2.heap.size := by have := bd.out; have := ak.out.size; omega
                have cZ := hid bQ
                clear al b4 bS t1 t2 bQ)
   have ad:=aeS (.slice ag gs.length ai) (.slice ah fs.length ae) (.int .i64 0) (.int .i64 0) (aad (cs:=[_,_]) T1.out) (aad (cs:=[_,_]) T2.out) aP;have aA:Below w.heap.size w (adP w9 UO UX (.slice ag gs.length ai) (.slice ah fs.length ae) (.int .i64 0) (.int .i64 0)):=ad5 bk.out aY.out.1 aY.out.2;have hh:∀b,b≠UO->b≠UX->(adP w9 UO UX (.slice ag gs.length ai) (.slice ah fs.length ae) (.int .i64 0) (.int .i64 0)).heap[b]?=w9.heap[b]?:=fun b h1 h2=>akn h1 h2;have b2:(adP w9 UO UX (.slice ag gs.length ai) (.slice ah fs.length ae) (.int .i64 0) (.int .i64 0)).heap.size=w9.heap.size:=by simp [adP,World.setCell]
   have a8:∀b,iv W2.heap.size w9.heap.size b->b≠UO∧b≠UX:=fun b hb=>by have:=hb.1;have:=cZ.out;omega
   refine bodyPost_ret (agZ rfl rfl rfl ad.1 ad.2) rfl (af.out _ _ ag ai ah ae aA rfl ?_ ?_)
   . exact dq.out.mono aaw (fun b hb=>⟨by have:=hb.1;omega,Nat.lt_of_lt_of_eq hb.2 b2.symm⟩) (acI fun b hb _=>hh b (a8 b hb).1 (a8 b hb).2)
   . exact cC.out.mono aaE (fun b hb=>⟨by have:=hb.1;omega,Nat.lt_of_lt_of_eq hb.2 b2.symm⟩) (acI fun b hb _=>hh b (a8 b hb).1 (a8 b hb).2)
 . have hq:((decide (c<0)||decide (0<c))||(decide (d<0)||decide (0<d)))=true:=by rw [Abe];simp;omega
   have af:Hid (∀e w',Below w.heap.size w w'->e = .returned (.tuple #[.agg #[.slice none 0 0,.slice none 0 0],.agg #[.int .i64 c,.int .i64 d]])->ajy gs fs w e w'):=fun e w' h1 h2=>by
    refine⟨h1,fun _=>?_,fun h=>?_⟩
    . rw [aB.out];exact h2
    . rw [aB.out] at h;exact absurd h hc0
   have s1:=S1.out;have s2:=S2.out;have f0:=aaq s1 0;have f1:=aaq s1 1;have g0:=aaq s2 0;have g1:=aaq s2 1;obtain⟨b0,b1⟩:=(aad (cs:=[_,_]) s1).get2;obtain⟨d0,d1⟩:=(aad (cs:=[_,_]) s2).get2;rw [Aab] at b1 d1;have dd:UO<W2.heap.size:=aac b0;have cP:UX<W2.heap.size:=aac d0;obtain⟨bj,eX,eS,ew⟩:=cI.out;have bp:¬UX=UO:=by omega
   clear hc0 s1 s2;go_wp2_with fail;go_region;have ad:=aeS (.slice none 0 0) (.slice none 0 0) (.int .i64 c) (.int .i64 d) (aad (cs:=[_,_]) S1.out) (aad (cs:=[_,_]) S2.out) aP;have aA:Below w.heap.size w (adP W2 UO UX (.slice none 0 0) (.slice none 0 0) (.int .i64 c) (.int .i64 d)):=ad5 aj.out aY.out.1 aY.out.2;obtain⟨W6,ay⟩:∃W6,W6=adP W2 UO UX (.slice none 0 0) (.slice none 0 0) (.int .i64 c) (.int .i64 d):=⟨_,rfl⟩
   rw [<-ay] at ad aA;unfold adP at ay;rw [<-ay];have aH:=hid ad;have cM:=hid aA;clear ay ad aA;go_wp2_with fail;refine bodyPost_ret (agZ rfl rfl rfl (fun j v hj=>aH.out.1 j v hj) (fun j v hj=>aH.out.2 j v hj)) rfl (af.out _ _ cM.out.drew rfl)
end
section
open Go.RowKit
theorem akG {u:adz}(h:aat u=(0,0)):∀(k:Nat) (f:aav),u.funcs[k]?=some f->aa5 f.blocks<=1048576∧f.blocks.length<=1048576:=by
 intro k f hf;obtain⟨hh,-⟩:=adl h hf;obtain⟨-,-,-,-,-,-,-,ff,hm⟩:=ac9 hh;exact⟨by omega,by omega⟩
theorem apf {S : Nat -> Prop} (ga : Option Addr) (gc : Nat) (fa : Option Addr) (n fc : Nat) (gs : List aaG) (fs : List aav) (w : World)
 (hg:SlAt S w 3 aaO (.slice ga gs.length gc) gs) (hf:SlAt S w 4 abC (.slice fa n fc) fs) (hn:fs.length=n) (hw:ae2 w) (hS:∀b,S b->b<w.heap.size) (bo:aat ⟨gs,fs⟩=(0,0)) :
 Calls Tryz.prog 10 #[.agg #[.slice ga gs.length gc,.slice fa n fc]] w fun e w'=>∃ag ai ah ae,e = .returned (.tuple #[.agg #[.slice ag gs.length ai,.slice ah n ae],.agg #[.int .i64 0,.int .i64 0]]) ∧
  SlAt (iv w.heap.size w'.heap.size) w' 3 aaO (.slice ag gs.length ai) gs∧SlAt (iv w.heap.size w'.heap.size) w' 4 abC (.slice ah n ae) (fs.map abi)∧Below w.heap.size w w':=by
 subst hn;obtain⟨be,bB,-⟩:=acq (u:=⟨gs,fs⟩) (by rw [bo]);dsimp only at be bB;refine (aq6 (S:=S) ga gc fa fc gs fs w hg hf hw hS (by omega) (by omega) (akG bo)).mono fun e w' hp=>?_;obtain⟨ag,ai,ah,ae,h1,h2,h3⟩:=hp.2.2 (by rw [bo]);exact⟨ag,ai,ah,ae,h1,h2,h3,hp.1⟩
end
section
open Go.RowKit
def aej(gs:List aaG)(fs:List aav):List aav:=afV (agS (abm gs gs.length)) fs
def alM(gs:List aaG)(fs:List aav)(w:World)(e:Ending)(w':World):Prop :=
 Below w.heap.size w w' ∧
 ((agu ⟨gs,fs⟩).1≠0->e = .returned (.tuple #[.agg #[.slice none 0 0,.slice none 0 0],.agg #[.int .i64 (agu ⟨gs,fs⟩).1,.int .i64 (agu ⟨gs,fs⟩).2]])) ∧
 ((agu ⟨gs, fs⟩).1 = 0 -> ∃ ga gc fa fc, e = .returned (.tuple #[.agg #[.slice ga gs.length gc, .slice fa fs.length fc], .agg #[.int .i64 0, .int .i64 0]]) ∧
    SlAt (iv w.heap.size w'.heap.size) w' 3 aaO (.slice ga gs.length gc) gs ∧ SlAt (iv w.heap.size w'.heap.size) w' 4 abC (.slice fa fs.length fc) (aej gs fs))
section
variable (g : List aaK -> List aaK) {fs : List aav} {k b : Nat} {f : aav} {x : DBlock}
def fsP(fs:List aav)(k b:Nat)(f:aav):List aav:=(upF (ack g) fs k).set k { f with blocks:=upF (acj g) f.blocks b }
theorem aq7(h:fs[k]?=some f):upF (ack g) fs k=fsP g fs k 0 f:=by
 unfold fsP;rw [amO];exact (abW (apM _ h)).symm
theorem atD(h:fs[k]?=some f):(fsP g fs k b f)[k]?=some { f with blocks:=upF (acj g) f.blocks b }:=Aa5 (by rw [apN];exact (Aad.1 h).1)
theorem apg(h:fs[k]?=some f)(hb:f.blocks.length<=b):fsP g fs k b f=upF (ack g) fs (k+1):=by
 unfold fsP;rw [apO _ hb];exact apL (ack g) h
theorem aq8(hx:f.blocks[b]?=some x):(fsP g fs k b f).set k { ({ f with blocks:=upF (acj g) f.blocks b }:aav) with blocks:=(upF (acj g) f.blocks b).set b { x with list:=g x.list } }=fsP g fs k (b+1) f:=by
 unfold fsP;rw [Aaz,<-apL (acj g) hx];rfl
variable {S:Nat->Prop}{v:Value}
theorem atE{α:Type}{w:World}{sz:Nat}{r:Rp α}{l:List α}(hs:0<sz)(hr:∀cs x,r S w cs x->r (fun b=>S b∧b<w.heap.size) w cs x)(h:SlAt S w sz r v l):SlAt (fun b=>S b∧b<w.heap.size) w sz r v l:=by
 obtain⟨ao,c',hv,hc,hm,hx⟩:=h;refine⟨ao,c',hv,hc,hm,fun aP=>?_⟩;obtain⟨b,off,e,hS,hi⟩:=hx aP;refine⟨b,off,e,⟨hS,?_⟩,fun i x hx=>?_⟩
 . cases l with
   | nil=>exact absurd rfl aP
   | cons y l =>
     obtain⟨cs,-,hl,cj⟩:=hi 0 y rfl;cases cs with
     | nil=>simp at hl;omega
     | cons u us=>exact aac (cj 0 u rfl)
 . obtain⟨cs,h1,h2,h3⟩:=hi i x hx
   exact⟨cs,hr cs x h1,h2,h3⟩
theorem arX{w:World}{l:List aaK}(h:SlAt S w 8 acs v l):SlAt (fun b=>S b∧b<w.heap.size) w 8 acs v l :=
 atE (by decide) (fun _ _ ⟨v,e,ha,hn⟩=>⟨v,e,atE (by decide) (fun _ _ h=>h) ha,hn⟩) h
theorem aph{W w':World}{base b':Nat}{fs:List aav}{B:Nat->Value}{lv:Value}{L:List aaK}{xs:List (List Value)}(h:ahe W base v fs B)(hn:ab2 w' b' S lv L xs)(hS:∀c,S c->WkS base v fs.length B c)(fp:W.heap.size<=b')(hA:base<=W.heap.size):SlAt (WkS base v fs.length B) w' 8 acs lv L:=by
 refine hn.read hS (fun c hc=>?_);exact⟨by omega,fun e=>by have:=(h.row.lt c e).2;omega,fun k hk e=>by have:=(h.lt hk e).2;omega⟩
theorem asJ:(fsP g fs k b f).length=fs.length:=by unfold fsP;rw [Aar,apN]
end
theorem api {S : Nat -> Prop} (ga : Option Addr) (gc : Nat) (fa : Option Addr) (fc : Nat) (gs : List aaG) (fs : List aav) (w : World)
 (hg:SlAt S w 3 aaO (.slice ga gs.length gc) gs) (hf:SlAt S w 4 abC (.slice fa fs.length fc) fs) (hw:ae2 w) (hS:∀b,S b->b<w.heap.size)
 (be:gs.length<=1048576) (bB:fs.length<=1048576) (av:∀(k:Nat) (f:aav),fs[k]?=some f->aa5 f.blocks<=1048576∧f.blocks.length<=1048576) (bJ:ais ⟨gs,fs⟩) :
 Calls Tryz.prog 7 #[.agg #[.slice ga gs.length gc,.slice fa fs.length fc]] w fun e w'=>alM gs fs w e w':=by
 obtain⟨c,hc⟩:∃c,c=(agu ⟨gs,fs⟩).1:=⟨_,rfl⟩
 obtain⟨d,hd⟩:∃d,d=(agu ⟨gs,fs⟩).2:=⟨_,rfl⟩
 have aB:Hid (agu ⟨gs,fs⟩=(c,d)):=by show _=_;rw [hc,hd]
 have aU:Hid (∀V,Below w.heap.size w V->Calls Tryz.prog 8 #[.agg #[.slice ga gs.length gc,.slice fa fs.length fc]] V fun e w'=>e = .returned (.agg #[.int .i64 c,.int .i64 d])∧Below V.heap.size V w'):=fun V hV=>by
  have h:=akY (S:=S) ga gc fa fc gs fs V (hg.later aaw hV) (hf.later aaE hV) (ae2.below hw hV) (fun b hb=>Aay (hS b hb) hV.size) be bB av;rw [<-hc,<-hd] at h;exact h
 have Hg:=hid hg;have Hf:=hid hf;have du:=hid hw;have HS:=hid hS;have aF:=hid bJ;clear hg hf hw av hc hd hS bJ;go_enter Tryz.func7,Tryz.ntmps7;go_upto_region 1 with (fail)
 obtain⟨W,hW⟩:∃W,W=((w.alloc (.cells #[.slice ga gs.length gc,.slice fa fs.length fc] 25)).alloc (.cells #[.slice none 0 0,.slice none 0 0] 25)).alloc (.cells #[.int .i64 0,.int .i64 0] 27):=⟨_,rfl⟩
 obtain⟨aX,h0,h1,h2⟩:=afi w (.cells #[.slice ga gs.length gc,.slice fa fs.length fc] 25) (.cells #[.slice none 0 0,.slice none 0 0] 25) (.cells #[.int .i64 0,.int .i64 0] 27);rw [<-hW] at aX h0 h1 h2 ⊢;have aq:Below w.heap.size w W:=by rw [hW];exact bE
 obtain⟨UB,aE⟩:∃UB,UB=w.heap.size:=⟨_,rfl⟩
 obtain⟨UO,bm⟩:∃UO,UO=w.heap.size+1:=⟨_,rfl⟩
 obtain⟨UX,bu⟩:∃UX,UX=w.heap.size+1+1:=⟨_,rfl⟩
 rw [<-bu] at h2 ⊢;rw [<-bm] at h1 ⊢;rw [<-aE] at h0 ⊢;have bd:Hid (UB=w.heap.size∧UO=w.heap.size+1∧UX=w.heap.size+2∧W.heap.size=w.heap.size+3):=⟨aE,bm,bu,aX⟩
 have bh:Hid (∀V,Below W.heap.size W V->Below w.heap.size w V∧V.heap[UB]?=some (.cells #[.slice ga gs.length gc,.slice fa fs.length fc] 25 (0,0))∧V.heap[UO]?=some (.cells #[.slice none 0 0,.slice none 0 0] 25 (0,0))∧V.heap[UX]?=some (.cells #[.int .i64 0,.int .i64 0] 27 (0,0))) :=
  fun V hV=>⟨aq.trans (hV.mono aq.size),(hV.block UB (by omega)).trans h0,(hV.block UO (by omega)).trans h1,(hV.block UX (by omega)).trans h2⟩
 have bC:=hid aq;obtain⟨c0,c1⟩:=(aad (cs:=[_,_]) h0).get2;rw [Aab] at c1;have zB:UB<W.heap.size:=by omega
 clear hW h0 h1 h2 aq aE bm bu aX;go_upto_region 2 with (go_at_call 8;refine (aU.out W bC.out).mono ?_;rintro e w1 ⟨rfl,aC⟩;have aO:=hid aC;clear aC)
 obtain⟨W2,an⟩:∃W2,W2=w1.alloc (.cells #[.int .i64 c,.int .i64 d] 27):=⟨_,rfl⟩
 have aV:Below w1.heap.size w1 W2:=by rw [an];exact bE
 have ak:Hid (Below W.heap.size W W2):=aO.out.trans (aV.mono aO.out.size);have x0:W2.cell? ⟨w1.heap.size,0,none⟩=some (.int .i64 c):=by rw [an];simp
 have x1:W2.cell? ⟨w1.heap.size,1,none⟩=some (.int .i64 d):=by rw [an];simp
 rw [<-an];obtain⟨XB,bH⟩:∃XB,XB=w1.heap.size:=⟨_,rfl⟩
 rw [<-bH] at x0 x1 ⊢;obtain⟨aj,s0,s1,s2⟩:=bh.out W2 ak.out;have aj:=hid aj;have S1:=hid s1;have S2:=hid s2;obtain⟨a0,a1⟩:=(aad (cs:=[_,_]) s0).get2;rw [Aab] at a1;have dF:UB<W2.heap.size:=aac a0;have dX:XB<W2.heap.size:=aac x0;have aP:¬UO=UX:=by have:=bd.out;omega
 have b7:w.heap.size<=UO∧w.heap.size<=UX:=by have:=bd.out;omega
 have aY:=hid b7;have bj:¬XB=UO∧¬UO=XB∧¬XB=UX∧¬UX=XB:=by have:=bd.out;have:=aO.out.size;omega
 have cI:=hid bj;clear an aV bH s0 s1 s2 c0 c1 zB b7 bj
 by_cases hc0:c=0
 . subst hc0
   have cO:d=0:=by
    have h:=akZ (u:=⟨gs,fs⟩) (by rw [aB.out]);rw [aB.out] at h;exact congrArg Prod.snd h
   subst cO;have af:Hid (∀e w' ga gc fa fc,Below w.heap.size w w'->e = .returned (.tuple #[.agg #[.slice ga gs.length gc,.slice fa fs.length fc],.agg #[.int .i64 0,.int .i64 0]])->SlAt (iv w.heap.size w'.heap.size) w' 3 aaO (.slice ga gs.length gc) gs->SlAt (iv w.heap.size w'.heap.size) w' 4 abC (.slice fa fs.length fc) (aej gs fs)->alM gs fs w e w'):=fun e w' ga gc fa fc h1 h2 h3 h4 =>
    ⟨h1,fun h=>absurd (by rw [aB.out]) h,fun _=>⟨ga,gc,fa,fc,h2,h3,h4⟩⟩
   have bo:aat ⟨gs,fs⟩=(0,0):=(ahS aB.out).1;have cx:=hid (apf (S:=S) ga gc fa fs.length fc gs fs W2 (Hg.out.later aaw aj.out) (Hf.out.later aaE aj.out) rfl (ae2.below du.out aj.out) (fun b hb=>Aay (HS.out b hb) aj.out.size) bo);have bF:=hid bo;clear bo;go_upto_region 5 with
    (go_at_call 10; refine cx.out.mono ?_; rintro e w3 ⟨ta, tc, ua, uc, rfl, dw, ed, c9⟩
     obtain ⟨dT, t0, t1, t2⟩ := bh.out w3 (ak.out.trans (c9.mono ak.out.size))
     have dT := hid dT
     have eP := hid dw
     have eo := hid ed
     have cQ := hid c9
     have f0 := aaq t0 0
     have f1 := aaq t0 1
     obtain ⟨b0, b1⟩ := (aad (cs := [_, _]) t0).get2
     rw [Aab] at b1
     have T0 := hid t0
     have T1 := hid t1
     have T2 := hid t2
     have eD : UB < w3.heap.size := aac b0
     clear c9 dw ed t0 t1 t2)
   go_upto_region 7 with fail;obtain⟨W4,bL⟩:∃V,V=(w3.alloc (.cells #[.slice ta gs.length tc,.slice ua fs.length uc] 25)).alloc (.cells #[.int .i64 0,.int .i64 0] 27):=⟨_,rfl⟩
   obtain⟨PB,cy⟩:∃PB,PB=w3.heap.size:=⟨_,rfl⟩
   have aW:Below w3.heap.size w3 W4:=by rw [bL];exact bE
   have c3:W4.heap[PB]?=some (.cells #[.slice ta gs.length tc,.slice ua fs.length uc] 25 (0,0)):=by
    rw [bL,cy,Below.heap_alloc _ _ _ (by simp)];exact heap_alloc_new _ _
   have cL:W4.heap.size=w3.heap.size+2:=by rw [bL];simp
   rw [<-bL,<-cy];have e4:=hid (eP.out.later aaw aW);have dS:=hid (eo.out.later aaE aW);have bw:Hid (Below W.heap.size W W4):=(ak.out.trans (cQ.out.mono ak.out.size)).trans (aW.mono (ak.out.trans (cQ.out.mono ak.out.size)).size);obtain⟨T,hT⟩:∃T,T=fs.map abi:=⟨_,rfl⟩
   have cp:T.length=fs.length:=by rw [hT];simp
   have aN:aat ⟨gs,T⟩=(0,0):=by rw [hT];exact afn (u:=⟨gs,fs⟩) bF.out aF.out
   have bg:ais ⟨gs,T⟩:=by rw [hT];exact ahL (u:=⟨gs,fs⟩) bF.out aF.out
   rw [<-hT] at dS;obtain⟨aL,bI,-,-⟩:=alb (u:=⟨gs,T⟩) (by rw [aN]);obtain⟨bW,b3⟩:=ace (u:=⟨gs,T⟩) aN;have cT:T.length<=10:=(acq (u:=⟨gs,T⟩) (by rw [aN])).2.1;have hc:=aki (S:=iv W2.heap.size w3.heap.size) ta ua tc uc gs T W4 e4.out (by rw [cp];exact dS.out) (by dsimp only at aL;omega) (by omega) bW b3;rw [cp] at hc;have Hc:=hid hc;have HT:=hid hT;have cu:=hid cp;have aM:=hid aN;have aw:=hid bg;have aZ:=hid bI;have eZ:=hid aL;have cS:Hid (W.heap.size<=PB∧PB<W4.heap.size):=by
    have h1:=ak.out.size;have h2:=cQ.out.size;exact⟨by omega,by omega⟩
   obtain⟨p0,p1⟩:=(aad (cs:=[_,_]) c3).get2;rw [Aab] at p1;have zP:PB<W4.heap.size:=aac p0;have ez:=hid c3;clear bL cy aW c3 cL hc hT cp aN bg bI aL bW b3 cT T0 T1 T2 b0 b1 f0 f1 eD x0 x1 a0 a1 dF dX;go_upto_region 8 with
    (go_at_call 15; refine Hc.out.mono ?_; rintro e w5 ⟨go, ai, fo, ae, A, V, rfl, dJ, dH, bY, eb, c7⟩
     have HA := hid (And.intro dJ dH)
     have ev := hid bY
     have dj := hid eb
     have ei := hid c7
     have bM := (c7.block PB zP).trans ez.out
     have eU := hid bM
     have q0 := aaq bM 0
     have q1 := aaq bM 1
     obtain ⟨p0, p1⟩ := (aad (cs := [_, _]) bM).get2
     rw [Aab] at p1
     have zP : PB < w5.heap.size := aac p0
     clear dJ dH bY eb c7 bM)
   obtain⟨W6,ay⟩:∃V,V=(w5.setCell ⟨PB,0,none⟩ (.slice go gs.length ai)).setCell ⟨PB,1,none⟩ (.slice fo fs.length ae):=⟨_,rfl⟩
   have b5:Kp (fun b=>b≠PB) w5 W6:=by rw [ay];exact aaD (aaP w5 PB 0 _) 1 _
   have el:W6.heap[PB]?=some (.cells #[.slice go gs.length ai,.slice fo fs.length ae] 25 (0,0)):=by
    rw [ay];exact aak (i:=1) (aak (i:=0) eU.out _) _
   rw [<-ay];have hA:=HA.out;have eQ:=cS.out;have dO:adI W6 A (.slice fo fs.length ae) T V:=dj.out.kp b5 (fun c hc e=>by have:=(dj.out.lt.1 c hc).1;omega) (fun k f hf p hp c hc e=>by have:=(dj.out.lt.2 k f hf p hp c hc).1;omega)
   have aQ : ahe W6 A (.slice fo fs.length ae) T (fun k => V k .blks) := ahe.of_uni dO (fun f hf => by
    obtain ⟨i, hi, rfl⟩ := Aav hf
    obtain ⟨-, -, p1, p2, p3, p4⟩ := aks (u := ⟨gs, T⟩) aM.out aw.out (Aaa hi)
    exact ⟨aw.out _ hf, ⟨by omega, by omega⟩, ⟨by omega, by omega⟩⟩)
   obtain⟨Bv,eg⟩:∃Bv:Nat->Value,Bv=fun k=>V k .blks:=⟨_,rfl⟩
   rw [<-eg] at aQ;have b8:SlAt (fun b=>W4.heap.size<=b∧b<A) W6 3 aaO (.slice go gs.length ai) gs:=(ev.out.toSl aaw (by decide)).mono aaw (fun b hb=>⟨by have:=hb.1;omega,hb.2⟩) (b5.stays fun b hb e=>by have:=hb.1;omega);have aK:Hid (Below W.heap.size W W6):=(bw.out.trans (ei.out.mono bw.out.size)).trans (b5.below fun b hb=>⟨by have:=bw.out.size;have:=ei.out.size;omega,by omega⟩);have bX:0<T.length:=ai3 (u:=⟨gs,T⟩) aM.out;obtain⟨FB,rfl⟩:∃FB,fo=some ⟨FB,0,none⟩:=by
    obtain⟨g,c',hv,-⟩:=aQ.row.at (i:=0) (by rw [Abt,Aaa bX];rfl) (by decide)
    exact⟨g,by injection hv⟩
   have di:=hid aQ;have dn:=hid b8;have et:=hid el;obtain⟨-,s0,-,-⟩:=bh.out W6 aK.out;obtain⟨u0,u1⟩:=(aad (cs:=[_,_]) s0).get2;rw [Aab] at u1;have zU:UB<W6.heap.size:=aac u0;have ck:Hid (W4.heap.size+3<=A∧A<=W6.heap.size∧PB<A∧W.heap.size<=PB):=⟨hA.1,by have:=b5.size;omega,by omega,by omega⟩
   clear ay b5 el hA eQ dO aQ eg b8 bX s0 p0 p1 q0 q1 zP;go_wp2_with fail;obtain⟨words,aJ⟩:∃words,words=abm gs gs.length:=⟨_,rfl⟩
   have aI:=hid aJ;clear aJ;go_loopw [7,35] (fun s7 s35 wr=>∃k:Nat,k<=gs.length∧s7 = .int .i64 (abm gs k)∧s35 = .int .i64 (k:Int)∧Below W6.heap.size W6 wr) (fun _ s35 _=>gs.length - (intOf s35).toNat)
   case atStart=>exact⟨0,Aaj _,rfl,rfl,Below.refl _ _⟩
   case round =>
    obtain⟨k,hk,rfl,rfl,ar⟩:=hrel;obtain⟨W7,er⟩:∃W7:World,W7=wr:=⟨_,rfl⟩
    subst er;have bn:Below w.heap.size w W7:=(bh.out W7 (aK.out.trans (ar.mono aK.out.size))).1;have eW:=anH (gs:=gs) (fun g hg=>⟨(aZ.out g hg).1,(aZ.out g hg).2.1⟩) k hk;have be:gs.length<=10:=eZ.out
    by_cases hkl:k<gs.length
    . obtain⟨b,off,ia,ic,e5,cj,-,-⟩:=akb (Hg.out.later aaw bn) hkl
      subst e5;obtain⟨c0,c1,c2⟩:=cj.get3;have zb:b<W7.heap.size:=aac c0;have fk:=(aZ.out _ (Aas hkl)).1;have fm:=(aZ.out _ (Aas hkl)).2.1;have dx:=hid ar;clear cj ar bn;go_wp2_with fail;go_roundw
      case rel=>exact⟨k+1,by omega,by rw [acQ hkl],by go_num,dx.out.trans (Below.mono (show Below W7.heap.size W7 (W7.alloc (.cells #[.string gs[k].name,.int .i64 gs[k].size,.slice ia gs[k].init.length ic] 52)) from bE) dx.out.size)⟩
      case measure=>simp [intOf];omega
    . have bA:k=gs.length:=by omega
      subst bA;rw [<-aI.out];have dr:=(ar.block PB (by have:=ck.out;omega)).trans et.out;have bP:=di.out.later ar;have b6:=hid (aK.out.trans (ar.mono aK.out.size));have bf:Hid (W4.heap.size+3<=A∧A<=W7.heap.size∧PB<A∧W.heap.size<=PB):=⟨ck.out.1,by have:=ck.out;have:=ar.size;omega,ck.out.2.2⟩
      have cG:=hid (dn.out.later aaw ar);have df:=hid bP;have dN:=hid dr;obtain⟨p0,p1⟩:=(aad (cs:=[_,_]) dr).get2;rw [Aab] at p1;have zP:PB<W7.heap.size:=aac p0;clear ar bn eW be hkl hk dr bP u0 u1 zU;go_wp2_with fail;clear p0 p1 zP;go_loopw [47] (fun s47 wr=>∃k:Nat,k<=fs.length∧s47 = .int .i64 (k:Int)∧ahe wr A (.slice (some ⟨FB,0,none⟩) fs.length ae) (upF (ack (agS words)) T k) Bv∧Kp (fun b=>b<A) W7 wr) (fun s47 _=>fs.length - (intOf s47).toNat)
      case atStart=>exact⟨0,Aaj _,rfl,by rw [amO];exact df.out,Kp.refl _ _⟩
      case round =>
       obtain⟨wo,bz⟩:∃wo:World,wo=wr:=⟨_,rfl⟩
       subst bz;obtain⟨k,hk,rfl,hd,az⟩:=hrel;have bq:=(az.block PB (by have:=bf.out;omega) (by have:=bf.out;omega)).trans dN.out;obtain⟨p0,p1⟩:=(aad (cs:=[_,_]) bq).get2;rw [Aab] at p1;have zP:PB<wo.heap.size:=aac p0
       by_cases hkl:k<fs.length
       . have ef:k<T.length:=by rw [cu.out];exact hkl
         obtain⟨f,hf⟩:∃f,T[k]?=some f:=⟨_,Aaa ef⟩
         obtain⟨c6,-,-,-,-,-⟩:=aks (u:=⟨gs,T⟩) aM.out aw.out hf;have c5:(upF (ack (agS words)) T k)[k]?=some f:=apM _ hf;have bl:=(hd.funcCell c5 rfl).1;obtain⟨x0,bt⟩:∃x,f.blocks[0]?=some x:=⟨_,Aaa c6.tok.pos⟩
         obtain⟨h0,cb,-,-,ct,-⟩:=hd.listCell c5 bt;rw [ct] at bl;obtain⟨nb,cm⟩:∃nb,nb=f.blocks.length:=⟨_,rfl⟩
         have eY:nb<=1048576:=by rw [cm];exact c6.ok.len
         rw [<-cm] at bl ct;have dU:ahe wo A (.slice (some ⟨FB,0,none⟩) fs.length ae) (fsP (agS words) T k 0 f) Bv:=by rw [<-aq7 _ hf];exact hd
         have zF:FB<wo.heap.size:=aac bl;have eu:=hid dU;have Hf:=hid hf;have dm:=hid ((ace (u:=⟨gs,T⟩) aM.out).2 f (Aae hf));have dL:=hid cm;have cf:=hid ct;have eA:=hid az;clear hd dU hf c6 c5 bt ct cm az bq ef;go_wp2_with fail;clear p0 p1 zP bl zF;go_loopw [57] (fun s57 wr=>∃b:Nat,b<=nb∧s57 = .int .i64 (b:Int)∧ahe wr A (.slice (some ⟨FB,0,none⟩) fs.length ae) (fsP (agS words) T k b f) Bv∧Kp (fun b=>b<A) W7 wr) (fun s57 _=>nb - (intOf s57).toNat)
         case atStart=>exact⟨0,Aaj _,rfl,eu.out,eA.out⟩
         case round =>
          obtain⟨wp,eO⟩:∃wp:World,wp=wr:=⟨_,rfl⟩
          subst eO;obtain⟨b,hb,rfl,hd,az⟩:=hrel;have bq:=(az.block PB (by have:=bf.out;omega) (by have:=bf.out;omega)).trans dN.out;obtain⟨p0,p1⟩:=(aad (cs:=[_,_]) bq).get2;rw [Aab] at p1;have zP:PB<wp.heap.size:=aac p0
          by_cases hbl:b<nb
          . obtain⟨x,hx⟩:∃x,f.blocks[b]?=some x:=⟨_,Aaa (by rw [<-dL.out];exact hbl)⟩
            have aS:=atD (agS words) (b:=b) Hf.out;have bx:(upF (acj (agS words)) f.blocks b)[b]?=some x:=apM _ hx;have bl:=(hd.funcCell aS rfl).1;rw [cf.out] at bl;obtain⟨g1,c1,la,lc,cz,l0,fl,cH,-,-⟩:=hd.listCell aS bx;rw [cf.out] at cz;have cR:h0=g1:=by injection cz with e1;injection e1 with e2;injection e2
            subst cR;have ej:x.list.length<=1048576:=(dm.out.each x (Aae hx)).list;have zF:FB<wp.heap.size:=aac bl;have zL:h0<wp.heap.size:=aac l0;obtain⟨m,hm⟩:∃m,m=x.list.length:=⟨_,rfl⟩
            rw [<-hm] at ej l0 cH;have ea:=akE la lc x.list m wp (arX cH) hm.symm ej (fun c hc=>hc.2);have HK:=hid ea;have Hd:=hid hd;have cV:=hid aS;have cA:=hid bx;have Hx:=hid hx;have Hm:=hid hm;have aG:=hid az;clear hd aS bx hx cH cz ea hm az bq
            go_wp2_with (first
             | (go_at_call 17; refine HK.out.mono ?_; rintro e w8 ⟨ka, km, kc, fi, rfl, en, bA, cw⟩
                have dK := aph Hd.out bA (fun c hc => hc.1) (Nat.le_succ _) (by have := bf.out; have := aG.out.size; omega)
                have ca : (ae8 x.list).length = km := by rw [en]; exact bA.len.symm
                have ee := ajx ka km kc (ae8 x.list) words w8 (arX dK) ca (by have h9 := (aiW x.list x.list.length (Aac _)).2.2; rw [Aa0] at h9; have h8 : (ae8 x.list).length <= x.list.length := h9; have := Hm.out; omega) (fun c hc => hc.2)
                have HU := hid ee
                have bD := hid cw
                have l0 := aab l0 cw
                have fl := (cw.frozen (p := ⟨h0, b * 6 + 1, none⟩) zL).trans fl
                have zL : h0 < w8.heap.size := aac l0
                clear en bA dK ca ee cw)
             | (go_at_call 16; refine HU.out.mono ?_; rintro e w9 ⟨va, vm, vc, e9, rfl, e3, dy, al⟩
                have dD := Hd.out.later (bD.out.trans (al.mono bD.out.size))
                have dY := aph (Hd.out.later bD.out) dy (fun c hc => hc.1) (by omega) (by have := bf.out; have := aG.out.size; have := bD.out.size; omega)
                have eR := hid dY
                have eV := hid dD
                have eN := hid al
                have l0 := aab l0 al
                have fl := (al.frozen (p := ⟨h0, b * 6 + 1, none⟩) zL).trans fl
                have zL : h0 < w9.heap.size := aac l0
                clear e3 dy dD dY al))
            obtain⟨dZ,aT⟩:∃V,V=w9.setCell ⟨h0,b * 6+1,none⟩ (.slice va vm vc):=⟨_,rfl⟩
            have ec:ahe dZ A (.slice (some ⟨FB,0,none⟩) fs.length ae) (fsP (agS words) T k (b+1) f) Bv:=by
             rw [aT,<-aq8 (agS words) Hx.out];exact eV.out.set cV.out cA.out eR.out cf.out
            have bV:Kp (fun b=>b<A) W7 dZ:=by
             have cU:=aG.out.trans (Kp.of (bD.out.trans (eN.out.mono bD.out.size)));rw [aT];exact cU.set (by have:=(Hd.out.lt (k:=k) (by rw [asJ];rw [cu.out];exact hkl) (c:=h0) (by rw [cf.out];rfl)).1;dsimp only;omega) _
            have ey:=hid ec;have cX:=hid bV;rw [<-aT];clear aT ec bV;go_roundw
            case rel=>exact⟨b+1,by omega,by go_num,ey.out,cX.out⟩
            case measure=>simp [intOf];omega
          . have dV:ahe wp A (.slice (some ⟨FB,0,none⟩) fs.length ae) (upF (ack (agS words)) T (k+1)) Bv:=by
             rw [<-apg (agS words) Hf.out (b:=b) (by rw [<-dL.out];omega)];exact hd
            have eJ:=hid dV;have aG:=hid az;clear hd dV az bq;go_wp2_with fail;go_roundw
            case rel=>exact⟨k+1,by omega,by go_num,eJ.out,aG.out⟩
            case measure=>simp [intOf];omega
       . have bA:k=fs.length:=by omega
         rw [apO _ (by rw [cu.out];omega)] at hd;obtain⟨T2,bG⟩:∃T2,T2=T.map (ack (agS words)):=⟨_,rfl⟩
         rw [<-bG] at hd;have bK:aat ⟨gs,T2⟩=(0,0):=by rw [bG];exact aiV (ajw words) aM.out aw.out
         have bN:T2.length=fs.length:=by rw [bG,Aah];exact cu.out
         have bU:T2.map abi=aej gs fs:=by
          unfold aej afV;rw [bG,HT.out,aI.out]
         have dz:=hd.read;have b9:Below W.heap.size W wo:=b6.out.trans (az.below fun b hb=>⟨by have:=b6.out.size;omega,by have:=bf.out;omega⟩);obtain⟨bz,-,cv,cg⟩:=bh.out wo b9;have bY:SlAt (fun b=>b<wo.heap.size) wo 3 aaO (.slice go gs.length ai) gs:=cG.out.mono aaw (fun b hb=>by have:=bf.out;have:=az.size;omega) (az.stays fun b hb=>hb.2);have br:=apf (S:=fun b=>b<wo.heap.size) go ai (some ⟨FB,0,none⟩) fs.length ae gs T2 wo bY dz bN (ae2.below du.out bz) (fun b hb=>hb) bK;rw [bU] at br;have cD:=hid br;have cN:Hid (∀V,Below wo.heap.size wo V->Below w.heap.size w V∧V.heap[UO]?=some (.cells #[.slice none 0 0,.slice none 0 0] 25 (0,0))∧V.heap[UX]?=some (.cells #[.int .i64 0,.int .i64 0] 27 (0,0))) :=
          fun V hV=>⟨bz.trans (hV.mono bz.size),(hV.block UO (Aag.1 cv).1).trans cv,(hV.block UX (Aag.1 cg).1).trans cg⟩
         have bQ:UO<wo.heap.size∧UX<wo.heap.size:=⟨(Aag.1 cv).1,(Aag.1 cg).1⟩
         have cZ:=hid bQ;have zf:w.heap.size<=wo.heap.size:=bz.size;clear hd bG bK bN bU dz bz cv cg br bQ bY b9 az bq
         go_wp2_with
          (go_at_call 10; refine cD.out.mono ?_; rintro e aR ⟨ag, bZ, ah, cc, rfl, b4, bS, al⟩
           obtain ⟨bk, s1, s2⟩ := cN.out aR al
           have S1 := hid s1
           have S2 := hid s2
           have bk := hid bk
           have dq := hid b4
           have cC := hid bS
           have f0 := aaq s1 0
           have f1 := aaq s1 1
           have g0 := aaq s2 0
           have g1 := aaq s2 1
           obtain ⟨b0, b1⟩ := (aad (cs := [_, _]) s1).get2
           obtain ⟨d0, d1⟩ := (aad (cs := [_, _]) s2).get2
           rw [Aab] at b1 d1
           have dd : UO < aR.heap.size := aac b0
           have cP : UX < aR.heap.size := aac d0
           have bp : ¬ UX = UO := fun e => aP e.symm
           clear al b4 bS s1 s2)
         have ad:=aeS (.slice ag gs.length bZ) (.slice ah fs.length cc) (.int .i64 0) (.int .i64 0) (aad (cs:=[_,_]) S1.out) (aad (cs:=[_,_]) S2.out) aP;have aA:Below w.heap.size w (adP aR UO UX (.slice ag gs.length bZ) (.slice ah fs.length cc) (.int .i64 0) (.int .i64 0)):=ad5 bk.out aY.out.1 aY.out.2;have hh:∀b,b≠UO->b≠UX->(adP aR UO UX (.slice ag gs.length bZ) (.slice ah fs.length cc) (.int .i64 0) (.int .i64 0)).heap[b]?=aR.heap[b]?:=fun b h1 h2=>akn h1 h2;have b2:(adP aR UO UX (.slice ag gs.length bZ) (.slice ah fs.length cc) (.int .i64 0) (.int .i64 0)).heap.size=aR.heap.size:=by simp [adP,World.setCell]
         have a8:∀b,iv wo.heap.size aR.heap.size b->b≠UO∧b≠UX:=fun b hb=>by have:=hb.1;have:=cZ.out;omega
         refine bodyPost_ret (agZ rfl rfl rfl ad.1 ad.2) rfl (af.out _ _ ag bZ ah cc aA rfl ?_ ?_)
         . exact dq.out.mono aaw (fun b hb=>⟨by have:=hb.1;omega,Nat.lt_of_lt_of_eq hb.2 b2.symm⟩) (acI fun b hb _=>hh b (a8 b hb).1 (a8 b hb).2)
         . exact cC.out.mono aaE (fun b hb=>⟨by have:=hb.1;omega,Nat.lt_of_lt_of_eq hb.2 b2.symm⟩) (acI fun b hb _=>hh b (a8 b hb).1 (a8 b hb).2)
 . have hq:((decide (c<0)||decide (0<c))||(decide (d<0)||decide (0<d)))=true:=by rw [Abe];simp;omega
   have af:Hid (∀e w',Below w.heap.size w w'->e = .returned (.tuple #[.agg #[.slice none 0 0,.slice none 0 0],.agg #[.int .i64 c,.int .i64 d]])->alM gs fs w e w'):=fun e w' h1 h2=>by
    refine⟨h1,fun _=>?_,fun h=>?_⟩
    . rw [aB.out];exact h2
    . rw [aB.out] at h;exact absurd h hc0
   have s1:=S1.out;have s2:=S2.out;have f0:=aaq s1 0;have f1:=aaq s1 1;have g0:=aaq s2 0;have g1:=aaq s2 1;obtain⟨b0,b1⟩:=(aad (cs:=[_,_]) s1).get2;obtain⟨d0,d1⟩:=(aad (cs:=[_,_]) s2).get2;rw [Aab] at b1 d1;have dd:UO<W2.heap.size:=aac b0;have cP:UX<W2.heap.size:=aac d0;obtain⟨bj,eX,eS,ew⟩:=cI.out;have bp:¬UX=UO:=by omega
   clear hc0 s1 s2;go_wp2_with fail;go_region;have ad:=aeS (.slice none 0 0) (.slice none 0 0) (.int .i64 c) (.int .i64 d) (aad (cs:=[_,_]) S1.out) (aad (cs:=[_,_]) S2.out) aP;have aA:Below w.heap.size w (adP W2 UO UX (.slice none 0 0) (.slice none 0 0) (.int .i64 c) (.int .i64 d)):=ad5 aj.out aY.out.1 aY.out.2;obtain⟨W6,ay⟩:∃W6,W6=adP W2 UO UX (.slice none 0 0) (.slice none 0 0) (.int .i64 c) (.int .i64 d):=⟨_,rfl⟩
   rw [<-ay] at ad aA;unfold adP at ay;rw [<-ay];have aH:=hid ad;have cM:=hid aA;clear ay ad aA;go_wp2_with fail;refine bodyPost_ret (agZ rfl rfl rfl (fun j v hj=>aH.out.1 j v hj) (fun j v hj=>aH.out.2 j v hj)) rfl (af.out _ _ cM.out.drew rfl)
end
section
open Go.RowKit
theorem apj(gs:List aaG)(fs:List aav):(aej gs fs).length=fs.length:=ao5 _ _
theorem alN {gs:List aaG}{fs:List aav}(h:agu ⟨gs,fs⟩=(0,0))(hn:ais ⟨gs,fs⟩):aat ⟨gs,aej gs fs⟩=(0,0):=(alL (ajw _) (ahS h).1 hn).1
theorem asK {S : Nat -> Prop} (ga : Option Addr) (gc : Nat) (fa : Option Addr) (fc : Nat) (gs : List aaG) (fs : List aav) (w : World)
 (hg:SlAt S w 3 aaO (.slice ga gs.length gc) gs) (hf:SlAt S w 4 abC (.slice fa fs.length fc) fs) (hw:ae2 w) (hS:∀b,S b->b<w.heap.size) (av:aip gs fs) :
 Calls Tryz.prog 7 #[.agg #[.slice ga gs.length gc,.slice fa fs.length fc]] w fun e w1=>∃va vn vc wa wn wc c d,e = .returned (.tuple #[.agg #[.slice va vn vc,.slice wa wn wc],.agg #[.int .i64 c,.int .i64 d]])∧Below w.heap.size w w1 ∧
  ((c≠0∧vn=0∧wn=0∧agu ⟨gs,fs⟩=(c,d))∨(c=0∧d=0∧vn=gs.length∧wn=fs.length∧agu ⟨gs,fs⟩=(0,0)∧SlAt (iv w.heap.size w1.heap.size) w1 3 aaO (.slice va vn vc) gs∧SlAt (iv w.heap.size w1.heap.size) w1 4 abC (.slice wa wn wc) (aej gs fs))):=by
 refine (api (S:=S) ga gc fa fc gs fs w hg hf hw hS av.globals av.funcs av.many (alp (gs:=gs) hf)).mono fun e w1 hp=>?_
 by_cases hc:(agu ⟨gs,fs⟩).1=0
 . obtain⟨ag,ai,ah,ae,h1,h2,h3⟩:=hp.2.2 hc
   exact⟨ag,_,ai,ah,_,ae,0,0,h1,hp.1,.inr ⟨rfl,rfl,rfl,rfl,akZ hc,h2,h3⟩⟩
 . exact⟨none,0,0,none,0,0,_,_,hp.2.1 hc,hp.1,.inl ⟨hc,rfl,rfl,rfl⟩⟩
end
section
open Go.RowKit Go.Sort
theorem akH (w : World) (hw : ae2 w) (ga : Option Addr) (gc : Nat) (fa : Option Addr) (fc : Nat) (gs : List aaG) (fs : List aav) (hg : SlAt (fun b => b < w.heap.size) w 3 aaO (.slice ga gs.length gc) gs) (hf : SlAt (fun b => b < w.heap.size) w 4 abC (.slice fa fs.length fc) fs)
 (av:aip gs fs) :
 Calls Tryz.prog 4 #[.agg #[.slice ga gs.length gc,.slice fa fs.length fc]] w fun e w'=>e = .returned (.bool true)∧Below w.heap.size w w':=by
 have aF:=hid (alp (gs:=gs) hf);have be:=av.globals;have bB:=av.funcs;have Hg:=hid hg;have Hf:=hid hf;have Hw:=hid hw;have dm:=hid av;clear hg hf hw av;go_enter Tryz.func4,Tryz.ntmps4;obtain⟨W,hW⟩:∃W,W=(w.alloc (.cells #[.slice ga gs.length gc,.slice fa fs.length fc] 25)):=⟨_,rfl⟩
 have aq:Below w.heap.size w W:=by rw [hW];exact bE
 have h0:W.heap[w.heap.size]?=some (.cells #[.slice ga gs.length gc,.slice fa fs.length fc] 25 (0,0)):=by rw [hW];exact heap_alloc_new _ _
 have aX:W.heap.size=w.heap.size+1:=by rw [hW];simp
 go_upto_region 1 with (fail)
 rw [<-hW];obtain⟨UB,aE⟩:∃UB,UB=w.heap.size:=⟨_,rfl⟩
 rw [<-aE] at h0 ⊢;have fh:Hid (UB=w.heap.size∧W.heap.size=UB+1):=⟨aE,by omega⟩
 have bC:=hid aq;have H0:Hid (∀V,Below W.heap.size W V->V.cell? ⟨UB,0,none⟩=some (.slice ga gs.length gc)∧V.cell? ⟨UB,1,none⟩=some (.slice fa fs.length fc)):=fun V hV=>by
  have h1:=(hV.block UB (by omega)).trans h0;obtain⟨c0,c1⟩:=(aad (cs:=[_,_]) h1).get2;rw [Aab] at c1;exact⟨c0,c1⟩
 obtain⟨c0,c1⟩:=H0.out W (Below.refl _ _);have zB:UB<W.heap.size:=aac c0;have dP:=asK (S:=fun b=>b<w.heap.size) ga gc fa fc gs fs W (Hg.out.later aaw aq) (Hf.out.later aaE aq) (ae2.below Hw.out aq) (fun b hb=>by omega) dm.out;have ep:=hid dP;clear hW aX aE aq h0 dP;go_upto_region 2 with (go_at_call 7;refine ep.out.mono ?_;rintro e w1 ⟨va,vn,vc,wa,wn,wc,c,d,rfl,aC,au⟩;have aO:=hid aC;have ax:=hid au;clear aC au)
 obtain⟨W2,an⟩:∃W2,W2=(w1.alloc (.cells #[.slice va vn vc,.slice wa wn wc] 25)).alloc (.cells #[.int .i64 c,.int .i64 d] 27):=⟨_,rfl⟩
 obtain⟨dR,cr,bt⟩:=abQ w1 (.cells #[.slice va vn vc,.slice wa wn wc] 25) (.cells #[.int .i64 c,.int .i64 d] 27);rw [<-an] at dR cr bt ⊢;have aV:Below w1.heap.size w1 W2:=by rw [an];exact bE
 have ak:Hid (Below W.heap.size W W2):=aO.out.trans (aV.mono aO.out.size);have bT:=hid aV;have aj:Hid (Below w.heap.size w W2):=bC.out.trans (ak.out.mono bC.out.size);obtain⟨VB,dW⟩:∃VB,VB=w1.heap.size:=⟨_,rfl⟩
 obtain⟨FB,dQ⟩:∃FB,FB=w1.heap.size+1:=⟨_,rfl⟩
 rw [<-dQ] at bt ⊢;rw [<-dW] at cr ⊢;have ds:Hid (∀V,Below W2.heap.size W2 V->V.cell? ⟨VB,0,none⟩=some (.slice va vn vc)∧V.cell? ⟨VB,1,none⟩=some (.slice wa wn wc)∧V.cell? ⟨FB,0,none⟩=some (.int .i64 c)∧V.cell? ⟨FB,1,none⟩=some (.int .i64 d)):=fun V hV=>by
  obtain⟨v0,v1⟩:=(aad (cs:=[_,_]) ((hV.block VB (by omega)).trans cr)).get2;obtain⟨x0,x1⟩:=(aad (cs:=[_,_]) ((hV.block FB (by omega)).trans bt)).get2;rw [Aab] at v1 x1;exact⟨v0,v1,x0,x1⟩
 obtain⟨v0,v1,x0,x1⟩:=ds.out W2 (Below.refl _ _);have e8:VB<W2.heap.size:=aac v0;have fj:FB<W2.heap.size:=aac x0;clear an dR cr bt aV dW dQ c0 c1 zB
 by_cases hc0:c=0
 . obtain⟨rfl,rfl,rfl,bF,fb,eK⟩:d=0∧vn=gs.length∧wn=fs.length∧Hid (agu ⟨gs,fs⟩=(0,0))∧Hid (SlAt (iv W.heap.size w1.heap.size) w1 3 aaO (.slice va vn vc) gs)∧Hid (SlAt (iv W.heap.size w1.heap.size) w1 4 abC (.slice wa wn wc) (aej gs fs)):=by
    rcases ax.out with h | h
    . exact absurd hc0 h.1
    . exact⟨h.2.1,h.2.2.1,h.2.2.2.1,h.2.2.2.2.1,h.2.2.2.2.2.1,h.2.2.2.2.2.2⟩
   subst hc0;have k1:=alN bF.out aF.out;have db:=(ahS bF.out).1;have dp:∀aD,aat ⟨gs,aD⟩=(0,0)->aD.length<=1048576∧(∀f∈aD,f.blocks.length<=1048576∧∀x∈f.blocks,x.list.length<=1048576)∧∀op,manyO op aD<=1048576:=fun aD h=>by
    obtain⟨-,s2⟩:=ace (u:=⟨gs,aD⟩) h;obtain⟨-,eH,-⟩:=acq (u:=⟨gs,aD⟩) (by rw [h]);dsimp only at eH;refine⟨by omega,fun f hf=>⟨(s2 f hf).blocks,fun x hx=>((s2 f hf).each x hx).list⟩,fun op=>?_⟩;rw [amB];have cJ:∀f∈aD,(f.blocks.map fun x=>x.list.countP fun y=>decide (y.op=op)).sum<=300:=fun f hf=>by
     obtain⟨i,hi⟩:=Acl.1 hf;obtain⟨hh,-⟩:=adl (u:=⟨gs,aD⟩) h hi;obtain⟨-,-,-,-,-,-,-,-,dc⟩:=ac9 hh;refine Aai ?_ dc;unfold aa5;exact agM fun x _=>Aai List.countP_le_length (Nat.le_add_left _ _)
    have da:∀l:List aav,(∀f∈l,f∈aD)->(l.map fun f=>(f.blocks.map fun x=>x.list.countP fun y=>decide (y.op=op)).sum).sum<=l.length * 300:=fun l=>by
     induction l with
     | nil=>intro _;exact Aaj _
     | cons f l ih =>
       intro hl;have h1:=cJ f (hl f (Aa3 ..));have h2:=ih fun g hg=>hl g (Aa2 _ hg);rw [Aa1,Abj,Aa8];omega
    have:=da aD fun f hf=>hf;omega
   obtain⟨dB,dC,dE⟩:=dp _ k1;obtain⟨dv,dI,eh⟩:=dp _ db;have eL:=hid dB;have eI:=hid dC;have dh:=hid dE;have cx:=hid dv;have eC:=hid dI;have cB:=hid eh;obtain⟨f1,f2,f3,f4⟩:=apc bF.out aF.out (abm gs gs.length);have eB:Hid (∀op,op≠1->op≠18->op≠19->manyO op (aej gs fs)=manyO op fs):=f1;have e6:Hid (manyO 18 (aej gs fs)<=manyO 18 fs):=f2;have e0:Hid (manyO 19 (aej gs fs)<=manyO 19 fs):=f3;have eM:Hid (manyO 18 (aej gs fs)+manyO 1 (aej gs fs)=manyO 18 fs+manyO 1 fs):=f4;have ek:0<fs.length:=ai3 (u:=⟨gs,fs⟩) db;have dG:¬(fs.length=0):=by omega
   have dM:¬((fs.length:Int)=0):=by omega
   clear ax k1 db dp dB dC dE dv dI eh f1 f2 f3 f4;go_wp2_with fail;go_loopw [5] (fun s5 wr=>∃z:Int,2<=z∧z<=23∧s5 = .int .i64 z∧Below W2.heap.size W2 wr) (fun s5 _=>23 - (intOf s5).toNat)
   case atStart=>exact⟨2,by omega,by omega,rfl,Below.refl _ _⟩
   case round =>
    obtain⟨z,fg,e7,rfl,hb⟩:=hrel;obtain⟨u0,u1⟩:=H0.out wr (ak.out.trans (hb.mono ak.out.size));obtain⟨v0,v1,-,-⟩:=ds.out wr hb;have k5:=cell_regrown v0;have k6:=cell_regrown v1;have k7:=cell_regrown u0;have k8:=cell_regrown u1;have zU:=aac u0;have zV:=aac v0;have cq:Below w.heap.size w wr:=aj.out.trans (hb.mono aj.out.size);have c4:Hid (∀(op:Int) (a:Nat),a=manyO op (aej gs fs)->∀m d os,CallsIn Fence.wide m Tryz.prog 13 #[.agg #[.slice va gs.length vc,.slice wa fs.length wc],.int .i64 op] (grow (redrawn wr d) os) fun e dk=>e = .returned (.int .i64 (a:Int))∧∃p:Regrown,dk=grow (redrawn wr p.d) p.os):=fun op a ha m d os=>by
     have al:Below w1.heap.size w1 (grow (redrawn wr d) os):=bT.out.trans ((hb.trans ((below_regrown wr d os).mono hb.size)).mono bT.out.size);have h:=amC (S:=iv W.heap.size w1.heap.size) va wa gs.length vc fs.length wc (aej gs fs) op (grow (redrawn wr d) os) (eK.out.later aaE al) (apj gs fs) eL.out eI.out (dh.out op);rw [<-ha] at h;exact CallsIn.regrown_of (callsIn_wide (n:=m).2 h)
    have cF:Hid (∀(op:Int) (a:Nat),a=manyO op fs->∀m d os,CallsIn Fence.wide m Tryz.prog 13 #[.agg #[.slice ga gs.length gc,.slice fa fs.length fc],.int .i64 op] (grow (redrawn wr d) os) fun e dk=>e = .returned (.int .i64 (a:Int))∧∃p:Regrown,dk=grow (redrawn wr p.d) p.os):=fun op a ha m d os=>by
     have al:Below w.heap.size w (grow (redrawn wr d) os):=cq.trans ((below_regrown wr d os).mono cq.size);have h:=amC (S:=fun b=>b<w.heap.size) ga fa gs.length gc fs.length fc fs op (grow (redrawn wr d) os) (Hf.out.later aaE al) rfl cx.out eC.out (cB.out op);rw [<-ha] at h;exact CallsIn.regrown_of (callsIn_wide (n:=m).2 h)
    have Hb:=hid hb;have dA:=hid cq;clear hb cq
    by_cases hz:z<=22
    . obtain⟨a,ha⟩:∃a,a=manyO z fs:=⟨_,rfl⟩
      obtain⟨b,bO⟩:∃b,b=manyO z (aej gs fs):=⟨_,rfl⟩
      have dg:=hid (cF.out z a ha);have de:=hid (c4.out z b bO);have hle:b<=a∧(z=18∨z=19∨b=a):=by
       by_cases h18:z=18
       . subst h18;exact⟨by rw [ha,bO];exact e6.out,.inl rfl⟩
       . by_cases h19:z=19
         . subst h19;exact⟨by rw [ha,bO];exact e0.out,.inr (.inl rfl)⟩
         . have h:=eB.out z (by omega) h18 h19
           rw [<-ha,<-bO] at h;exact⟨by omega,.inr (.inr h)⟩
      have eT:decide (z<=22)=true:=decide_eq_true hz;have fe:decide (a<b)=false:=decide_eq_false (by omega);have eF:decide ((a:Int)<(b:Int))=false:=decide_eq_false (by omega);obtain⟨-,au⟩:=hle;clear ha bO;go_upto_region 9 with fail;refine adu (by kernel_rfl) (by kernel_rfl) ?_
      repeat (gi_big_quiet_step (fail))
      refine wpQuietIn_step (fun _ _ _ _=>trivial) (fun K hK=>?_);go_simp;refine⟨_,fun _=>dg.out _ _ _,hK _ ?_⟩;clear hK K
      repeat (gi_big_quiet_step (fail))
      refine wpQuietIn_step (fun _ _ _ _=>trivial) (fun K hK=>?_);go_simp;refine⟨_,fun _=>de.out _ _ _,hK _ ?_⟩;clear hK K
      repeat (gi_big_quiet_step (fail))
      refine wpQuietIn_nil ?_;intro W7 bn;obtain⟨rg,bR⟩:=bn;have ar:Below wr.heap.size wr W7:=by rw [bR];exact below_regrown _ _ _
      clear bR;clear k5 k6 k7 k8 u0 u1 v0 v1;rcases au with rfl | rfl | rfl
      . go_wp2_with fail
        go_roundw
        case rel=>exact⟨18+1,by omega,by omega,rfl,Hb.out.trans (ar.mono Hb.out.size)⟩
        case measure=>simp [intOf]
      . go_wp2_with fail
        go_roundw
        case rel=>exact⟨19+1,by omega,by omega,rfl,Hb.out.trans (ar.mono Hb.out.size)⟩
        case measure=>simp [intOf]
      . go_wp2_with fail
        all_goals go_roundw
        all_goals first
         | exact⟨z+1,by omega,by omega,by go_num,Hb.out.trans (ar.mono Hb.out.size)⟩
         | (simp [intOf];omega)
    . obtain⟨c8,a7⟩:∃a,a=manyO 18 fs:=⟨_,rfl⟩
      obtain⟨a1,cn⟩:∃a,a=manyO 1 fs:=⟨_,rfl⟩
      obtain⟨cW,a6⟩:∃b,b=manyO 18 (aej gs fs):=⟨_,rfl⟩
      obtain⟨b1,aC⟩:∃b,b=manyO 1 (aej gs fs):=⟨_,rfl⟩
      have cE:=hid (cF.out 18 c8 a7);have eG:=hid (cF.out 1 a1 cn);have cK:=hid (c4.out 18 cW a6);have cY:=hid (c4.out 1 b1 aC);have q1:c8<=1048576:=by rw [a7];exact cB.out 18
      have q2:a1<=1048576:=by rw [cn];exact cB.out 1
      have q3:cW<=1048576:=by rw [a6];exact dh.out 18
      have q4:b1<=1048576:=by rw [aC];exact dh.out 1
      have eE:cW+b1=c8+a1:=by rw [a7,cn,a6,aC];exact eM.out
      have eT:decide (z<=22)=false:=decide_eq_false hz;clear a7 cn a6 aC;go_upto_region 12 with fail;refine adu (by kernel_rfl) (by kernel_rfl) ?_
      repeat (gi_big_quiet_step (fail))
      refine wpQuietIn_step (fun _ _ _ _=>trivial) (fun K hK=>?_);go_simp;refine⟨_,fun _=>cK.out _ _ _,hK _ ?_⟩;clear hK K
      repeat (gi_big_quiet_step (fail))
      refine wpQuietIn_step (fun _ _ _ _=>trivial) (fun K hK=>?_);go_simp;refine⟨_,fun _=>cY.out _ _ _,hK _ ?_⟩;clear hK K
      repeat (gi_big_quiet_step (fail))
      refine wpQuietIn_step (fun _ _ _ _=>trivial) (fun K hK=>?_);go_simp;refine⟨_,fun _=>cE.out _ _ _,hK _ ?_⟩;clear hK K
      repeat (gi_big_quiet_step (fail))
      refine wpQuietIn_step (fun _ _ _ _=>trivial) (fun K hK=>?_);go_simp;refine⟨_,fun _=>eG.out _ _ _,hK _ ?_⟩;clear hK K
      repeat (gi_big_quiet_step (fail))
      refine wpQuietIn_nil ?_;intro W7 bn;obtain⟨rg,bR⟩:=bn;have ar:Below wr.heap.size wr W7:=by rw [bR];exact below_regrown _ _ _
      clear bR;go_wp2_with fail;go_ret;exact⟨by simp;omega,dA.out.trans (ar.mono dA.out.size)⟩
 . obtain⟨rfl,rfl⟩:vn=0∧wn=0:=by
    rcases ax.out with h | h
    . exact⟨h.2.1,h.2.2.1⟩
    . exact absurd h.1 hc0
   have hq:(decide (c<0)||decide (0<c))=true:=aez hc0;clear ax hc0
   go_wp2_with (first
    | (go_at_call 9; refine (ari _ _ _ _ 0 0 _).mono ?_; rintro e w6 ⟨rfl, aA⟩))
   go_ret;exact⟨rfl,by have h:=aj.out;exact bE2 aA h⟩
end
end Go.Proofs.YtpeejlpcikefcaaGreatDoor
