import Derived.Test.YtpeejlpcikefcaaGreatDoorPMemU
import Derived.Test.YtpeejlpcikefcaaGreatDoorPMemN
import Derived.Test.YtpeejlpcikefcaaGreatDoorPWk
import Derived.Test.YtpeejlpcikefcaaGreatDoorPSsaF
import Derived.Test.YtpeejlpcikefcaaGreatDoorPCopyRU
import Derived.StillTailTactics
/- tidy.Do. tidy.Do of a checked unit. mem.Do. mem.Do of any unit, by its fault. MemFewer: the law's walk. -/
set_option maxHeartbeats 4000000
set_option maxRecDepth 100000
namespace Go.Proofs.YtpeejlpcikefcaaGreatDoor
section
open Go.RowKit
def ajE(gs:List aaF)(fs:List aaz)(w:World)(e:Ending)(w':World):Prop :=
 Below w.heap.size w w' ∧
 ((aav ⟨gs,fs⟩).1≠0->e = .returned (.tuple #[.agg #[.slice none 0 0,.slice none 0 0],.agg #[.int .i64 (aav ⟨gs,fs⟩).1,.int .i64 (aav ⟨gs,fs⟩).2]])) ∧
 ((aav ⟨gs, fs⟩).1 = 0 -> ∃ ga gc fa fc, e = .returned (.tuple #[.agg #[.slice ga gs.length gc, .slice fa fs.length fc], .agg #[.int .i64 0, .int .i64 0]]) ∧
    SlAt (iv w.heap.size w'.heap.size) w' 3 aaO (.slice ga gs.length gc) gs ∧ SlAt (iv w.heap.size w'.heap.size) w' 4 abD (.slice fa fs.length fc) (fs.map abx))
theorem aqW {S : Nat -> Prop} (ga : Option Addr) (gc : Nat) (fa : Option Addr) (fc : Nat) (gs : List aaF) (fs : List aaz) (w : World)
 (hg:SlAt S w 3 aaO (.slice ga gs.length gc) gs) (hf:SlAt S w 4 abD (.slice fa fs.length fc) fs) (hw:ae1 w) (hS:∀b,S b->b<w.heap.size)
 (aZ:gs.length<=1048576) (bG:fs.length<=1048576) (aO:∀(k:Nat) (f:aaz),fs[k]?=some f->aa6 f.blocks<=1048576∧f.blocks.length<=1048576) :
 Calls Tryz.prog 10 #[.agg #[.slice ga gs.length gc,.slice fa fs.length fc]] w fun e w'=>ajE gs fs w e w':=by
 obtain⟨c,hc⟩:∃c,c=(aav ⟨gs,fs⟩).1:=⟨_,rfl⟩
 obtain⟨d,hd⟩:∃d,d=(aav ⟨gs,fs⟩).2:=⟨_,rfl⟩
 have al:Hid (aav ⟨gs,fs⟩=(c,d)):=by show _=_;rw [hc,hd]
 have aG:Hid (∀V,Below w.heap.size w V->Calls Tryz.prog 18 #[.agg #[.slice ga gs.length gc,.slice fa fs.length fc]] V fun e w'=>e = .returned (.agg #[.int .i64 c,.int .i64 d])∧Below V.heap.size V w'):=fun V hV=>by
  have h:=aj6 (S:=S) ga gc fa fc gs fs V (hg.later aar hV) (hf.later aaG hV) (ae1.below hw hV) aZ bG aO;rw [<-hc,<-hd] at h;exact h
 have dp : Hid (c = 0 -> ∀ V, Below w.heap.size w V -> Calls Tryz.prog 21 #[.agg #[.slice ga gs.length gc, .slice fa fs.length fc], .func (.func 22) #[] #[]] V fun e w' =>
  ∃ ag ah ai ae, e = .returned (.tuple #[.agg #[.slice ag gs.length ah, .slice ai fs.length ae], .agg #[.int .i64 0, .int .i64 0]]) ∧
    SlAt (iv V.heap.size w'.heap.size) w' 3 aaO (.slice ag gs.length ah) gs ∧ SlAt (iv V.heap.size w'.heap.size) w' 4 abD (.slice ai fs.length ae) (fs.map abx) ∧ Below V.heap.size V w') := fun h0 V hV =>
  aqu (S:=S) ga gc fa fc gs fs V (hg.later aar hV) (hf.later aaG hV) (fun b hb=>Aay (hS b hb) hV.size) (afh (by rw [al.out];exact h0))
 clear hg hf hw aO hc hd hS;go_enter Tryz.func10,Tryz.ntmps10;go_upto_region 1 with (fail)
 obtain⟨W,hW⟩:∃W,W=((w.alloc (.cells #[.slice ga gs.length gc,.slice fa fs.length fc] 25)).alloc (.cells #[.slice none 0 0,.slice none 0 0] 25)).alloc (.cells #[.int .i64 0,.int .i64 0] 27):=⟨_,rfl⟩
 obtain⟨bh,h0,h1,h2⟩:=aff w (.cells #[.slice ga gs.length gc,.slice fa fs.length fc] 25) (.cells #[.slice none 0 0,.slice none 0 0] 25) (.cells #[.int .i64 0,.int .i64 0] 27);rw [<-hW] at bh h0 h1 h2 ⊢;have aN:Below w.heap.size w W:=by rw [hW];exact bE
 obtain⟨UB,a6⟩:∃UB,UB=w.heap.size:=⟨_,rfl⟩
 obtain⟨UO,bf⟩:∃UO,UO=w.heap.size+1:=⟨_,rfl⟩
 obtain⟨UX,a8⟩:∃UX,UX=w.heap.size+1+1:=⟨_,rfl⟩
 rw [<-a8] at h2 ⊢;rw [<-bf] at h1 ⊢;rw [<-a6] at h0 ⊢;have aS:Hid (UB=w.heap.size∧UO=w.heap.size+1∧UX=w.heap.size+2∧W.heap.size=w.heap.size+3):=⟨a6,bf,a8,bh⟩
 have aU:Hid (∀V,Below W.heap.size W V->Below w.heap.size w V∧V.heap[UB]?=some (.cells #[.slice ga gs.length gc,.slice fa fs.length fc] 25 (0,0))∧V.heap[UO]?=some (.cells #[.slice none 0 0,.slice none 0 0] 25 (0,0))∧V.heap[UX]?=some (.cells #[.int .i64 0,.int .i64 0] 27 (0,0))) :=
  fun V hV=>⟨aN.trans (hV.mono aN.size),(hV.block UB (by omega)).trans h0,(hV.block UO (by omega)).trans h1,(hV.block UX (by omega)).trans h2⟩
 have cK:=hid aN;obtain⟨c0,c1⟩:=(aad (cs:=[_,_]) h0).get2;rw [Aab] at c1;have zB:UB<W.heap.size:=by omega
 clear hW h0 h1 h2 aN a6 bf a8 bh;go_upto_region 2 with (go_at_call 18;refine (aG.out W cK.out).mono ?_;rintro e w1 ⟨rfl,bU⟩;have bj:=hid bU;clear bU)
 obtain⟨W2,aD⟩:∃W2,W2=w1.alloc (.cells #[.int .i64 c,.int .i64 d] 27):=⟨_,rfl⟩
 have bN:Below w1.heap.size w1 W2:=by rw [aD];exact bE
 have an:Hid (Below W.heap.size W W2):=bj.out.trans (bN.mono bj.out.size);have x0:W2.cell? ⟨w1.heap.size,0,none⟩=some (.int .i64 c):=by rw [aD];simp
 have x1:W2.cell? ⟨w1.heap.size,1,none⟩=some (.int .i64 d):=by rw [aD];simp
 rw [<-aD];obtain⟨XB,bO⟩:∃XB,XB=w1.heap.size:=⟨_,rfl⟩
 rw [<-bO] at x0 x1 ⊢;obtain⟨ar,s0,s1,s2⟩:=aU.out W2 an.out;have ar:=hid ar;have S1:=hid s1;have S2:=hid s2;obtain⟨a0,a1⟩:=(aad (cs:=[_,_]) s0).get2;rw [Aab] at a1;have dj:UB<W2.heap.size:=aac a0;have cW:XB<W2.heap.size:=aac x0;have aF:¬UO=UX:=by have:=aS.out;omega
 have bQ:w.heap.size<=UO∧w.heap.size<=UX:=by have:=aS.out;omega
 have aK:=hid bQ;have aY:¬XB=UO∧¬UO=XB∧¬XB=UX∧¬UX=XB:=by have:=aS.out;have:=bj.out.size;omega
 have ca:=hid aY;clear aD bN bO s0 s1 s2 c0 c1 zB bQ aY
 by_cases hc0:c=0
 . subst hc0
   have cJ:d=0:=by
    have h:=afh (u:=⟨gs,fs⟩) (by rw [al.out]);rw [al.out] at h;exact congrArg Prod.snd h
   subst cJ;have af:Hid (∀e w' ga gc fa fc,Below w.heap.size w w'->e = .returned (.tuple #[.agg #[.slice ga gs.length gc,.slice fa fs.length fc],.agg #[.int .i64 0,.int .i64 0]])->SlAt (iv w.heap.size w'.heap.size) w' 3 aaO (.slice ga gs.length gc) gs->SlAt (iv w.heap.size w'.heap.size) w' 4 abD (.slice fa fs.length fc) (fs.map abx)->ajE gs fs w e w'):=fun e w' ga gc fa fc h1 h2 h3 h4 =>
    ⟨h1,fun h=>absurd (by rw [al.out]) h,fun _=>⟨ga,gc,fa,fc,h2,h3,h4⟩⟩
   have cw:=hid (dp.out rfl W2 ar.out);have zf:w.heap.size<=W2.heap.size:=ar.out.size;clear dp aG
   go_wp2_with (go_at_call 21; refine cw.out.mono ?_; rintro e w9 ⟨ag, ah, ai, ae, rfl, bI, bu, aB⟩
                obtain ⟨a7, -, t1, t2⟩ := aU.out w9 (an.out.trans (aB.mono an.out.size))
                have T1 := hid t1
                have T2 := hid t2
                have a7 := hid a7
                have cN := hid bI
                have cq := hid bu
                have f0 := aaq t1 0
                have f1 := aaq t1 1
                have g0 := aaq t2 0
                have g1 := aaq t2 1
                obtain ⟨b0, b1⟩ := (aad (cs := [_, _]) t1).get2
                obtain ⟨d0, d1⟩ := (aad (cs := [_, _]) t2).get2
                rw [Aab] at b1 d1
                have cm : UO < w9.heap.size := aac b0
                have cB : UX < w9.heap.size := aac d0
                have bd : ¬ UX = UO := fun e => aF e.symm
                have bB : UO < W2.heap.size ∧ UX < W2.heap.size := by have := aS.out; have := an.out.size; omega
                have cx := hid bB
                clear aB bI bu t1 t2 bB)
   have ad:=aeR (.slice ag gs.length ah) (.slice ai fs.length ae) (.int .i64 0) (.int .i64 0) (aad (cs:=[_,_]) T1.out) (aad (cs:=[_,_]) T2.out) aF;have ax:Below w.heap.size w (adN w9 UO UX (.slice ag gs.length ah) (.slice ai fs.length ae) (.int .i64 0) (.int .i64 0)):=ad5 a7.out aK.out.1 aK.out.2;have hh:∀b,b≠UO->b≠UX->(adN w9 UO UX (.slice ag gs.length ah) (.slice ai fs.length ae) (.int .i64 0) (.int .i64 0)).heap[b]?=w9.heap[b]?:=fun b h1 h2=>akn h1 h2;have bH:(adN w9 UO UX (.slice ag gs.length ah) (.slice ai fs.length ae) (.int .i64 0) (.int .i64 0)).heap.size=w9.heap.size:=by simp [adN,World.setCell]
   have aH:∀b,iv W2.heap.size w9.heap.size b->b≠UO∧b≠UX:=fun b hb=>by have:=hb.1;have:=cx.out;omega
   refine bodyPost_ret (agZ rfl rfl rfl ad.1 ad.2) rfl (af.out _ _ ag ah ai ae ax rfl ?_ ?_)
   . exact cN.out.mono aar (fun b hb=>⟨by have:=hb.1;omega,Nat.lt_of_lt_of_eq hb.2 bH.symm⟩) (acI fun b hb _=>hh b (aH b hb).1 (aH b hb).2)
   . exact cq.out.mono aaG (fun b hb=>⟨by have:=hb.1;omega,Nat.lt_of_lt_of_eq hb.2 bH.symm⟩) (acI fun b hb _=>hh b (aH b hb).1 (aH b hb).2)
 . have hq:((decide (c<0)||decide (0<c))||(decide (d<0)||decide (0<d)))=true:=by rw [Abe];simp;omega
   have af:Hid (∀e w',Below w.heap.size w w'->e = .returned (.tuple #[.agg #[.slice none 0 0,.slice none 0 0],.agg #[.int .i64 c,.int .i64 d]])->ajE gs fs w e w'):=fun e w' h1 h2=>by
    refine⟨h1,fun _=>?_,fun h=>?_⟩
    . rw [al.out];exact h2
    . rw [al.out] at h;exact absurd h hc0
   have s1:=S1.out;have s2:=S2.out;have f0:=aaq s1 0;have f1:=aaq s1 1;have g0:=aaq s2 0;have g1:=aaq s2 1;obtain⟨b0,b1⟩:=(aad (cs:=[_,_]) s1).get2;obtain⟨d0,d1⟩:=(aad (cs:=[_,_]) s2).get2;rw [Aab] at b1 d1;have cm:UO<W2.heap.size:=aac b0;have cB:UX<W2.heap.size:=aac d0;obtain⟨aY,dv,dC,dO⟩:=ca.out;have bd:¬UX=UO:=by omega
   clear hc0 s1 s2;go_wp2_with fail;go_region;have ad:=aeR (.slice none 0 0) (.slice none 0 0) (.int .i64 c) (.int .i64 d) (aad (cs:=[_,_]) S1.out) (aad (cs:=[_,_]) S2.out) aF;have ax:Below w.heap.size w (adN W2 UO UX (.slice none 0 0) (.slice none 0 0) (.int .i64 c) (.int .i64 d)):=ad5 ar.out aK.out.1 aK.out.2;obtain⟨W6,aj⟩:∃W6,W6=adN W2 UO UX (.slice none 0 0) (.slice none 0 0) (.int .i64 c) (.int .i64 d):=⟨_,rfl⟩
   rw [<-aj] at ad ax;unfold adN at aj;rw [<-aj];have aw:=hid ad;have ck:=hid ax;clear aj ad ax;go_wp2_with fail;refine bodyPost_ret (agZ rfl rfl rfl (fun j v hj=>aw.out.1 j v hj) (fun j v hj=>aw.out.2 j v hj)) rfl (af.out _ _ ck.out.drew rfl)
end
section
open Go.RowKit
theorem akG {u:adL}(h:aav u=(0,0)):∀(k:Nat) (f:aaz),u.funcs[k]?=some f->aa6 f.blocks<=1048576∧f.blocks.length<=1048576:=by
 intro k f hf;obtain⟨hh,-⟩:=adU h hf;obtain⟨-,-,-,-,-,-,-,dY,hm⟩:=adp hh;exact⟨by omega,by omega⟩
theorem apb {S : Nat -> Prop} (ga : Option Addr) (gc : Nat) (fa : Option Addr) (n fc : Nat) (gs : List aaF) (fs : List aaz) (w : World)
 (hg:SlAt S w 3 aaO (.slice ga gs.length gc) gs) (hf:SlAt S w 4 abD (.slice fa n fc) fs) (hn:fs.length=n) (hw:ae1 w) (hS:∀b,S b->b<w.heap.size) (bl:aav ⟨gs,fs⟩=(0,0)) :
 Calls Tryz.prog 10 #[.agg #[.slice ga gs.length gc,.slice fa n fc]] w fun e w'=>∃ag ah ai ae,e = .returned (.tuple #[.agg #[.slice ag gs.length ah,.slice ai n ae],.agg #[.int .i64 0,.int .i64 0]]) ∧
  SlAt (iv w.heap.size w'.heap.size) w' 3 aaO (.slice ag gs.length ah) gs∧SlAt (iv w.heap.size w'.heap.size) w' 4 abD (.slice ai n ae) (fs.map abx)∧Below w.heap.size w w':=by
 subst hn;obtain⟨aZ,bG,-⟩:=acm (u:=⟨gs,fs⟩) (by rw [bl]);dsimp only at aZ bG;refine (aqW (S:=S) ga gc fa fc gs fs w hg hf hw hS (by omega) (by omega) (akG bl)).mono fun e w' hp=>?_;obtain⟨ag,ah,ai,ae,h1,h2,h3⟩:=hp.2.2 (by rw [bl]);exact⟨ag,ah,ai,ae,h1,h2,h3,hp.1⟩
end
section
open Go.RowKit
def memFs(gs:List aaF)(fs:List aaz):List aaz:=akB (ag3 (wordsUp gs gs.length)) fs
def alL(gs:List aaF)(fs:List aaz)(w:World)(e:Ending)(w':World):Prop :=
 Below w.heap.size w w' ∧
 ((agT ⟨gs,fs⟩).1≠0->e = .returned (.tuple #[.agg #[.slice none 0 0,.slice none 0 0],.agg #[.int .i64 (agT ⟨gs,fs⟩).1,.int .i64 (agT ⟨gs,fs⟩).2]])) ∧
 ((agT ⟨gs, fs⟩).1 = 0 -> ∃ ga gc fa fc, e = .returned (.tuple #[.agg #[.slice ga gs.length gc, .slice fa fs.length fc], .agg #[.int .i64 0, .int .i64 0]]) ∧
    SlAt (iv w.heap.size w'.heap.size) w' 3 aaO (.slice ga gs.length gc) gs ∧ SlAt (iv w.heap.size w'.heap.size) w' 4 abD (.slice fa fs.length fc) (memFs gs fs))
section
variable (g : List aaJ -> List aaJ) {fs : List aaz} {k b : Nat} {f : aaz} {x : DBlock}
def fsP(fs:List aaz)(k b:Nat)(f:aaz):List aaz:=(upF (acs g) fs k).set k { f with blocks:=upF (acp g) f.blocks b }
theorem aqX(h:fs[k]?=some f):upF (acs g) fs k=fsP g fs k 0 f:=by
 unfold fsP;rw [amQ];exact (abV (apH _ h)).symm
theorem aty(h:fs[k]?=some f):(fsP g fs k b f)[k]?=some { f with blocks:=upF (acp g) f.blocks b }:=Aa6 (by rw [apI];exact (Aad.1 h).1)
theorem apc(h:fs[k]?=some f)(hb:f.blocks.length<=b):fsP g fs k b f=upF (acs g) fs (k+1):=by
 unfold fsP;rw [apJ _ hb];exact apG (acs g) h
theorem aqY(hx:f.blocks[b]?=some x):(fsP g fs k b f).set k { ({ f with blocks:=upF (acp g) f.blocks b }:aaz) with blocks:=(upF (acp g) f.blocks b).set b { x with list:=g x.list } }=fsP g fs k (b+1) f:=by
 unfold fsP;rw [Aaz,<-apG (acp g) hx];rfl
variable {S:Nat->Prop}{v:Value}
theorem atz{α:Type}{w:World}{sz:Nat}{r:Rp α}{l:List α}(hs:0<sz)(hr:∀cs x,r S w cs x->r (fun b=>S b∧b<w.heap.size) w cs x)(h:SlAt S w sz r v l):SlAt (fun b=>S b∧b<w.heap.size) w sz r v l:=by
 obtain⟨ao,c',hv,hc,hm,hx⟩:=h;refine⟨ao,c',hv,hc,hm,fun aF=>?_⟩;obtain⟨b,off,e,hS,hi⟩:=hx aF;refine⟨b,off,e,⟨hS,?_⟩,fun i x hx=>?_⟩
 . cases l with
   | nil=>exact absurd rfl aF
   | cons y l =>
     obtain⟨cs,-,hl,b7⟩:=hi 0 y rfl;cases cs with
     | nil=>simp at hl;omega
     | cons u us=>exact aac (b7 0 u rfl)
 . obtain⟨cs,h1,h2,h3⟩:=hi i x hx
   exact⟨cs,hr cs x h1,h2,h3⟩
theorem arN{w:World}{l:List aaJ}(h:SlAt S w 8 acb v l):SlAt (fun b=>S b∧b<w.heap.size) w 8 acb v l :=
 atz (by decide) (fun _ _ ⟨v,e,ha,hn⟩=>⟨v,e,atz (by decide) (fun _ _ h=>h) ha,hn⟩) h
theorem apd{W w':World}{base b':Nat}{fs:List aaz}{B:Nat->Value}{lv:Value}{L:List aaJ}{xs:List (List Value)}(h:ahf W base v fs B)(hn:ab1 w' b' S lv L xs)(hS:∀c,S c->WkS base v fs.length B c)(eb:W.heap.size<=b')(hA:base<=W.heap.size):SlAt (WkS base v fs.length B) w' 8 acb lv L:=by
 refine hn.read hS (fun c hc=>?_);exact⟨by omega,fun e=>by have:=(h.row.lt c e).2;omega,fun k hk e=>by have:=(h.lt hk e).2;omega⟩
theorem asC:(fsP g fs k b f).length=fs.length:=by unfold fsP;rw [Aat,apI]
end
theorem ape {S : Nat -> Prop} (ga : Option Addr) (gc : Nat) (fa : Option Addr) (fc : Nat) (gs : List aaF) (fs : List aaz) (w : World)
 (hg:SlAt S w 3 aaO (.slice ga gs.length gc) gs) (hf:SlAt S w 4 abD (.slice fa fs.length fc) fs) (hw:ae1 w) (hS:∀b,S b->b<w.heap.size)
 (aZ:gs.length<=1048576) (bG:fs.length<=1048576) (aO:∀(k:Nat) (f:aaz),fs[k]?=some f->aa6 f.blocks<=1048576∧f.blocks.length<=1048576) (bA:ajx ⟨gs,fs⟩) :
 Calls Tryz.prog 7 #[.agg #[.slice ga gs.length gc,.slice fa fs.length fc]] w fun e w'=>alL gs fs w e w':=by
 obtain⟨c,hc⟩:∃c,c=(agT ⟨gs,fs⟩).1:=⟨_,rfl⟩
 obtain⟨d,hd⟩:∃d,d=(agT ⟨gs,fs⟩).2:=⟨_,rfl⟩
 have al:Hid (agT ⟨gs,fs⟩=(c,d)):=by show _=_;rw [hc,hd]
 have aG:Hid (∀V,Below w.heap.size w V->Calls Tryz.prog 8 #[.agg #[.slice ga gs.length gc,.slice fa fs.length fc]] V fun e w'=>e = .returned (.agg #[.int .i64 c,.int .i64 d])∧Below V.heap.size V w'):=fun V hV=>by
  have h:=akY (S:=S) ga gc fa fc gs fs V (hg.later aar hV) (hf.later aaG hV) (ae1.below hw hV) (fun b hb=>Aay (hS b hb) hV.size) aZ bG aO;rw [<-hc,<-hd] at h;exact h
 have Hg:=hid hg;have Hf:=hid hf;have ds:=hid hw;have HS:=hid hS;have bR:=hid bA;clear hg hf hw aO hc hd hS bA;go_enter Tryz.func7,Tryz.ntmps7;go_upto_region 1 with (fail)
 obtain⟨W,hW⟩:∃W,W=((w.alloc (.cells #[.slice ga gs.length gc,.slice fa fs.length fc] 25)).alloc (.cells #[.slice none 0 0,.slice none 0 0] 25)).alloc (.cells #[.int .i64 0,.int .i64 0] 27):=⟨_,rfl⟩
 obtain⟨bh,h0,h1,h2⟩:=aff w (.cells #[.slice ga gs.length gc,.slice fa fs.length fc] 25) (.cells #[.slice none 0 0,.slice none 0 0] 25) (.cells #[.int .i64 0,.int .i64 0] 27);rw [<-hW] at bh h0 h1 h2 ⊢;have aN:Below w.heap.size w W:=by rw [hW];exact bE
 obtain⟨UB,a6⟩:∃UB,UB=w.heap.size:=⟨_,rfl⟩
 obtain⟨UO,bf⟩:∃UO,UO=w.heap.size+1:=⟨_,rfl⟩
 obtain⟨UX,a8⟩:∃UX,UX=w.heap.size+1+1:=⟨_,rfl⟩
 rw [<-a8] at h2 ⊢;rw [<-bf] at h1 ⊢;rw [<-a6] at h0 ⊢;have aS:Hid (UB=w.heap.size∧UO=w.heap.size+1∧UX=w.heap.size+2∧W.heap.size=w.heap.size+3):=⟨a6,bf,a8,bh⟩
 have aU:Hid (∀V,Below W.heap.size W V->Below w.heap.size w V∧V.heap[UB]?=some (.cells #[.slice ga gs.length gc,.slice fa fs.length fc] 25 (0,0))∧V.heap[UO]?=some (.cells #[.slice none 0 0,.slice none 0 0] 25 (0,0))∧V.heap[UX]?=some (.cells #[.int .i64 0,.int .i64 0] 27 (0,0))) :=
  fun V hV=>⟨aN.trans (hV.mono aN.size),(hV.block UB (by omega)).trans h0,(hV.block UO (by omega)).trans h1,(hV.block UX (by omega)).trans h2⟩
 have cK:=hid aN;obtain⟨c0,c1⟩:=(aad (cs:=[_,_]) h0).get2;rw [Aab] at c1;have zB:UB<W.heap.size:=by omega
 clear hW h0 h1 h2 aN a6 bf a8 bh;go_upto_region 2 with (go_at_call 8;refine (aG.out W cK.out).mono ?_;rintro e w1 ⟨rfl,bU⟩;have bj:=hid bU;clear bU)
 obtain⟨W2,aD⟩:∃W2,W2=w1.alloc (.cells #[.int .i64 c,.int .i64 d] 27):=⟨_,rfl⟩
 have bN:Below w1.heap.size w1 W2:=by rw [aD];exact bE
 have an:Hid (Below W.heap.size W W2):=bj.out.trans (bN.mono bj.out.size);have x0:W2.cell? ⟨w1.heap.size,0,none⟩=some (.int .i64 c):=by rw [aD];simp
 have x1:W2.cell? ⟨w1.heap.size,1,none⟩=some (.int .i64 d):=by rw [aD];simp
 rw [<-aD];obtain⟨XB,bO⟩:∃XB,XB=w1.heap.size:=⟨_,rfl⟩
 rw [<-bO] at x0 x1 ⊢;obtain⟨ar,s0,s1,s2⟩:=aU.out W2 an.out;have ar:=hid ar;have S1:=hid s1;have S2:=hid s2;obtain⟨a0,a1⟩:=(aad (cs:=[_,_]) s0).get2;rw [Aab] at a1;have dj:UB<W2.heap.size:=aac a0;have cW:XB<W2.heap.size:=aac x0;have aF:¬UO=UX:=by have:=aS.out;omega
 have bQ:w.heap.size<=UO∧w.heap.size<=UX:=by have:=aS.out;omega
 have aK:=hid bQ;have aY:¬XB=UO∧¬UO=XB∧¬XB=UX∧¬UX=XB:=by have:=aS.out;have:=bj.out.size;omega
 have ca:=hid aY;clear aD bN bO s0 s1 s2 c0 c1 zB bQ aY
 by_cases hc0:c=0
 . subst hc0
   have cJ:d=0:=by
    have h:=akZ (u:=⟨gs,fs⟩) (by rw [al.out]);rw [al.out] at h;exact congrArg Prod.snd h
   subst cJ;have af:Hid (∀e w' ga gc fa fc,Below w.heap.size w w'->e = .returned (.tuple #[.agg #[.slice ga gs.length gc,.slice fa fs.length fc],.agg #[.int .i64 0,.int .i64 0]])->SlAt (iv w.heap.size w'.heap.size) w' 3 aaO (.slice ga gs.length gc) gs->SlAt (iv w.heap.size w'.heap.size) w' 4 abD (.slice fa fs.length fc) (memFs gs fs)->alL gs fs w e w'):=fun e w' ga gc fa fc h1 h2 h3 h4 =>
    ⟨h1,fun h=>absurd (by rw [al.out]) h,fun _=>⟨ga,gc,fa,fc,h2,h3,h4⟩⟩
   have bl:aav ⟨gs,fs⟩=(0,0):=(alK al.out).1;have dG:=hid (apb (S:=S) ga gc fa fs.length fc gs fs W2 (Hg.out.later aar ar.out) (Hf.out.later aaG ar.out) rfl (ae1.below ds.out ar.out) (fun b hb=>Aay (HS.out b hb) ar.out.size) bl);have cT:=hid bl;clear bl;go_upto_region 5 with
    (go_at_call 10; refine dG.out.mono ?_; rintro e w3 ⟨ta, tc, ua, uc, rfl, dc, c8, cj⟩
     obtain ⟨c3, t0, t1, t2⟩ := aU.out w3 (an.out.trans (cj.mono an.out.size))
     have c3 := hid c3
     have dD := hid dc
     have dx := hid c8
     have cr := hid cj
     have f0 := aaq t0 0
     have f1 := aaq t0 1
     obtain ⟨b0, b1⟩ := (aad (cs := [_, _]) t0).get2
     rw [Aab] at b1
     have T0 := hid t0
     have T1 := hid t1
     have T2 := hid t2
     have dH : UB < w3.heap.size := aac b0
     clear cj dc c8 t0 t1 t2)
   go_upto_region 7 with fail;obtain⟨W4,bx⟩:∃V,V=(w3.alloc (.cells #[.slice ta gs.length tc,.slice ua fs.length uc] 25)).alloc (.cells #[.int .i64 0,.int .i64 0] 27):=⟨_,rfl⟩
   obtain⟨PB,cD⟩:∃PB,PB=w3.heap.size:=⟨_,rfl⟩
   have aI:Below w3.heap.size w3 W4:=by rw [bx];exact bE
   have cM:W4.heap[PB]?=some (.cells #[.slice ta gs.length tc,.slice ua fs.length uc] 25 (0,0)):=by
    rw [bx,cD,Below.heap_alloc _ _ _ (by simp)];exact heap_alloc_new _ _
   have cn:W4.heap.size=w3.heap.size+2:=by rw [bx];simp
   rw [<-bx,<-cD];have dU:=hid (dD.out.later aar aI);have cU:=hid (dx.out.later aaG aI);have bk:Hid (Below W.heap.size W W4):=(an.out.trans (cr.out.mono an.out.size)).trans (aI.mono (an.out.trans (cr.out.mono an.out.size)).size);obtain⟨T,hT⟩:∃T,T=fs.map abx:=⟨_,rfl⟩
   have b8:T.length=fs.length:=by rw [hT];simp
   have aE:aav ⟨gs,T⟩=(0,0):=by rw [hT];exact afl (u:=⟨gs,fs⟩) cT.out bR.out
   have aT:ajx ⟨gs,T⟩:=by rw [hT];exact ahN (u:=⟨gs,fs⟩) cT.out bR.out
   rw [<-hT] at cU;obtain⟨aC,bX,-,-⟩:=agM (u:=⟨gs,T⟩) (by rw [aE]);obtain⟨bD,bK⟩:=ab9 (u:=⟨gs,T⟩) aE;have cv:T.length<=10:=(acm (u:=⟨gs,T⟩) (by rw [aE])).2.1;have hc:=aki (S:=iv W2.heap.size w3.heap.size) ta ua tc uc gs T W4 dU.out (by rw [b8];exact cU.out) (by dsimp only at aC;omega) (by omega) bD bK;rw [b8] at hc;have Hc:=hid hc;have HT:=hid hT;have b2:=hid b8;have az:=hid aE;have ak:=hid aT;have aP:=hid bX;have dL:=hid aC;have cy:Hid (W.heap.size<=PB∧PB<W4.heap.size):=by
    have h1:=an.out.size;have h2:=cr.out.size;exact⟨by omega,by omega⟩
   obtain⟨p0,p1⟩:=(aad (cs:=[_,_]) cM).get2;rw [Aab] at p1;have zP:PB<W4.heap.size:=aac p0;have dI:=hid cM;clear bx cD aI cM cn hc hT b8 aE aT bX aC bD bK cv T0 T1 T2 b0 b1 f0 f1 dH x0 x1 a0 a1 dj cW;go_upto_region 8 with
    (go_at_call 15; refine Hc.out.mono ?_; rintro e w5 ⟨go, ah, fo, ae, A, V, rfl, cX, dm, br, c7, cF⟩
     have HA := hid (And.intro cX dm)
     have du := hid br
     have cC := hid c7
     have dq := hid cF
     have bq := (cF.block PB zP).trans dI.out
     have dR := hid bq
     have q0 := aaq bq 0
     have q1 := aaq bq 1
     obtain ⟨p0, p1⟩ := (aad (cs := [_, _]) bq).get2
     rw [Aab] at p1
     have zP : PB < w5.heap.size := aac p0
     clear cX dm br c7 cF bq)
   obtain⟨W6,aj⟩:∃V,V=(w5.setCell ⟨PB,0,none⟩ (.slice go gs.length ah)).setCell ⟨PB,1,none⟩ (.slice fo fs.length ae):=⟨_,rfl⟩
   have bw:Kp (fun b=>b≠PB) w5 W6:=by rw [aj];exact aaD (aaQ w5 PB 0 _) 1 _
   have c9:W6.heap[PB]?=some (.cells #[.slice go gs.length ah,.slice fo fs.length ae] 25 (0,0)):=by
    rw [aj];exact aak (i:=1) (aak (i:=0) dR.out _) _
   rw [<-aj];have hA:=HA.out;have dB:=cy.out;have cY:adH W6 A (.slice fo fs.length ae) T V:=cC.out.kp bw (fun c hc e=>by have:=(cC.out.lt.1 c hc).1;omega) (fun k f hf p hp c hc e=>by have:=(cC.out.lt.2 k f hf p hp c hc).1;omega)
   have aM : ahf W6 A (.slice fo fs.length ae) T (fun k => V k .blks) := ahf.of_uni cY (fun f hf => by
    obtain ⟨i, hi, rfl⟩ := Aav hf
    obtain ⟨-, -, p1, p2, p3, p4⟩ := alE (u := ⟨gs, T⟩) az.out ak.out (Aaa hi)
    exact ⟨ak.out _ hf, ⟨by omega, by omega⟩, ⟨by omega, by omega⟩⟩)
   obtain⟨Bv,dg⟩:∃Bv:Nat->Value,Bv=fun k=>V k .blks:=⟨_,rfl⟩
   rw [<-dg] at aM;have bS:SlAt (fun b=>W4.heap.size<=b∧b<A) W6 3 aaO (.slice go gs.length ah) gs:=(du.out.toSl aar (by decide)).mono aar (fun b hb=>⟨by have:=hb.1;omega,hb.2⟩) (bw.stays fun b hb e=>by have:=hb.1;omega);have ay:Hid (Below W.heap.size W W6):=(bk.out.trans (dq.out.mono bk.out.size)).trans (bw.below fun b hb=>⟨by have:=bk.out.size;have:=dq.out.size;omega,by omega⟩);have bP:0<T.length:=ai9 (u:=⟨gs,T⟩) az.out;obtain⟨FB,rfl⟩:∃FB,fo=some ⟨FB,0,none⟩:=by
    obtain⟨g,c',hv,-⟩:=aM.row.at (i:=0) (by rw [Abr,Aaa bP];rfl) (by decide)
    exact⟨g,by injection hv⟩
   have cQ:=hid aM;have cL:=hid bS;have dP:=hid c9;obtain⟨-,s0,-,-⟩:=aU.out W6 ay.out;obtain⟨u0,u1⟩:=(aad (cs:=[_,_]) s0).get2;rw [Aab] at u1;have zU:UB<W6.heap.size:=aac u0;have bY:Hid (W4.heap.size+3<=A∧A<=W6.heap.size∧PB<A∧W.heap.size<=PB):=⟨hA.1,by have:=bw.size;omega,by omega,by omega⟩
   clear aj bw c9 hA dB cY aM dg bS bP s0 p0 p1 q0 q1 zP;go_wp2_with fail;obtain⟨words,aA⟩:∃words,words=wordsUp gs gs.length:=⟨_,rfl⟩
   have au:=hid aA;clear aA;go_loopw [7,35] (fun s7 s35 wr=>∃k:Nat,k<=gs.length∧s7 = .int .i64 (wordsUp gs k)∧s35 = .int .i64 (k:Int)∧Below W6.heap.size W6 wr) (fun _ s35 _=>gs.length - (intOf s35).toNat)
   case atStart=>exact⟨0,Aaj _,rfl,rfl,Below.refl _ _⟩
   case round =>
    obtain⟨k,hk,rfl,rfl,aL⟩:=hrel;obtain⟨W7,dw⟩:∃W7:World,W7=wr:=⟨_,rfl⟩
    subst dw;have cA:Below w.heap.size w W7:=(aU.out W7 (ay.out.trans (aL.mono ay.out.size))).1;have dM:=ajd (gs:=gs) (fun g hg=>⟨(aP.out g hg).1,(aP.out g hg).2.1⟩) k hk;have aZ:gs.length<=10:=dL.out
    by_cases hkl:k<gs.length
    . obtain⟨b,off,ia,ic,dE,b7,-,-⟩:=ahz (Hg.out.later aar cA) hkl
      subst dE;obtain⟨c0,c1,c2⟩:=b7.get3;have zb:b<W7.heap.size:=aac c0;have ea:=(aP.out _ (Aaq hkl)).1;have dW:=(aP.out _ (Aaq hkl)).2.1;have c6:=hid aL;clear b7 aL cA;go_wp2_with fail;go_roundw
      case rel=>exact⟨k+1,by omega,by rw [ab7 hkl],by go_num,c6.out.trans (Below.mono (show Below W7.heap.size W7 (W7.alloc (.cells #[.string gs[k].name,.int .i64 gs[k].size,.slice ia gs[k].init.length ic] 52)) from bE) c6.out.size)⟩
      case measure=>simp [intOf];omega
    . have bn:k=gs.length:=by omega
      subst bn;rw [<-au.out];have cE:=(aL.block PB (by have:=bY.out;omega)).trans dP.out;have bp:=cQ.out.later aL;have bF:=hid (ay.out.trans (aL.mono ay.out.size));have aV:Hid (W4.heap.size+3<=A∧A<=W7.heap.size∧PB<A∧W.heap.size<=PB):=⟨bY.out.1,by have:=bY.out;have:=aL.size;omega,bY.out.2.2⟩
      have cI:=hid (cL.out.later aar aL);have cO:=hid bp;have cV:=hid cE;obtain⟨p0,p1⟩:=(aad (cs:=[_,_]) cE).get2;rw [Aab] at p1;have zP:PB<W7.heap.size:=aac p0;clear aL cA dM aZ hkl hk cE bp u0 u1 zU;go_wp2_with fail;clear p0 p1 zP;go_loopw [47] (fun s47 wr=>∃k:Nat,k<=fs.length∧s47 = .int .i64 (k:Int)∧ahf wr A (.slice (some ⟨FB,0,none⟩) fs.length ae) (upF (acs (ag3 words)) T k) Bv∧Kp (fun b=>b<A) W7 wr) (fun s47 _=>fs.length - (intOf s47).toNat)
      case atStart=>exact⟨0,Aaj _,rfl,by rw [amQ];exact cO.out,Kp.refl _ _⟩
      case round =>
       obtain⟨wo,be⟩:∃wo:World,wo=wr:=⟨_,rfl⟩
       subst be;obtain⟨k,hk,rfl,hd,aq⟩:=hrel;have bg:=(aq.block PB (by have:=aV.out;omega) (by have:=aV.out;omega)).trans cV.out;obtain⟨p0,p1⟩:=(aad (cs:=[_,_]) bg).get2;rw [Aab] at p1;have zP:PB<wo.heap.size:=aac p0
       by_cases hkl:k<fs.length
       . have dt:k<T.length:=by rw [b2.out];exact hkl
         obtain⟨f,hf⟩:∃f,T[k]?=some f:=⟨_,Aaa dt⟩
         obtain⟨cz,-,-,-,-,-⟩:=alE (u:=⟨gs,T⟩) az.out ak.out hf;have cu:(upF (acs (ag3 words)) T k)[k]?=some f:=apH _ hf;have aW:=(hd.funcCell cu rfl).1;obtain⟨x0,de⟩:∃x,f.blocks[0]?=some x:=⟨_,Aaa cz.tok.pos⟩
         obtain⟨h0,cb,-,-,b5,-⟩:=hd.listCell cu de;rw [b5] at aW;obtain⟨nb,bZ⟩:∃nb,nb=f.blocks.length:=⟨_,rfl⟩
         have dz:nb<=1048576:=by rw [bZ];exact cz.ok.len
         rw [<-bZ] at aW b5;have dr:ahf wo A (.slice (some ⟨FB,0,none⟩) fs.length ae) (fsP (ag3 words) T k 0 f) Bv:=by rw [<-aqX _ hf];exact hd
         have zF:FB<wo.heap.size:=aac aW;have dy:=hid dr;have Hf:=hid hf;have dS:=hid ((ab9 (u:=⟨gs,T⟩) az.out).2 f (Aae hf));have di:=hid bZ;have b4:=hid b5;have dN:=hid aq;clear hd dr hf cz cu de b5 bZ aq bg dt;go_wp2_with fail;clear p0 p1 zP aW zF;go_loopw [57] (fun s57 wr=>∃b:Nat,b<=nb∧s57 = .int .i64 (b:Int)∧ahf wr A (.slice (some ⟨FB,0,none⟩) fs.length ae) (fsP (ag3 words) T k b f) Bv∧Kp (fun b=>b<A) W7 wr) (fun s57 _=>nb - (intOf s57).toNat)
         case atStart=>exact⟨0,Aaj _,rfl,dy.out,dN.out⟩
         case round =>
          obtain⟨wp,dQ⟩:∃wp:World,wp=wr:=⟨_,rfl⟩
          subst dQ;obtain⟨b,hb,rfl,hd,aq⟩:=hrel;have bg:=(aq.block PB (by have:=aV.out;omega) (by have:=aV.out;omega)).trans cV.out;obtain⟨p0,p1⟩:=(aad (cs:=[_,_]) bg).get2;rw [Aab] at p1;have zP:PB<wp.heap.size:=aac p0
          by_cases hbl:b<nb
          . obtain⟨x,hx⟩:∃x,f.blocks[b]?=some x:=⟨_,Aaa (by rw [<-di.out];exact hbl)⟩
            have aR:=aty (ag3 words) (b:=b) Hf.out;have aX:(upF (acp (ag3 words)) f.blocks b)[b]?=some x:=apH _ hx;have aW:=(hd.funcCell aR rfl).1;rw [b4.out] at aW;obtain⟨g1,c1,la,lc,cP,l0,fl,ct,-,-⟩:=hd.listCell aR aX;rw [b4.out] at cP;have cc:h0=g1:=by injection cP with e1;injection e1 with e2;injection e2
            subst cc;have cR:x.list.length<=1048576:=(dS.out.each x (Aae hx)).list;have zF:FB<wp.heap.size:=aac aW;have zL:h0<wp.heap.size:=aac l0;obtain⟨m,hm⟩:∃m,m=x.list.length:=⟨_,rfl⟩
            rw [<-hm] at cR l0 ct;have c5:=akE la lc x.list m wp (arN ct) hm.symm cR (fun c hc=>hc.2);have HK:=hid c5;have Hd:=hid hd;have cH:=hid aR;have cp:=hid aX;have Hx:=hid hx;have Hm:=hid hm;have av:=hid aq;clear hd aR aX hx ct cP c5 hm aq bg
            go_wp2_with (first
             | (go_at_call 17; refine HK.out.mono ?_; rintro e w8 ⟨ka, km, kc, dZ, rfl, da, bn, b3⟩
                have db := apd Hd.out bn (fun c hc => hc.1) (Nat.le_succ _) (by have := aV.out; have := av.out.size; omega)
                have bt : (akw x.list).length = km := by rw [da]; exact bn.len.symm
                have dh := ajD ka km kc (akw x.list) words w8 (arN db) bt (by have h9 := (ai2 x.list x.list.length (Aac _)).2.2; rw [Aa1] at h9; have h8 : (akw x.list).length <= x.list.length := h9; have := Hm.out; omega) (fun c hc => hc.2)
                have HU := hid dh
                have bo := hid b3
                have l0 := aab l0 b3
                have fl := (b3.frozen (p := ⟨h0, b * 6 + 1, none⟩) zL).trans fl
                have zL : h0 < w8.heap.size := aac l0
                clear da bn db bt dh b3)
             | (go_at_call 16; refine HU.out.mono ?_; rintro e w9 ⟨va, vm, vc, dX, rfl, dT, c4, aB⟩
                have dk := Hd.out.later (bo.out.trans (aB.mono bo.out.size))
                have dn := apd (Hd.out.later bo.out) c4 (fun c hc => hc.1) (by omega) (by have := aV.out; have := av.out.size; have := bo.out.size; omega)
                have dF := hid dn
                have dK := hid dk
                have dJ := hid aB
                have l0 := aab l0 aB
                have fl := (aB.frozen (p := ⟨h0, b * 6 + 1, none⟩) zL).trans fl
                have zL : h0 < w9.heap.size := aac l0
                clear dT c4 dk dn aB))
            obtain⟨cS,aJ⟩:∃V,V=w9.setCell ⟨h0,b * 6+1,none⟩ (.slice va vm vc):=⟨_,rfl⟩
            have df:ahf cS A (.slice (some ⟨FB,0,none⟩) fs.length ae) (fsP (ag3 words) T k (b+1) f) Bv:=by
             rw [aJ,<-aqY (ag3 words) Hx.out];exact dK.out.set cH.out cp.out dF.out b4.out
            have bV:Kp (fun b=>b<A) W7 cS:=by
             have cf:=av.out.trans (Kp.of (bo.out.trans (dJ.out.mono bo.out.size)));rw [aJ];exact cf.set (by have:=(Hd.out.lt (k:=k) (by rw [asC];rw [b2.out];exact hkl) (c:=h0) (by rw [b4.out];rfl)).1;dsimp only;omega) _
            have dA:=hid df;have cg:=hid bV;rw [<-aJ];clear aJ df bV;go_roundw
            case rel=>exact⟨b+1,by omega,by go_num,dA.out,cg.out⟩
            case measure=>simp [intOf];omega
          . have dd:ahf wp A (.slice (some ⟨FB,0,none⟩) fs.length ae) (upF (acs (ag3 words)) T (k+1)) Bv:=by
             rw [<-apc (ag3 words) Hf.out (b:=b) (by rw [<-di.out];omega)];exact hd
            have dV:=hid dd;have av:=hid aq;clear hd dd aq bg;go_wp2_with fail;go_roundw
            case rel=>exact⟨k+1,by omega,by go_num,dV.out,av.out⟩
            case measure=>simp [intOf];omega
       . have bn:k=fs.length:=by omega
         rw [apJ _ (by rw [b2.out];omega)] at hd;obtain⟨T2,bL⟩:∃T2,T2=T.map (acs (ag3 words)):=⟨_,rfl⟩
         rw [<-bL] at hd;have bT:aav ⟨gs,T2⟩=(0,0):=by rw [bL];exact ai1 (ajC words) az.out ak.out
         have bW:T2.length=fs.length:=by rw [bL,Aah];exact b2.out
         have bC:T2.map abx=memFs gs fs:=by
          unfold memFs akB;rw [bL,HT.out,au.out]
         have cZ:=hd.read;have bM:Below W.heap.size W wo:=bF.out.trans (aq.below fun b hb=>⟨by have:=bF.out.size;omega,by have:=aV.out;omega⟩);obtain⟨be,-,b9,b6⟩:=aU.out wo bM;have br:SlAt (fun b=>b<wo.heap.size) wo 3 aaO (.slice go gs.length ah) gs:=cI.out.mono aar (fun b hb=>by have:=aV.out;have:=aq.size;omega) (aq.stays fun b hb=>hb.2);have bm:=apb (S:=fun b=>b<wo.heap.size) go ah (some ⟨FB,0,none⟩) fs.length ae gs T2 wo br cZ bW (ae1.below ds.out be) (fun b hb=>hb) bT;rw [bC] at bm;have cw:=hid bm;have cG:Hid (∀V,Below wo.heap.size wo V->Below w.heap.size w V∧V.heap[UO]?=some (.cells #[.slice none 0 0,.slice none 0 0] 25 (0,0))∧V.heap[UX]?=some (.cells #[.int .i64 0,.int .i64 0] 27 (0,0))) :=
          fun V hV=>⟨be.trans (hV.mono be.size),(hV.block UO (Aag.1 b9).1).trans b9,(hV.block UX (Aag.1 b6).1).trans b6⟩
         have bB:UO<wo.heap.size∧UX<wo.heap.size:=⟨(Aag.1 b9).1,(Aag.1 b6).1⟩
         have cx:=hid bB;have zf:w.heap.size<=wo.heap.size:=be.size;clear hd bL bT bW bC cZ be b9 b6 bm bB br bM aq bg
         go_wp2_with
          (go_at_call 10; refine cw.out.mono ?_; rintro e aQ ⟨ag, bz, ai, bJ, rfl, bI, bu, aB⟩
           obtain ⟨a7, s1, s2⟩ := cG.out aQ aB
           have S1 := hid s1
           have S2 := hid s2
           have a7 := hid a7
           have cN := hid bI
           have cq := hid bu
           have f0 := aaq s1 0
           have f1 := aaq s1 1
           have g0 := aaq s2 0
           have g1 := aaq s2 1
           obtain ⟨b0, b1⟩ := (aad (cs := [_, _]) s1).get2
           obtain ⟨d0, d1⟩ := (aad (cs := [_, _]) s2).get2
           rw [Aab] at b1 d1
           have cm : UO < aQ.heap.size := aac b0
           have cB : UX < aQ.heap.size := aac d0
           have bd : ¬ UX = UO := fun e => aF e.symm
           clear aB bI bu s1 s2)
         have ad:=aeR (.slice ag gs.length bz) (.slice ai fs.length bJ) (.int .i64 0) (.int .i64 0) (aad (cs:=[_,_]) S1.out) (aad (cs:=[_,_]) S2.out) aF;have ax:Below w.heap.size w (adN aQ UO UX (.slice ag gs.length bz) (.slice ai fs.length bJ) (.int .i64 0) (.int .i64 0)):=ad5 a7.out aK.out.1 aK.out.2;have hh:∀b,b≠UO->b≠UX->(adN aQ UO UX (.slice ag gs.length bz) (.slice ai fs.length bJ) (.int .i64 0) (.int .i64 0)).heap[b]?=aQ.heap[b]?:=fun b h1 h2=>akn h1 h2;have bH:(adN aQ UO UX (.slice ag gs.length bz) (.slice ai fs.length bJ) (.int .i64 0) (.int .i64 0)).heap.size=aQ.heap.size:=by simp [adN,World.setCell]
         have aH:∀b,iv wo.heap.size aQ.heap.size b->b≠UO∧b≠UX:=fun b hb=>by have:=hb.1;have:=cx.out;omega
         refine bodyPost_ret (agZ rfl rfl rfl ad.1 ad.2) rfl (af.out _ _ ag bz ai bJ ax rfl ?_ ?_)
         . exact cN.out.mono aar (fun b hb=>⟨by have:=hb.1;omega,Nat.lt_of_lt_of_eq hb.2 bH.symm⟩) (acI fun b hb _=>hh b (aH b hb).1 (aH b hb).2)
         . exact cq.out.mono aaG (fun b hb=>⟨by have:=hb.1;omega,Nat.lt_of_lt_of_eq hb.2 bH.symm⟩) (acI fun b hb _=>hh b (aH b hb).1 (aH b hb).2)
 . have hq:((decide (c<0)||decide (0<c))||(decide (d<0)||decide (0<d)))=true:=by rw [Abe];simp;omega
   have af:Hid (∀e w',Below w.heap.size w w'->e = .returned (.tuple #[.agg #[.slice none 0 0,.slice none 0 0],.agg #[.int .i64 c,.int .i64 d]])->alL gs fs w e w'):=fun e w' h1 h2=>by
    refine⟨h1,fun _=>?_,fun h=>?_⟩
    . rw [al.out];exact h2
    . rw [al.out] at h;exact absurd h hc0
   have s1:=S1.out;have s2:=S2.out;have f0:=aaq s1 0;have f1:=aaq s1 1;have g0:=aaq s2 0;have g1:=aaq s2 1;obtain⟨b0,b1⟩:=(aad (cs:=[_,_]) s1).get2;obtain⟨d0,d1⟩:=(aad (cs:=[_,_]) s2).get2;rw [Aab] at b1 d1;have cm:UO<W2.heap.size:=aac b0;have cB:UX<W2.heap.size:=aac d0;obtain⟨aY,dv,dC,dO⟩:=ca.out;have bd:¬UX=UO:=by omega
   clear hc0 s1 s2;go_wp2_with fail;go_region;have ad:=aeR (.slice none 0 0) (.slice none 0 0) (.int .i64 c) (.int .i64 d) (aad (cs:=[_,_]) S1.out) (aad (cs:=[_,_]) S2.out) aF;have ax:Below w.heap.size w (adN W2 UO UX (.slice none 0 0) (.slice none 0 0) (.int .i64 c) (.int .i64 d)):=ad5 ar.out aK.out.1 aK.out.2;obtain⟨W6,aj⟩:∃W6,W6=adN W2 UO UX (.slice none 0 0) (.slice none 0 0) (.int .i64 c) (.int .i64 d):=⟨_,rfl⟩
   rw [<-aj] at ad ax;unfold adN at aj;rw [<-aj];have aw:=hid ad;have ck:=hid ax;clear aj ad ax;go_wp2_with fail;refine bodyPost_ret (agZ rfl rfl rfl (fun j v hj=>aw.out.1 j v hj) (fun j v hj=>aw.out.2 j v hj)) rfl (af.out _ _ ck.out.drew rfl)
end
section
open Go.RowKit
theorem apf(gs:List aaF)(fs:List aaz):(memFs gs fs).length=fs.length:=ao5 _ _
theorem alM {gs:List aaF}{fs:List aaz}(h:agT ⟨gs,fs⟩=(0,0))(hn:ajx ⟨gs,fs⟩):aav ⟨gs,memFs gs fs⟩=(0,0):=(alJ (ajC _) (alK h).1 hn).1
theorem asD {S : Nat -> Prop} (ga : Option Addr) (gc : Nat) (fa : Option Addr) (fc : Nat) (gs : List aaF) (fs : List aaz) (w : World)
 (hg:SlAt S w 3 aaO (.slice ga gs.length gc) gs) (hf:SlAt S w 4 abD (.slice fa fs.length fc) fs) (hw:ae1 w) (hS:∀b,S b->b<w.heap.size) (aO:ait gs fs) :
 Calls Tryz.prog 7 #[.agg #[.slice ga gs.length gc,.slice fa fs.length fc]] w fun e w1=>∃va vn vc wa wn wc c d,e = .returned (.tuple #[.agg #[.slice va vn vc,.slice wa wn wc],.agg #[.int .i64 c,.int .i64 d]])∧Below w.heap.size w w1 ∧
  ((c≠0∧vn=0∧wn=0∧agT ⟨gs,fs⟩=(c,d))∨(c=0∧d=0∧vn=gs.length∧wn=fs.length∧agT ⟨gs,fs⟩=(0,0)∧SlAt (iv w.heap.size w1.heap.size) w1 3 aaO (.slice va vn vc) gs∧SlAt (iv w.heap.size w1.heap.size) w1 4 abD (.slice wa wn wc) (memFs gs fs))):=by
 refine (ape (S:=S) ga gc fa fc gs fs w hg hf hw hS aO.globals aO.funcs aO.many (aln (gs:=gs) hf)).mono fun e w1 hp=>?_
 by_cases hc:(agT ⟨gs,fs⟩).1=0
 . obtain⟨ag,ah,ai,ae,h1,h2,h3⟩:=hp.2.2 hc
   exact⟨ag,_,ah,ai,_,ae,0,0,h1,hp.1,.inr ⟨rfl,rfl,rfl,rfl,akZ hc,h2,h3⟩⟩
 . exact⟨none,0,0,none,0,0,_,_,hp.2.1 hc,hp.1,.inl ⟨hc,rfl,rfl,rfl⟩⟩
end
section
open Go.RowKit Go.Sort
end
end Go.Proofs.YtpeejlpcikefcaaGreatDoor
