/- still.Do. -/
import Derived.Test.YtnkogppgacappaaGreatDoorPStUp
import Derived.Test.YtnkogppgacappaaGreatDoorPGlobs
import Derived.Test.YtnkogppgacappaaGreatDoorPPost
import Derived.Test.YtnkogppgacappaaGreatDoorPCopyRU
import Derived.Test.YtnkogppgacappaaGreatDoorPTidyOk
import Derived.StillTailTactics
namespace Go.Proofs.YtnkogppgacappaaGreatDoor
open Go.RowKit

def stillFs(gs:List DGlobal)(fs:List DFunc):List DFunc:=((fs.map tidyFn).map (doneFn (stillF (wordsL gs) (insU (fs.map tidyFn))) (wordsL gs))).map tidyFn
def StillPost(gs:List DGlobal)(fs:List DFunc)(w:World)(e:Ending)(w':World):Prop :=
 Below w.heap.size w w' ∧
 ((checkF ⟨gs,fs⟩).1≠0→e = .returned (.tuple #[.agg #[.slice none 0 0,.slice none 0 0],.agg #[.int .i64 (checkF ⟨gs,fs⟩).1,.int .i64 (checkF ⟨gs,fs⟩).2]])) ∧
 ((checkF ⟨gs, fs⟩).1 = 0 → ∃ ga gc fa fc, e = .returned (.tuple #[.agg #[.slice ga gs.length gc, .slice fa fs.length fc], .agg #[.int .i64 0, .int .i64 0]]) ∧
    SlAt (iv w.heap.size w'.heap.size) w' 3 rGlobal (.slice ga gs.length gc) gs ∧ SlAt (iv w.heap.size w'.heap.size) w' 4 rFunc (.slice fa fs.length fc) (stillFs gs fs))

theorem bools_lt {S:Nat→Prop}{w:World}{v:Value}{l:List Bool}(h:SlAt S w 1 rBool v l):SlAt (fun b=>S b∧b<w.heap.size) w 1 rBool v l:=by
 obtain⟨ao,c',hv,hc,hm,hx⟩:=h;refine⟨ao,c',hv,hc,hm,fun hne=>?_⟩;obtain⟨b,off,e,hS,hi⟩:=hx hne;refine⟨b,off,e,⟨hS,?_⟩,fun i x hx=>hi i x hx⟩;cases l with
 | nil=>exact absurd rfl hne
 | cons y l =>
   obtain⟨cs,hr,hl,hcs⟩:=hi 0 y rfl;have e2:cs=[.bool y]:=hr;subst e2;exact cell_lt hcs.get1
structure StBox (V:World)(TB MB LB:Nat)(go:Option Addr)(gn gc2:Nat)(fo:Option Addr)(n fc2:Nat)(ma:Option Addr)(mn mc:Nat)(la:Option Addr)(lc:Nat)(A:Nat)(mem:List Int)(ls:List Bool)(gs:List DGlobal):Prop where
 t0:V.cell? ⟨TB,0,none⟩=some (.slice go gn gc2)
 t1:V.cell? ⟨TB,1,none⟩=some (.slice fo n fc2)
 m0:V.cell? ⟨MB,0,none⟩=some (.slice ma mn mc)
 l0:V.cell? ⟨LB,0,none⟩=some (.slice la mn lc)
 mem:SlAt (fun b=>b<A) V 1 rInt (.slice ma mn mc) mem
 ls:SlAt (fun b=>b<A) V 1 rBool (.slice la mn lc) ls
 gs:SlAt (fun b=>b<A) V 3 rGlobal (.slice go gn gc2) gs
theorem StBox.kp {V W:World}{TB MB LB:Nat}{go:Option Addr}{gn gc2:Nat}{fo:Option Addr}{n fc2:Nat}{ma:Option Addr}{mn mc:Nat}{la:Option Addr}{lc A:Nat}{mem:List Int}{ls:List Bool}{gs:List DGlobal}(h:StBox V TB MB LB go gn gc2 fo n fc2 ma mn mc la lc A mem ls gs)(hM:MB<A)(hL:LB<A)(hk:Kp (fun c=>c<A∨TB≤c) V W):StBox W TB MB LB go gn gc2 fo n fc2 ma mn mc la lc A mem ls gs :=
 ⟨hk.cell (.inr (Nat.le_refl _)) h.t0,hk.cell (.inr (Nat.le_refl _)) h.t1,hk.cell (.inl hM) h.m0,hk.cell (.inl hL) h.l0,h.mem.mono rInt_mono (fun _ h=>h) (hk.stays fun _b hb => .inl hb),h.ls.mono rBool_mono (fun _ h=>h) (hk.stays fun _b hb => .inl hb),h.gs.mono rGlobal_mono (fun _ h=>h) (hk.stays fun _b hb => .inl hb)⟩

set_option maxRecDepth 100000 in
set_option maxHeartbeats 4000000 in
theorem stillDo_any {S : Nat → Prop} (ga : Option Addr) (gc : Nat) (fa : Option Addr) (fc : Nat) (gs : List DGlobal) (fs : List DFunc) (w : World)
 (hg:SlAt S w 3 rGlobal (.slice ga gs.length gc) gs) (hf:SlAt S w 4 rFunc (.slice fa fs.length fc) fs) (hw:Ways w) (hS:∀b,S b→b<w.heap.size)
 (hgl:gs.length≤1048576) (hfl:fs.length≤1048576) (hsm:∀(k:Nat) (f:DFunc),fs[k]?=some f→manyOf f.blocks≤1048576∧f.blocks.length≤1048576) (hnum:NumU ⟨gs,fs⟩) :
 Calls Tryz.prog 14 #[.agg #[.slice ga gs.length gc,.slice fa fs.length fc]] w fun e w'=>StillPost gs fs w e w':=by
 obtain⟨c,hc⟩:∃c,c=(checkF ⟨gs,fs⟩).1:=⟨_,rfl⟩
 obtain⟨d,hd⟩:∃d,d=(checkF ⟨gs,fs⟩).2:=⟨_,rfl⟩
 have Hcd:Hid (checkF ⟨gs,fs⟩=(c,d)):=by show _=_;rw [hc,hd]
 have Hck':Hid (∀V,Below w.heap.size w V→Calls Tryz.prog 8 #[.agg #[.slice ga gs.length gc,.slice fa fs.length fc]] V fun e w'=>e = .returned (.agg #[.int .i64 c,.int .i64 d])∧Below V.heap.size V w'):=fun V hV=>by
  have h:=check_any (S:=S) ga gc fa fc gs fs V (hg.later rGlobal_mono hV) (hf.later rFunc_mono hV) (Ways.below hw hV) hgl hfl hsm;rw [←hc,←hd] at h;exact h
 have Hg:=hid hg;have Hf:=hid hf;have Hww:=hid hw;have HS:=hid hS;have Hnum:=hid hnum;clear hg hf hw hsm hc hd hS hnum;go_enter Tryz.func14,Tryz.ntmps14;go_upto_region 1 with (fail)
 obtain⟨W,hW⟩:∃W,W=((w.alloc (.cells #[.slice ga gs.length gc,.slice fa fs.length fc] 25)).alloc (.cells #[.slice none 0 0,.slice none 0 0] 25)).alloc (.cells #[.int .i64 0,.int .i64 0] 27):=⟨_,rfl⟩
 obtain⟨hWs,h0,h1,h2⟩:=heap_threeF w (.cells #[.slice ga gs.length gc,.slice fa fs.length fc] 25) (.cells #[.slice none 0 0,.slice none 0 0] 25) (.cells #[.int .i64 0,.int .i64 0] 27);rw [←hW] at hWs h0 h1 h2 ⊢;have hbW:Below w.heap.size w W:=by rw [hW];(repeat (first | exact Below.refl _ _ | refine Below.alloc ?_ (by first|omega|(simp<;>omega)) _ | refine Below.setCell ?_ (by first|omega|(simp<;>omega)) _ | refine below_drewN ?_ _ | refine Below.drew ?_))
 obtain⟨UB,hUB⟩:∃UB,UB=w.heap.size:=⟨_,rfl⟩
 obtain⟨UO,hUO⟩:∃UO,UO=w.heap.size+1:=⟨_,rfl⟩
 obtain⟨UX,hUX⟩:∃UX,UX=w.heap.size+1+1:=⟨_,rfl⟩
 rw [←hUX] at h2 ⊢;rw [←hUO] at h1 ⊢;rw [←hUB] at h0 ⊢;have HUs:Hid (UB=w.heap.size∧UO=w.heap.size+1∧UX=w.heap.size+2∧W.heap.size=w.heap.size+3):=⟨hUB,hUO,hUX,hWs⟩
 have Hst:Hid (∀V,Below W.heap.size W V→Below w.heap.size w V∧V.heap[UB]?=some (.cells #[.slice ga gs.length gc,.slice fa fs.length fc] 25 (0,0))∧V.heap[UO]?=some (.cells #[.slice none 0 0,.slice none 0 0] 25 (0,0))∧V.heap[UX]?=some (.cells #[.int .i64 0,.int .i64 0] 27 (0,0))) :=
  fun V hV=>⟨hbW.trans (hV.mono hbW.size),(hV.block UB (by omega)).trans h0,(hV.block UO (by omega)).trans h1,(hV.block UX (by omega)).trans h2⟩
 have HbW:=hid hbW;obtain⟨c0,c1⟩:=(cells_of (cs:=[_,_]) h0).get2;rw [Nat.zero_add] at c1;have zB:UB<W.heap.size:=by omega
 clear hW h0 h1 h2 hbW hUB hUO hUX hWs;go_upto_region 2 with (go_at_call 8;refine (Hck'.out W HbW.out).mono ?_;rintro e w1 ⟨rfl,hb1⟩;have Hb1:=hid hb1;clear hb1)
 obtain⟨W2,hW2⟩:∃W2,W2=w1.alloc (.cells #[.int .i64 c,.int .i64 d] 27):=⟨_,rfl⟩
 have hb2:Below w1.heap.size w1 W2:=by rw [hW2];(repeat (first | exact Below.refl _ _ | refine Below.alloc ?_ (by first|omega|(simp<;>omega)) _ | refine Below.setCell ?_ (by first|omega|(simp<;>omega)) _ | refine below_drewN ?_ _ | refine Below.drew ?_))
 have Hb2:Hid (Below W.heap.size W W2):=Hb1.out.trans (hb2.mono Hb1.out.size);have x0:W2.cell? ⟨w1.heap.size,0,none⟩=some (.int .i64 c):=by rw [hW2];simp
 have x1:W2.cell? ⟨w1.heap.size,1,none⟩=some (.int .i64 d):=by rw [hW2];simp
 rw [←hW2];obtain⟨XB,hXB⟩:∃XB,XB=w1.heap.size:=⟨_,rfl⟩
 rw [←hXB] at x0 x1 ⊢;obtain⟨Hw2,s0,s1,s2⟩:=Hst.out W2 Hb2.out;have Hw2:=hid Hw2;have S1:=hid s1;have S2:=hid s2;obtain⟨a0,a1⟩:=(cells_of (cs:=[_,_]) s0).get2;rw [Nat.zero_add] at a1;have zB2:UB<W2.heap.size:=cell_lt a0;have zXB:XB<W2.heap.size:=cell_lt x0;have hne:¬UO=UX:=by have:=HUs.out;omega
 have hlo:w.heap.size≤UO∧w.heap.size≤UX:=by have:=HUs.out;omega
 have Hlo:=hid hlo;have hn3:¬XB=UO∧¬UO=XB∧¬XB=UX∧¬UX=XB:=by have:=HUs.out;have:=Hb1.out.size;omega
 have Hn3:=hid hn3;clear hW2 hb2 hXB s0 s1 s2 c0 c1 zB hlo hn3
 by_cases hc0:c=0
 · subst hc0
   have hd0:d=0:=by
    have h:=checkF_zero (u:=⟨gs,fs⟩) (by rw [Hcd.out]);rw [Hcd.out] at h;exact congrArg Prod.snd h
   subst hd0;have Hpost:Hid (∀e w' ga gc fa fc,Below w.heap.size w w'→e = .returned (.tuple #[.agg #[.slice ga gs.length gc,.slice fa fs.length fc],.agg #[.int .i64 0,.int .i64 0]])→SlAt (iv w.heap.size w'.heap.size) w' 3 rGlobal (.slice ga gs.length gc) gs→SlAt (iv w.heap.size w'.heap.size) w' 4 rFunc (.slice fa fs.length fc) (stillFs gs fs)→StillPost gs fs w e w'):=fun e w' ga gc fa fc h1 h2 h3 h4 =>
    ⟨h1,fun h=>absurd (by rw [Hcd.out]) h,fun _=>⟨ga,gc,fa,fc,h2,h3,h4⟩⟩
   have hck:checkF ⟨gs,fs⟩=(0,0):=Hcd.out;have HT1:=hid (tidy_ok (S:=S) ga gc fa fs.length fc gs fs W2 (Hg.out.later rGlobal_mono Hw2.out) (Hf.out.later rFunc_mono Hw2.out) rfl (Ways.below Hww.out Hw2.out) (fun b hb=>Nat.lt_of_lt_of_le (HS.out b hb) Hw2.out.size) hck);have Hck:=hid hck;clear hck;go_upto_region 5 with
    (go_at_call 15; refine HT1.out.mono ?_; rintro e w3 ⟨ta, tc, ua, uc, rfl, hg3, hf3, hb3⟩
     obtain ⟨Hw3, t0, t1, t2⟩ := Hst.out w3 (Hb2.out.trans (hb3.mono Hb2.out.size))
     have Hw3 := hid Hw3
     have Hg3 := hid hg3
     have Hf3 := hid hf3
     have Hb3 := hid hb3
     have f0 := thawed t0 0
     have f1 := thawed t0 1
     obtain ⟨b0, b1⟩ := (cells_of (cs := [_, _]) t0).get2
     rw [Nat.zero_add] at b1
     have T0 := hid t0
     have T1 := hid t1
     have T2 := hid t2
     have zB3 : UB < w3.heap.size := cell_lt b0
     clear hb3 hg3 hf3 t0 t1 t2)
   obtain⟨W4,hW4⟩:∃W4,W4=((w3.setCell ⟨UB,0,none⟩ (.slice ta gs.length tc)).setCell ⟨UB,1,none⟩ (.slice ua fs.length uc)).alloc (.cells #[.int .i64 0,.int .i64 0] 27):=⟨_,rfl⟩
   have hk4:Kp (fun b=>b≠UB) w3 W4:=by
    rw [hW4];exact (kp_more (kp_one w3 UB 0 _) 1 _).trans (Kp.of (by (repeat (first | exact Below.refl _ _ | refine Below.alloc ?_ (by first|omega|(simp<;>omega)) _ | refine Below.setCell ?_ (by first|omega|(simp<;>omega)) _ | refine below_drewN ?_ _ | refine Below.drew ?_))))
   have hz4:W4.heap.size=w3.heap.size+1:=by rw [hW4];simp
   have hU4:W4.heap[UB]?=some (.cells #[.slice ta gs.length tc,.slice ua fs.length uc] 25 (0,0)):=by
    have h1:=heap_set_row (i:=0) T0.out (.slice ta gs.length tc);have h2:=heap_set_row (i:=1) h1 (.slice ua fs.length uc);rw [hW4,Below.heap_alloc _ _ _ (by simpa [World.setCell] using zB3)];exact h2
   have hY4:W4.heap[w3.heap.size]?=some (.cells #[.int .i64 0,.int .i64 0] 27 (0,0)):=by
    have h1:=heap_alloc_new ((w3.setCell ⟨UB,0,none⟩ (.slice ta gs.length tc)).setCell ⟨UB,1,none⟩ (.slice ua fs.length uc)) (.cells #[.int .i64 0,.int .i64 0] 27);rw [show ((w3.setCell ⟨UB,0,none⟩ (.slice ta gs.length tc)).setCell ⟨UB,1,none⟩ (.slice ua fs.length uc)).heap.size=w3.heap.size by simp [World.setCell]] at h1;rw [hW4];exact h1
   rw [←hW4];have hb4:Below w.heap.size w W4:=Hw3.out.trans (hk4.below fun b hb=>⟨Nat.lt_of_lt_of_le hb Hw3.out.size,fun e=>by have:=HUs.out;omega⟩);have hO4:W4.heap[UO]?=some (.cells #[.slice none 0 0,.slice none 0 0] 25 (0,0)):=(hk4.block UO (Array.getElem?_eq_some_iff.1 T1.out).1 (by have:=HUs.out;omega)).trans T1.out;have hX4:W4.heap[UX]?=some (.cells #[.int .i64 0,.int .i64 0] 27 (0,0)):=(hk4.block UX (Array.getElem?_eq_some_iff.1 T2.out).1 (by have:=HUs.out;omega)).trans T2.out;have hUB:UB<W4.heap.size∧UO<W4.heap.size∧UX<W4.heap.size:=⟨(Array.getElem?_eq_some_iff.1 hU4).1,(Array.getElem?_eq_some_iff.1 hO4).1,(Array.getElem?_eq_some_iff.1 hX4).1⟩
   have Hst4:Hid (∀V,Below W4.heap.size W4 V→Below w.heap.size w V∧(V.cell? ⟨UB,0,none⟩=some (.slice ta gs.length tc)∧V.cell? ⟨UB,1,none⟩=some (.slice ua fs.length uc))∧V.heap[UO]?=some (.cells #[.slice none 0 0,.slice none 0 0] 25 (0,0))∧V.heap[UX]?=some (.cells #[.int .i64 0,.int .i64 0] 27 (0,0))) :=
    fun V hV=>⟨hb4.trans (hV.mono hb4.size),by have h:=(cells_of (cs:=[_,_]) ((hV.block UB hUB.1).trans hU4)).get2;rw [Nat.zero_add] at h;exact h,(hV.block UO hUB.2.1).trans hO4,(hV.block UX hUB.2.2).trans hX4⟩
   obtain⟨y0,y1⟩:=(cells_of (cs:=[_,_]) hY4).get2;rw [Nat.zero_add] at y1;have hS4:Stays (iv W2.heap.size w3.heap.size) w3 W4:=hk4.stays fun b hb e=>by subst e;have:=zB2;have:=hb.1;omega
   have Hg4:=hid (Hg3.out.mono rGlobal_mono (fun _ h=>h) hS4);have Hf4:=hid (Hf3.out.mono rFunc_mono (fun _ h=>h) hS4);obtain⟨-,⟨c0,c1⟩,-⟩:=Hst4.out W4 (Below.refl _ _);have zE4:w3.heap.size<W4.heap.size:=cell_lt y0;have zU4:UB<W4.heap.size:=hUB.1;have Hb4:=hid hb4;have Hz4:=hid hz4;clear hW4 hk4 hz4 hU4 hY4 hO4 hX4 hUB hS4 b0 b1 f0 f1 T0 T1 T2 zB3 hb4 a0 a1 x0 x1 zB2 zXB;obtain⟨T,hT⟩:∃T,T=fs.map tidyFn:=⟨_,rfl⟩
   have hTl:T.length=fs.length:=by rw [hT];simp
   have hckT:checkF ⟨gs,T⟩=(0,0):=by rw [hT];exact tidyU_check (u:=⟨gs,fs⟩) Hck.out Hnum.out
   have hnumT:NumU ⟨gs,T⟩:=by rw [hT];exact tidyU_num (u:=⟨gs,fs⟩) Hck.out Hnum.out
   rw [←hT] at Hf4;obtain⟨mn,hmn⟩:∃mn,mn=(wordsL gs).length:=⟨_,rfl⟩
   obtain⟨ls,hls⟩:∃ls,ls=stillF (wordsL gs) (insU T):=⟨_,rfl⟩
   have hlsl:ls.length=mn:=by
    rw [hls,hmn];unfold stillF;split
    · exact List.length_replicate
    · exact calmL_len _ _
   obtain⟨hgl10,hgsz,-,hmn200⟩:=checkF_globs (u:=⟨gs,T⟩) (by rw [hckT]);obtain⟨hsmG,hsmF⟩:=checkF_small (u:=⟨gs,T⟩) hckT;have HW0:=hid (words_any (S:=iv W2.heap.size w3.heap.size) ta ua tc fs.length uc gs W4 Hg4.out hgl10 hgsz);have HsmG:=hid hsmG;have HsmF:=hid hsmF;have Hmn:=hid hmn;have Hls:=hid hls;have Hlsl:=hid hlsl;have HT:=hid hT;have HTl:=hid hTl;have HckT:=hid hckT;have HnumT:=hid hnumT;have hmn9:mn≤1048576:=by rw [hmn];have h9:(wordsL gs).length≤200:=hmn200;omega
   clear hsmG hsmF hmn hls hlsl hT hTl hckT hnumT hgsz hmn200;go_upto_region 8 with
    (go_at_call 34; refine HW0.out.mono ?_; rintro e w5 ⟨v, rfl, hv, hb5⟩
     obtain ⟨ma, mc, rfl⟩ := hv.shape
     rw [← Hmn.out]
     rw [← Hmn.out] at hv
     have Hv5 := hid hv
     have Hb5 := hid hb5
     clear hb5 hv)
   obtain⟨W6,hW6⟩:∃W6,W6=w5.alloc (.cells #[.slice ma mn mc] 33):=⟨_,rfl⟩
   have hb6:Below w5.heap.size w5 W6:=by rw [hW6];(repeat (first | exact Below.refl _ _ | refine Below.alloc ?_ (by first|omega|(simp<;>omega)) _ | refine Below.setCell ?_ (by first|omega|(simp<;>omega)) _ | refine below_drewN ?_ _ | refine Below.drew ?_))
   obtain⟨MB,hMB⟩:∃MB,MB=w5.heap.size:=⟨_,rfl⟩
   have hM6:W6.heap[MB]?=some (.cells #[.slice ma mn mc] 33 (0,0)):=by rw [hW6,hMB];exact heap_alloc_new _ _
   rw [←hW6,←hMB];have hb46:Below W4.heap.size W4 W6:=Hb5.out.trans (hb6.mono Hb5.out.size);obtain⟨-,⟨c0,c1⟩,-⟩:=Hst4.out W6 hb46;have m0:W6.cell? ⟨MB,0,none⟩=some (.slice ma mn mc):=(cells_of (cs:=[_]) hM6).get1;have zM6:MB<W6.heap.size:=cell_lt m0;have zU6:UB<W6.heap.size:=cell_lt c0;have Hv6:=hid (Hv5.out.later hb6);have hT10:T.length≤10:=(checkF_ok (u:=⟨gs,T⟩) (by rw [HckT.out])).2.1;have HL0:=still_any (S:=iv W2.heap.size w3.heap.size) (S':=iv W4.heap.size W6.heap.size) ta ua gs.length tc uc T ma mc mn (wordsL gs) W6 (by rw [HTl.out];exact Hf4.out.later rFunc_mono hb46) (fun b hb=>by have:=hb.2;have:=Hz4.out;have:=hb46.size;omega) Hv6.out.sl Hmn.out.symm hmn9 (by omega) (fun f hf=>⟨(HsmF.out f hf).blocks,fun x hx=>((HsmF.out f hf).each x hx).list⟩);rw [HTl.out,←Hls.out] at HL0;have HL0:=hid HL0;have Hb6:=hid hb46;have HM6:=hid hM6;clear hW6 hb6 hMB hM6 hb46 y0 y1 zE4 zU4;go_upto_region 9 with
    (go_at_call 35; refine HL0.out.mono ?_; rintro e w7 ⟨la, lc, rfl, hl7, hb7⟩
     have Hl7 := hid hl7
     have Hb7 := hid hb7
     clear hb7 hl7)
   obtain⟨W8,hW8⟩:∃W8,W8=w7.alloc (.cells #[.slice la mn lc] 66):=⟨_,rfl⟩
   have hb8:Below w7.heap.size w7 W8:=by rw [hW8];(repeat (first | exact Below.refl _ _ | refine Below.alloc ?_ (by first|omega|(simp<;>omega)) _ | refine Below.setCell ?_ (by first|omega|(simp<;>omega)) _ | refine below_drewN ?_ _ | refine Below.drew ?_))
   obtain⟨LB,hLB⟩:∃LB,LB=w7.heap.size:=⟨_,rfl⟩
   have hL8:W8.heap[LB]?=some (.cells #[.slice la mn lc] 66 (0,0)):=by rw [hW8,hLB];exact heap_alloc_new _ _
   rw [←hW8,←hLB];have hb68:Below W6.heap.size W6 W8:=Hb7.out.trans (hb8.mono Hb7.out.size);have hb48:Below W4.heap.size W4 W8:=Hb6.out.trans (hb68.mono Hb6.out.size);obtain⟨-,⟨c0,c1⟩,-⟩:=Hst4.out W8 hb48;have zU8:UB<W8.heap.size:=cell_lt c0;have hc:=copyUni_rows (S:=iv W2.heap.size w3.heap.size) ta ua tc uc gs T W8 (Hg4.out.later rGlobal_mono hb48) (by rw [HTl.out];exact Hf4.out.later rFunc_mono hb48) (by omega) (by omega) HsmG.out HsmF.out;rw [HTl.out] at hc;have Hc:=hid hc;have Hb8:=hid hb48;have Hb68:=hid hb68;have Hl8:Hid (SlAt (fun b=>W6.heap.size≤b∧b<w7.heap.size) W8 1 rBool (.slice la mn lc) ls):=(bools_lt Hl7.out).later rBool_mono hb8;have Hz78:Hid (w7.heap.size≤W8.heap.size):=hb8.size;have HL8:=hid hL8;clear hW8 hb8 hLB hL8 hb68 hb48 hc zU6 zM6 m0;go_upto_region 10 with
    (go_at_call 36; refine Hc.out.mono ?_; rintro e w9 ⟨go, gc2, fo, fc2, A, V, rfl, hA1, hA2, hgo, hu9, hb9⟩
     have HA := hid (And.intro hA1 hA2)
     have Hgo := hid hgo
     have Hu9 := hid hu9
     have Hb9 := hid hb9
     clear hA1 hA2 hgo hu9 hb9)
   obtain⟨W10,hW10⟩:∃W10,W10=w9.alloc (.cells #[.slice go gs.length gc2,.slice fo fs.length fc2] 25):=⟨_,rfl⟩
   have hb10:Below w9.heap.size w9 W10:=by rw [hW10];(repeat (first | exact Below.refl _ _ | refine Below.alloc ?_ (by first|omega|(simp<;>omega)) _ | refine Below.setCell ?_ (by first|omega|(simp<;>omega)) _ | refine below_drewN ?_ _ | refine Below.drew ?_))
   obtain⟨TB,hTB⟩:∃TB,TB=w9.heap.size:=⟨_,rfl⟩
   have hT10':W10.heap[TB]?=some (.cells #[.slice go gs.length gc2,.slice fo fs.length fc2] 25 (0,0)):=by rw [hW10,hTB];exact heap_alloc_new _ _
   rw [←hW10,←hTB];have hb810:Below W8.heap.size W8 W10:=Hb9.out.trans (hb10.mono Hb9.out.size);obtain⟨mem,hmem⟩:∃mem,mem=wordsL gs:=⟨_,rfl⟩
   have HMA:Hid (MB<A∧LB<A∧A≤TB):=by
    have h1:=(Array.getElem?_eq_some_iff.1 HM6.out).1;have h2:=(Array.getElem?_eq_some_iff.1 HL8.out).1;have:=HA.out;have:=Hb68.out.size;exact⟨by omega,by omega,by omega⟩
   have hbx:StBox W10 TB MB LB go gs.length gc2 fo fs.length fc2 ma mn mc la lc A mem ls gs:=by
    have hA:=HA.out;have h48:=Hb68.out.size;obtain⟨e0,e1⟩:=(cells_of (cs:=[_,_]) hT10').get2;rw [Nat.zero_add] at e1;refine⟨e0,e1,(cells_of (cs:=[_]) ((hb810.block MB (by have:=HMA.out;have:=(Array.getElem?_eq_some_iff.1 HM6.out).1;omega)).trans ((Hb68.out.block MB (Array.getElem?_eq_some_iff.1 HM6.out).1).trans HM6.out))).get1,(cells_of (cs:=[_]) ((hb810.block LB (Array.getElem?_eq_some_iff.1 HL8.out).1).trans HL8.out)).get1,?_,?_,?_⟩
    · rw [hmem]
      exact ((Hv6.out.sl.later rInt_mono Hb68.out).later rInt_mono hb810).mono rInt_mono (fun b hb=>by have:=hb.2;omega) (Stays.refl _ _)
    · exact (Hl8.out.later rBool_mono hb810).mono rBool_mono (fun b hb=>by have:=hb.2;have:=Hz78.out;omega) (Stays.refl _ _)
    · exact (Hgo.out.toSl rGlobal_mono (by decide)).mono rGlobal_mono (fun b hb=>hb.2) (Stays.below' hb10)
   have hd0:DoneSt W10 W10 A TB (.slice fo fs.length fc2) T V:=by
    refine⟨Hu9.out.later hb10,fun k f hf p hp c hc=>by rw [hTB];exact (Hu9.out.lt.2 k f hf p hp c hc).2,Kp.refl _ _⟩
   have hpos:0<T.length:=checkF_pos (u:=⟨gs,T⟩) HckT.out;obtain⟨FB,rfl⟩:∃FB,fo=some ⟨FB,0,none⟩:=by
    obtain⟨g,c',hv,-⟩:=hd0.uni.row.at (i:=0) (by rw [List.getElem?_mapIdx,List.getElem?_eq_getElem hpos];rfl) (by decide)
    exact⟨g,by injection hv⟩
   have Hbx:=hid hbx;have Hd0:=hid hd0;have Hb810:=hid hb810;have z10:TB<W10.heap.size:=cell_lt hbx.t0;have t0:=hbx.t0;have t1:=hbx.t1;have Hmem:=hid hmem;clear hW10 hb10 hTB hT10' hb810 hmem hbx hd0 hpos c0 c1 zU8;go_wp2_with fail;go_loopw [41] (fun s41 wr=>∃(k:Nat) (V:Nat→Pth→Value),k≤fs.length∧s41 = .int .i64 (k:Int)∧DoneSt W10 wr A TB (.slice (some ⟨FB,0,none⟩) fs.length fc2) (fsUp ls mem T k) V) (fun s41 _=>fs.length - (intOf s41).toNat)
   case atStart=>exact⟨0,V,Nat.zero_le _,rfl,by rw [fsUp_zero];exact Hd0.out⟩
   case round =>
    obtain⟨wo,hwo⟩:∃wo:World,wo=wr:=⟨_,rfl⟩
    subst hwo;obtain⟨k,V1,hk,rfl,hd⟩:=hrel;have hbx:=Hbx.out.kp HMA.out.1 HMA.out.2.1 hd.kept;have t0:=hbx.t0;have t1:=hbx.t1;have zT:TB<wo.heap.size:=cell_lt t0
    by_cases hkl:k<fs.length
    · have hkT:k<T.length:=by rw [HTl.out];exact hkl
      obtain⟨f,hf⟩:∃f,T[k]?=some f:=⟨_,List.getElem?_eq_getElem hkT⟩
      have hd1:DoneSt W10 wo A TB (.slice (some ⟨FB,0,none⟩) fs.length fc2) (fsB ls mem T k 0 f) V1:=by rw [←fsUp_open ls mem hf];exact hd
      obtain⟨htd,-,-,-,-,-⟩:=fn_td (u:=⟨gs,T⟩) HckT.out HnumT.out hf;have hbpos:0<f.blocks.length:=htd.tok.pos;have hf0:(fsUp ls mem T k)[k]?=some f:=upF_at _ hf;obtain⟨g,c',hv,-,-,-,hat,-⟩:=hd.uni.row.at (i:=k) (by rw [List.getElem?_mapIdx,hf0];rfl) (by decide)
      have hg:FB=g:=by injection hv with e1;injection e1 with e2;injection e2
      subst hg;obtain⟨d0,d1,d2,d3⟩:=hat.get4;obtain⟨h0,cb,hbv,-,-,hh0,-,-⟩:=RowsAt.cell (hd.uni.fn k f hf0) (p := .blks) trivial (i:=0) (j:=0) (cs:=cellsB (blkOf f.blocks 0) (V1 k (.phis 0)) (V1 k (.list 0)) (V1 k (.to 0))) (by show (f.blocks.mapIdx _)[0]?=_;rw [List.getElem?_mapIdx,blkOf_self f.blocks hbpos];rfl) rfl;rw [show (elemsP f.blocks (V1 k) .blks).length=f.blocks.length from List.length_mapIdx] at hbv;rw [hbv] at d3;have zF:FB<wo.heap.size:=cell_lt d3;obtain⟨nb,hnb⟩:∃nb,nb=f.blocks.length:=⟨_,rfl⟩
      rw [←hnb] at d3 hbv;have hnb9:nb≤1048576:=by rw [hnb];exact htd.ok.len
      have Hd1:=hid hd1;have Hf:=hid hf;have Htd:=hid htd;have Hnb:=hid hnb;have Hbv:=hid hbv;clear hd hd1 hf htd hbpos hf0 hv hat hh0 hnb hbv hbx hkT d0 d1 d2;go_wp2_with fail;clear t0 t1 zT d3 zF;go_loopw [51] (fun s51 wr=>∃(b:Nat) (V:Nat→Pth→Value),b≤nb∧s51 = .int .i64 (b:Int)∧DoneSt W10 wr A TB (.slice (some ⟨FB,0,none⟩) fs.length fc2) (fsB ls mem T k b f) V∧V k .blks = .slice (some ⟨h0,0,none⟩) nb cb) (fun s51 _=>nb - (intOf s51).toNat)
      case atStart=>exact⟨0,V1,Nat.zero_le _,rfl,Hd1.out,Hbv.out⟩
      case round =>
       obtain⟨wp,hwp⟩:∃wp:World,wp=wr:=⟨_,rfl⟩
       subst hwp;obtain⟨b,V2,hb,rfl,hd,hbv⟩:=hrel;have hbx:=Hbx.out.kp HMA.out.1 HMA.out.2.1 hd.kept;have t0:=hbx.t0;have t1:=hbx.t1;have zT:TB<wp.heap.size:=cell_lt t0
       by_cases hbl:b<nb
       · have hblf:b<f.blocks.length:=by rw [←Hnb.out];exact hbl
         have hfat:=fsB_at ls mem (b:=b) Hf.out;have hfn:=hd.uni.fn k _ hfat;obtain⟨bsb,hbsb⟩:∃bsb,bsb=bsUp ls mem f.blocks b:=⟨_,rfl⟩
         have hbsl:bsb.length=f.blocks.length:=by rw [hbsb];exact bsUp_len ls mem _
         obtain⟨x,hx⟩:∃x,x=blkOf f.blocks b:=⟨_,rfl⟩
         have hblk:blkOf bsb b=x:=by rw [hbsb,hx];exact bsUp_blk ls mem hblf
         dsimp only at hfn;rw [←hbsb] at hfn;obtain⟨g,c',hv,-,-,-,hat,-⟩:=hd.uni.row.at (i:=k) (by rw [List.getElem?_mapIdx,hfat];rfl) (by decide)
         have hg:FB=g:=by injection hv with e1;injection e1 with e2;injection e2
         subst hg;obtain⟨d0,d1,d2,d3⟩:=hat.get4;rw [hbv] at d3;have hbb:b<bsb.length:=by rw [hbsl];exact hblf
         obtain⟨h0',cb',hv',-,-,hh0,hcell,hfro⟩:=RowsAt.cell hfn (p := .blks) trivial (i:=b) (j:=1) (cs:=cellsB x (V2 k (.phis b)) (V2 k (.list b)) (V2 k (.to b))) (by show (bsb.mapIdx _)[b]?=_;rw [List.getElem?_mapIdx,blkOf_self bsb hbb,hblk];rfl) rfl;have hh:h0=h0':=by rw [hbv] at hv';injection hv' with e1;injection e1 with e2;injection e2
         subst hh;obtain⟨E,hE⟩:∃E,E=elemsP bsb (V2 k) (.list b):=⟨_,rfl⟩
         obtain⟨xa,xc,hxv⟩:=RowsAt.shape (p := .list b) hfn hbb;rw [←hE] at hxv;obtain⟨xn,hxn⟩:∃xn,xn=E.length:=⟨_,rfl⟩
         rw [←hxn] at hxv;have hEe:E=x.list.mapIdx fun i y=>cellsI y (V2 k (.args b i)):=by rw [hE];show (blkOf bsb b).list.mapIdx _=_;rw [hblk]
         have hxl:x.list.length≤1048576:=by rw [hx];exact (Htd.out.ok.small _ (List.mem_of_getElem? (blkOf_self f.blocks hblf))).list
         have hxn9:xn≤1048576:=by rw [hxn,hEe,List.length_mapIdx];exact hxl
         have hrow:Row1 wp A 80 8 (.slice xa xn xc) E:=by
          have h1:=RowsAt.own hfn (.list b) hbb;have h2:=RowsAt.wid hfn (.list b) hbb;rw [hxv,←hE] at h1;rw [←hE] at h2;exact⟨h1,h2⟩
         have hS:∀cs∈E,InsSh cs:=fun cs hcs=>by
          obtain⟨i,hi⟩:=List.getElem?_of_mem hcs;rw [hEe,List.getElem?_mapIdx] at hi;cases hy:x.list[i]? with
          | none=>rw [hy] at hi;cases hi
          | some y =>
            rw [hy] at hi;have hi2:=Option.some.inj hi;obtain⟨aa,ac,ha⟩:=RowsAt.shape (p := .args b i) hfn (by show i<(blkOf bsb b).list.length;rw [hblk];exact (List.getElem?_eq_some_iff.1 hy).1);rw [←hi2,ha];exact⟨_,_,_,_,_,_,_,_,_,_,rfl⟩
         have hobl:∀c,(Value.slice xa xn xc).ownBlock=some c→A≤c∧c<TB:=fun c hc=>by
          rw [←hxv] at hc;exact⟨(hd.uni.lt.2 k _ hfat (.list b) (by dsimp only;rw [←hbsb];exact hbb) c hc).1,hd.hi k _ hfat (.list b) (by dsimp only;rw [←hbsb];exact hbb) c hc⟩
         have hkF:∀w',Kp (fun q=>(Value.slice xa xn xc).ownBlock≠some q) wp w'→Kp (fun c=>c<A∨TB≤c) W10 w':=fun w' hk'=>hd.kept.trans (hk'.less fun c hc e=>by have:=hobl c e;omega)
         have hDel := insDelete_any A xa xn xc E wp hrow hxn.symm hxn9 hS (goneP ls) (.pointer (some ⟨MB, 0, none⟩)) (.pointer (some ⟨LB, 0, none⟩)) (fun w' hk' => fun a0 a1 a2 a3 a4 a5 a6 a7 hmemE => by
          obtain ⟨v0, v1, v2, v3, v4, v5, v6, vs, vm, vk, he⟩ := hS _ hmemE
          have hb' := Hbx.out.kp HMA.out.1 HMA.out.2.1 (hkF w' hk')
          have h := stillDel_any MB LB ma la mc mn lc ls w' hb'.m0 hb'.l0 hb'.ls Hlsl.out hmn9 v0 v1 v2 v3 v4 v5 v6 vs vm vk
          simp only [List.cons.injEq, and_true] at he
          obtain ⟨rfl, rfl, rfl, rfl, rfl, rfl, rfl, rfl⟩ := he
          exact h)
         have hne0:(Value.slice xa xn xc).ownBlock≠some h0:=fun e=>RowsAt.apart hfn .blks (.list b) trivial hbb (by simp) h0 (by rw [hbv];rfl) (by rw [hxv];exact e);rw [hxv] at hcell;have hcell:wp.cell? ⟨h0,b * 6+1,none⟩=some (.slice xa xn xc):=hcell;have hfro:wp.frozen? ⟨h0,b * 6+1,none⟩=false:=hfro;have zF:FB<wp.heap.size:=cell_lt d3;have zh:h0<wp.heap.size:=hh0;have HDel:=hid hDel;have Hd:=hid hd;have Hbv:=hid hbv;have Hx:=hid hx;have Hxv:=hid hxv;have HE:=hid hE;have Hbsb:=hid hbsb;have Hblk:=hid hblk;have HEe:=hid hEe;have HkF:=hid hkF;have Hne0:=hid hne0;clear hDel hd hbv hbx hfat hfn hbsl hv hat hv' hh0 hE hxn hEe hxl hrow hS hobl hkF hne0 hblk hx d0 d1 d2 hbsb hxv hblf hbb;go_upto_region 18 with
          (go_at_call 37; refine HDel.out.mono ?_; rintro e w5 ⟨m, hm, rfl, hr5, hk5⟩
           have hcell := hk5.cell (F := fun q => (Value.slice xa xn xc).ownBlock ≠ some q) Hne0.out hcell
           have hfro := hk5.frozen (F := fun q => (Value.slice xa xn xc).ownBlock ≠ some q) Hne0.out zh hfro
           have zh5 := cell_lt hcell
           have Hm := hid hm
           have Hr5 := hid hr5
           have Hk5 := hid hk5
           clear hm hr5 hk5)
         obtain⟨W6',hW6'⟩:∃W6',W6'=w5.setCell ⟨h0,b * 6+1,none⟩ (.slice xa m xc):=⟨_,rfl⟩
         have hblf:b<f.blocks.length:=by rw [←Hnb.out];exact hbl
         have hfat:=fsB_at ls mem (b:=b) Hf.out;have hbsl:(bsUp ls mem f.blocks b).length=f.blocks.length:=bsUp_len ls mem _;obtain⟨V3,hd3,hb3,hl3⟩:=Hd.out.del (W1:=w5) (n:=xn) (c:=xc) (m:=m) (h0:=h0) (nb:=nb) (cb:=cb) (a:=xa) (ls:=ls) hfat (by dsimp only;rw [hbsl];exact hblf) Hxv.out (by dsimp only;rw [←Hbsb.out,←HE.out];exact Hr5.out) (by rw [Hxv.out];exact Hk5.out) Hbv.out;rw [←hW6'] at hd3;rw [fsB_open ls mem hblf] at hd3;rw [←hW6'];have hfat3:=fsC_at ls mem (b:=b) (i:=0) Hf.out;have hbl3:b<((bsUp ls mem f.blocks b).set b (insUp ls mem (blkOf f.blocks b) 0)).length:=by rw [List.length_set,hbsl];exact hblf
         obtain⟨q1,-,zh6⟩:=hd3.listCell hfat3 hbl3 (hb3.trans Hbv.out);rw [hl3] at q1;have hml:m=(restL ls x.list).length:=by
          obtain⟨a9,c9,h9⟩:=RowsAt.shape (p := .list b) (hd3.uni.fn k _ hfat3) hbl3;rw [hl3] at h9;injection h9 with e1 e2 e3;rw [e2];show (List.mapIdx _ _).length=_;rw [List.length_mapIdx];dsimp only;rw [fsC_blk ls mem hblf,insUp_len,Hx.out]
         have hm9:m≤1048576:=by
          rw [Hm.out];refine Nat.le_trans (List.length_filter_le _ _) ?_;rw [HEe.out,List.length_mapIdx,Hx.out];exact (Htd.out.ok.small _ (List.mem_of_getElem? (blkOf_self f.blocks hblf))).list
         have Hd3:=hid hd3;have Hb3':Hid (V3 k .blks = .slice (some ⟨h0,0,none⟩) nb cb):=hb3.trans Hbv.out;have Hl3:=hid hl3;have Hml:=hid hml;clear hW6' hfat hbsl hd3 hb3 hl3 hfat3 hbl3 hml hcell hfro;go_wp2_with fail;clear t0 t1 zT d3 zF zh zh5 q1 zh6;go_loopw [76] (fun s76 wr=>∃(j:Nat) (V:Nat→Pth→Value),j≤m∧s76 = .int .i64 (j:Int)∧DoneSt W10 wr A TB (.slice (some ⟨FB,0,none⟩) fs.length fc2) (fsC ls mem T k b j f) V∧V k .blks = .slice (some ⟨h0,0,none⟩) nb cb∧V k (.list b) = .slice xa m xc) (fun s76 _=>m - (intOf s76).toNat)
         case atStart=>exact⟨0,V3,Nat.zero_le _,rfl,Hd3.out,Hb3'.out,Hl3.out⟩
         case round =>
          obtain⟨wq,hwq⟩:∃wq:World,wq=wr:=⟨_,rfl⟩
          subst hwq;obtain⟨j,V4,hj,rfl,hd,hbv,hlv⟩:=hrel;have hbx:=Hbx.out.kp HMA.out.1 HMA.out.2.1 hd.kept
          by_cases hjm:j<m
          · obtain⟨y,hy⟩:∃y,(restL ls x.list)[j]?=some y:=⟨_,List.getElem?_eq_getElem (by rw [←Hml.out];exact hjm)⟩
            have hblf:b<f.blocks.length:=by rw [←Hnb.out];exact hbl
            have hfat:=fsC_at ls mem (b:=b) (i:=j) Hf.out;have hbl4:b<((bsUp ls mem f.blocks b).set b (insUp ls mem (blkOf f.blocks b) j)).length:=by rw [List.length_set,bsUp_len];exact hblf
            obtain⟨h1,aa,an,ac,hxa,-,-,hav,hat,hz,hA1,hA2⟩:=hd.insCells hfat hbl4 (i:=j) (y:=y) (by dsimp only;rw [fsC_blk ls mem hblf];exact insUp_at ls mem (by rw [←Hx.out];exact hy)) hlv;subst hxa;obtain⟨yo,yd,⟨r,yn⟩,⟨br,bn⟩,yf,yargs⟩:=y;dsimp only at hat;obtain⟨d0,d1,d2,d3,d4,d5,d6,d7⟩:=hat.get8;obtain⟨q1,-,zh⟩:=hd.listCell hfat hbl4 hbv;rw [hlv] at q1;have zg:=cell_lt d0;have m0:=hbx.m0;have l0:=hbx.l0;have Hskip:Hid (calmI ls ⟨yo,yd,⟨r,yn⟩,⟨br,bn⟩,yf,yargs⟩=false→∀wz,Below wq.heap.size wq wz→DoneSt W10 wz A TB (.slice (some ⟨FB,0,none⟩) fs.length fc2) (fsC ls mem T k b (j+1) f) V4):=fun hc wz hz=>by
             rw [fsC_skip ls mem (by rw [←Hx.out];exact hy) hc];exact hd.later hz
            have Hd:=hid hd;have Hy:=hid hy;have Hbx4:=hid hbx;have Hbv4:=hid hbv;have Hlv4:=hid hlv;have Hfat:=hid hfat;have Hbl4:=hid hbl4;have Hz:=hid hz;have HA1:=hid hA1;have HA2:=hid hA2;clear hd hbx hbv hlv hy hblf hfat hbl4 hav hat hz hA1 hA2;go_upto_region 21 with (fail)
            obtain⟨BB,hBB⟩:∃BB,BB=wq.heap.size:=⟨_,rfl⟩
            obtain⟨W7,hW7⟩:∃W7,W7=wq.alloc (.cells #[.int .i64 yo,.int .i64 yd,.bool r,.int .i64 yn,.bool br,.int .i64 bn,.int .i64 yf,.slice aa an ac] 80):=⟨_,rfl⟩
            have hl7:W7.heap[BB]?=some (.cells #[.int .i64 yo,.int .i64 yd,.bool r,.int .i64 yn,.bool br,.int .i64 bn,.int .i64 yf,.slice aa an ac] 80 (0,0)):=by rw [hW7,hBB];exact heap_alloc_new _ _
            have hb7:Below wq.heap.size wq W7:=by rw [hW7];(repeat (first | exact Below.refl _ _ | refine Below.alloc ?_ (by first|omega|(simp<;>omega)) _ | refine Below.setCell ?_ (by first|omega|(simp<;>omega)) _ | refine below_drewN ?_ _ | refine Below.drew ?_))
            rw [←hW7,←hBB];obtain⟨x0,x1,x2,x3,x4,x5,x6,x7⟩:=(cells_of (cs:=[_,_,_,_,_,_,_,_]) hl7).get8;rw [Nat.zero_add] at x1 x2 x3 x4 x5 x6 x7;have zB:=cell_lt x0;have m0:=cell_later' m0 hb7;have l0:=cell_later' l0 hb7;have q1:=cell_later' q1 hb7;have d0:=cell_later' d0 hb7;have d1:=cell_later' d1 hb7;have d2:=cell_later' d2 hb7;have d3:=cell_later' d3 hb7;have d4:=cell_later' d4 hb7;have d5:=cell_later' d5 hb7;have d6:=cell_later' d6 hb7;have d7:=cell_later' d7 hb7;have zM:=cell_lt m0;have zL:=cell_lt l0;have zh:=cell_lt q1;have zg:=cell_lt d0;have Hb7:=hid hb7;clear hBB hW7 hl7 hb7
            by_cases hop:yo=18
            · subst hop
              by_cases hin:inB r yn (mn:Int)=true
              · obtain⟨hr,hn0,hn1⟩:r=false∧0≤yn∧yn<(mn:Int):=by
                 unfold inB at hin;simp only [Bool.and_eq_true,Bool.not_eq_true',decide_eq_true_eq] at hin;exact hin
                subst hr;obtain⟨q,hq⟩:∃q:Nat,yn=(q:Int):=⟨yn.toNat,by omega⟩
                subst hq;have hqn:q<mn:=by omega
                have hql:q<ls.length:=by rw [Hlsl.out];exact hqn
                obtain⟨lb,lo,rfl,hlc⟩:=bool_at Hbx4.out.ls hql;have hlc:=cell_later' hlc Hb7.out;have zlb:=cell_lt hlc;have Hin:=hid hin;have Hcv:Hid (calmI ls ⟨18,yd,⟨false,(q:Int)⟩,⟨br,bn⟩,yf,yargs⟩=ls[q]):=by
                 show _=_;unfold calmI calm;dsimp only;rw [Hlsl.out,hin,Int.toNat_natCast,List.getD_eq_getElem?_getD,List.getElem?_eq_getElem hql];simp
                clear hin;obtain⟨u,hu⟩:∃u,u=ls[q]:=⟨_,rfl⟩
                rw [←hu] at hlc Hcv;clear hu;cases u with
                | true =>
                  have hqm:q<mem.length:=by rw [Hmem.out,←Hmn.out];exact hqn
                  obtain⟨mb,mo,rfl,hmc⟩:=int_at Hbx4.out.mem hqm;have hmc:=cell_later' hmc Hb7.out;obtain⟨mv,hmv⟩:∃mv,mv=mem[q]:=⟨_,rfl⟩
                  rw [←hmv] at hmc;have Hmv:=hid hmv;have HzF:Hid (∀V,Below wq.heap.size wq V→∀o,V.frozen? ⟨h1,o,none⟩=false):=fun V hV o=>(hV.frozen (p:=⟨h1,o,none⟩) (by dsimp only;have:=HA2.out;have:=(Hd.out.later (Below.refl _ _)).kept.size;omega)).trans (Hz.out o);clear hmv;go_upto_region 22 with
                   (go_at_call 39; refine (swithin_any _ _ _ _).mono ?_; rintro e w8 ⟨rfl, hb8⟩; rw [Hin.out]
                    have x0 := cell_later' x0 hb8
                    have x1 := cell_later' x1 hb8
                    have x2 := cell_later' x2 hb8
                    have x3 := cell_later' x3 hb8
                    have l0 := cell_later' l0 hb8
                    have m0 := cell_later' m0 hb8
                    have q1 := cell_later' q1 hb8
                    have hlc := cell_later' hlc hb8
                    have hmc := cell_later' hmc hb8
                    have d0 := cell_later' d0 hb8
                    have d1 := cell_later' d1 hb8
                    have d2 := cell_later' d2 hb8
                    have d3 := cell_later' d3 hb8
                    have d4 := cell_later' d4 hb8
                    have d5 := cell_later' d5 hb8
                    have d6 := cell_later' d6 hb8
                    have d7 := cell_later' d7 hb8
                    have hzz := HzF.out w8 (Hb7.out.trans (hb8.mono Hb7.out.size))
                    have z0 := hzz (j * 8); have z1 := hzz (j * 8 + 1); have z2 := hzz (j * 8 + 2); have z3 := hzz (j * 8 + 3); have z4 := hzz (j * 8 + 4); have z5 := hzz (j * 8 + 5); have z6 := hzz (j * 8 + 6); have z7 := hzz (j * 8 + 7)
                    have zB := cell_lt x0
                    have zg := cell_lt d0
                    have zh := cell_lt q1
                    have zM := cell_lt m0
                    have zmb := cell_lt hmc
                    have Hb8 := hid hb8
                    clear hb8 hzz)
                  clear x0 x2 x4 x5 x6 x7 l0 hlc zL zlb hxn9 hnb9 hmn9 hT10;go_still_tail 16,(by kernel_rfl);change wpList _ _ _ _ _ w8.drew;obtain⟨wz,hwz⟩:∃wz:World,wz=w8.drew:=⟨_,rfl⟩
                  have hbz:Below w8.heap.size w8 wz:=by rw [hwz];exact (Below.refl _ _).drew
                  rw [←hwz];have d0:=cell_later' d0 hbz;have d1:=cell_later' d1 hbz;have d2:=cell_later' d2 hbz;have d3:=cell_later' d3 hbz;have d4:=cell_later' d4 hbz;have d5:=cell_later' d5 hbz;have d6:=cell_later' d6 hbz;have d7:=cell_later' d7 hbz;have hbq:Below wq.heap.size wq wz:=Hb7.out.trans ((Hb8.out.trans (hbz.mono Hb8.out.size)).mono Hb7.out.size);have hzz:=HzF.out wz hbq;have z0:=hzz (j * 8);have z1:=hzz (j * 8+1);have z2:=hzz (j * 8+2);have z3:=hzz (j * 8+3);have z4:=hzz (j * 8+4);have z5:=hzz (j * 8+5);have z6:=hzz (j * 8+6);have z7:=hzz (j * 8+7);have zg:=cell_lt d0;have Hbq:=hid hbq;clear hwz hbz hbq hzz x1 x3 m0 q1 hmc zB zh zM zmb;go_wp2_with fail;have hblf:b<f.blocks.length:=by rw [←Hnb.out];exact hbl
                  have hyr:(restL ls (blkOf f.blocks b).list)[j]?=some ⟨18,yd,⟨false,(q:Int)⟩,⟨br,bn⟩,yf,yargs⟩:=by rw [←Hx.out];exact Hy.out
                  have hmvn:(copyI mem ⟨18,yd,⟨false,(q:Int)⟩,⟨br,bn⟩,yf,yargs⟩).a.n=mv:=by
                   show mem.getD (Int.toNat (q:Int)) 0=mv;rw [Int.toNat_natCast,List.getD_eq_getElem?_getD,List.getElem?_eq_getElem hqm,Hmv.out];rfl
                  have hdone:doneI ls mem ⟨18,yd,⟨false,(q:Int)⟩,⟨br,bn⟩,yf,yargs⟩=copyI mem ⟨18,yd,⟨false,(q:Int)⟩,⟨br,bn⟩,yf,yargs⟩:=by
                   unfold doneI;rw [Hcv.out];rfl
                  obtain⟨V5,hd5,hb5,hl5⟩:=(Hd.out.later Hbq.out).setIns (z:=copyI mem ⟨18,yd,⟨false,(q:Int)⟩,⟨br,bn⟩,yf,yargs⟩) (i:=j) (b:=b) (h1:=h1) (n:=m) (c:=xc) Hfat.out Hbl4.out (by dsimp only;rw [fsC_blk ls mem hblf,insUp_len,←Hx.out,←Hml.out];exact hjm) Hlv4.out rfl;have hst:=fsC_set ls mem (fs:=T) (k:=k) hblf hyr;rw [hdone] at hst;rw [hst,hmvn] at hd5;have Hd5:=hid hd5;have Hb5':=hid (hb5.trans Hbv4.out);have Hl5':=hid (hl5.trans Hlv4.out);clear hd5 hb5 hl5 hst hdone hmvn hyr;go_roundw
                  case rel=>exact⟨j+1,V5,by omega,by go_num,Hd5.out,Hb5'.out,Hl5'.out⟩
                  case measure=>simp [intOf];omega
                | false =>
                  go_wp2_with
                   (go_at_call 39; refine (swithin_any _ _ _ _).mono ?_; rintro e w8 ⟨rfl, hb8⟩; rw [Hin.out]
                    have x0 := cell_later' x0 hb8
                    have x2 := cell_later' x2 hb8
                    have x3 := cell_later' x3 hb8
                    have l0 := cell_later' l0 hb8
                    have hlc := cell_later' hlc hb8
                    have zB := cell_lt x0
                    have Hb8 := hid hb8
                    clear hb8)
                  go_roundw
                  case rel=>exact⟨j+1,V4,by omega,by go_num,Hskip.out Hcv.out _ (Hb7.out.trans (Hb8.out.mono Hb7.out.size)),Hbv4.out,Hlv4.out⟩
                  case measure=>simp [intOf];omega
              · have hin0:inB r yn (mn:Int)=false:=by simpa using hin
                have Hcv:Hid (calmI ls ⟨18,yd,⟨r,yn⟩,⟨br,bn⟩,yf,yargs⟩=false):=by
                 show _=_;unfold calmI calm;dsimp only;rw [Hlsl.out,hin0];simp
                have Hin:=hid hin0;clear hin hin0
                go_wp2_with
                 (go_at_call 39;refine (swithin_any _ _ _ _).mono ?_;rintro e w8 ⟨rfl,hb8⟩;rw [Hin.out];have Hb8:=hid hb8;clear hb8)
                go_roundw
                case rel=>exact⟨j+1,V4,by omega,by go_num,Hskip.out Hcv.out _ (Hb7.out.trans (Hb8.out.mono Hb7.out.size)),Hbv4.out,Hlv4.out⟩
                case measure=>simp [intOf];omega
            · have Hcv:Hid (calmI ls ⟨yo,yd,⟨r,yn⟩,⟨br,bn⟩,yf,yargs⟩=false):=by
               show _=_;unfold calmI calm;simp [hop]
              go_wp2_with fail;go_roundw
              case rel=>exact⟨j+1,V4,by omega,by go_num,Hskip.out Hcv.out _ Hb7.out,Hbv4.out,Hlv4.out⟩
              case measure=>simp [intOf];omega
          · have hjm2:j=m:=by omega
            have hblf:b<f.blocks.length:=by rw [←Hnb.out];exact hbl
            have hdn:DoneSt W10 wq A TB (.slice (some ⟨FB,0,none⟩) fs.length fc2) (fsB ls mem T k (b+1) f) V4:=by
             rw [←fsC_close ls mem hblf (i:=j) (by rw [hjm2,Hml.out,Hx.out];exact Nat.le_refl _)];exact hd
            have Hdn:=hid hdn;have Hbvn:=hid hbv;clear hd hbx hdn hbv hlv hjm2;go_wp2_with fail;go_roundw
            case rel=>exact⟨b+1,V4,by omega,by go_num,Hdn.out,Hbvn.out⟩
            case measure=>simp [intOf];omega
       · have hdn:DoneSt W10 wp A TB (.slice (some ⟨FB,0,none⟩) fs.length fc2) (fsUp ls mem T (k+1)) V2:=by
          rw [←fsB_close ls mem Hf.out (b:=b) (by rw [←Hnb.out];omega)];exact hd
         have Hdn:=hid hdn;clear hd hbx hdn hbv;go_wp2_with fail;go_roundw
         case rel=>exact⟨k+1,V2,by omega,by go_num,Hdn.out⟩
         case measure=>simp [intOf];omega
    · have hkn:k=fs.length:=by omega
      rw [fsUp_all ls mem (by rw [HTl.out];omega)] at hd;obtain⟨T2,hT2⟩:∃T2,T2=T.map (doneFn ls mem):=⟨_,rfl⟩
      rw [←hT2] at hd;have hmi:∀x∈mem,I64 x:=by rw [Hmem.out];exact Hv5.out.2
      have hck2:checkF ⟨gs,T2⟩=(0,0):=by rw [hT2];exact done_check HckT.out HnumT.out hmi
      have hnum2:NumU ⟨gs,T2⟩:=by rw [hT2];exact done_num HnumT.out hmi
      have hT2l:T2.length=fs.length:=by rw [hT2,List.length_map];exact HTl.out
      have hT2s:T2.map tidyFn=stillFs gs fs:=by
       unfold stillFs;rw [hT2,Hmem.out,Hls.out,HT.out]
      have hTBwo:TB<wo.heap.size:=zT
      have hfr := hd.uni.read (fun f hf => by
       obtain ⟨i, hi, rfl⟩ := List.getElem_of_mem hf
       obtain ⟨-, -, p1, p2, p3, p4⟩ := fn_td (u := ⟨gs, T2⟩) hck2 hnum2 (List.getElem?_eq_getElem hi)
       exact ⟨hnum2 _ hf, ⟨by omega, by omega⟩, ⟨by omega, by omega⟩⟩)
      obtain⟨hw10,-,hO10,hX10⟩:=Hst4.out W10 (Hb8.out.trans (Hb810.out.mono Hb8.out.size));have hwA:w.heap.size≤A∧UO<A∧UX<A:=by
       have h1:=HA.out.1;have h2:=Hb8.out.size;have h3:=Hb4.out.size;have h4:=(Array.getElem?_eq_some_iff.1 hO10).1;have h5:=Hz4.out;have h6:=Hb3.out.size;have h7:=Hw2.out.size;have h8:=HUs.out;have h9:=Hb2.out.size;omega
      have hwo:Below w.heap.size w wo:=hw10.trans (hd.kept.below fun b hb=>⟨Nat.lt_of_lt_of_le hb hw10.size,.inl (Nat.lt_of_lt_of_le hb hwA.1)⟩);have hOo:=(hd.kept.block UO (Array.getElem?_eq_some_iff.1 hO10).1 (.inl hwA.2.1)).trans hO10;have hXo:=(hd.kept.block UX (Array.getElem?_eq_some_iff.1 hX10).1 (.inl hwA.2.2)).trans hX10;have hEnd:=tidy_ok (S:=fun b=>b<wo.heap.size) go gc2 (some ⟨FB,0,none⟩) fs.length fc2 gs T2 wo (hbx.gs.mono rGlobal_mono (fun b hb=>by have:=HMA.out;omega) (Stays.refl _ _)) (hfr.mono rFunc_mono (fun b hb=>hb.2) (Stays.refl _ _)) hT2l (Ways.below Hww.out hwo) (fun b hb=>hb) hck2;rw [hT2s] at hEnd;have HE1:=hid hEnd;have Hst5:Hid (∀V,Below wo.heap.size wo V→Below w.heap.size w V∧V.heap[UO]?=some (.cells #[.slice none 0 0,.slice none 0 0] 25 (0,0))∧V.heap[UX]?=some (.cells #[.int .i64 0,.int .i64 0] 27 (0,0))) :=
       fun V hV=>⟨hwo.trans (hV.mono hwo.size),(hV.block UO (Array.getElem?_eq_some_iff.1 hOo).1).trans hOo,(hV.block UX (Array.getElem?_eq_some_iff.1 hXo).1).trans hXo⟩
      have hUW:UO<wo.heap.size∧UX<wo.heap.size:=⟨(Array.getElem?_eq_some_iff.1 hOo).1,(Array.getElem?_eq_some_iff.1 hXo).1⟩
      have HUW:=hid hUW;have zf:w.heap.size≤wo.heap.size:=hwo.size;clear hd hbx hT2 hmi hck2 hnum2 hT2l hT2s hTBwo hfr hw10 hO10 hX10 hwA hwo hOo hXo hEnd hUW
      go_wp2_with
       (go_at_call 15; refine HE1.out.mono ?_; rintro e w9' ⟨ga2, gc3, fa2, fc3, rfl, hg9, hf9, hb9⟩
        obtain ⟨Hw9, s1, s2⟩ := Hst5.out w9' hb9
        have S1 := hid s1
        have S2 := hid s2
        have Hw9 := hid Hw9
        have Hg9 := hid hg9
        have Hf9 := hid hf9
        have f0 := thawed s1 0
        have f1 := thawed s1 1
        have g0 := thawed s2 0
        have g1 := thawed s2 1
        obtain ⟨b0, b1⟩ := (cells_of (cs := [_, _]) s1).get2
        obtain ⟨d0, d1⟩ := (cells_of (cs := [_, _]) s2).get2
        rw [Nat.zero_add] at b1 d1
        have zO2 : UO < w9'.heap.size := cell_lt b0
        have zX2 : UX < w9'.heap.size := cell_lt d0
        have hne2 : ¬ UX = UO := fun e => hne e.symm
        clear hb9 hg9 hf9 s1 s2)
      have hsix:=four_cells (.slice ga2 gs.length gc3) (.slice fa2 fs.length fc3) (.int .i64 0) (.int .i64 0) (cells_of (cs:=[_,_]) S1.out) (cells_of (cs:=[_,_]) S2.out) hne;have hb6:Below w.heap.size w (fourW w9' UO UX (.slice ga2 gs.length gc3) (.slice fa2 fs.length fc3) (.int .i64 0) (.int .i64 0)):=below_fourW Hw9.out Hlo.out.1 Hlo.out.2;have hh:∀b,b≠UO→b≠UX→(fourW w9' UO UX (.slice ga2 gs.length gc3) (.slice fa2 fs.length fc3) (.int .i64 0) (.int .i64 0)).heap[b]?=w9'.heap[b]?:=fun b h1 h2=>four_heap h1 h2;have hs6:(fourW w9' UO UX (.slice ga2 gs.length gc3) (.slice fa2 fs.length fc3) (.int .i64 0) (.int .i64 0)).heap.size=w9'.heap.size:=by simp [fourW,World.setCell]
      have hiv:∀b,iv wo.heap.size w9'.heap.size b→b≠UO∧b≠UX:=fun b hb=>by have:=hb.1;have:=HUW.out;omega
      refine bodyPost_ret (unit_res rfl rfl rfl hsix.1 hsix.2) rfl (Hpost.out _ _ ga2 gc3 fa2 fc3 hb6 rfl ?_ ?_)
      · exact Hg9.out.mono rGlobal_mono (fun b hb=>⟨by have:=hb.1;omega,Nat.lt_of_lt_of_eq hb.2 hs6.symm⟩) (stays_at fun b hb _=>hh b (hiv b hb).1 (hiv b hb).2)
      · exact Hf9.out.mono rFunc_mono (fun b hb=>⟨by have:=hb.1;omega,Nat.lt_of_lt_of_eq hb.2 hs6.symm⟩) (stays_at fun b hb _=>hh b (hiv b hb).1 (hiv b hb).2)
 · have hq:((decide (c<0)||decide (0<c))||(decide (d<0)||decide (0<d)))=true:=by rw [Bool.eq_iff_iff];simp;omega
   have Hpost:Hid (∀e w',Below w.heap.size w w'→e = .returned (.tuple #[.agg #[.slice none 0 0,.slice none 0 0],.agg #[.int .i64 c,.int .i64 d]])→StillPost gs fs w e w'):=fun e w' h1 h2=>by
    refine⟨h1,fun _=>?_,fun h=>?_⟩
    · rw [Hcd.out];exact h2
    · rw [Hcd.out] at h;exact absurd h hc0
   have s1:=S1.out;have s2:=S2.out;have f0:=thawed s1 0;have f1:=thawed s1 1;have g0:=thawed s2 0;have g1:=thawed s2 1;obtain⟨b0,b1⟩:=(cells_of (cs:=[_,_]) s1).get2;obtain⟨d0,d1⟩:=(cells_of (cs:=[_,_]) s2).get2;rw [Nat.zero_add] at b1 d1;have zO2:UO<W2.heap.size:=cell_lt b0;have zX2:UX<W2.heap.size:=cell_lt d0;obtain⟨hn3,hn4,hn5,hn6⟩:=Hn3.out;have hne2:¬UX=UO:=by omega
   clear hc0 s1 s2;go_wp2_with fail;go_region;have hsix:=four_cells (.slice none 0 0) (.slice none 0 0) (.int .i64 c) (.int .i64 d) (cells_of (cs:=[_,_]) S1.out) (cells_of (cs:=[_,_]) S2.out) hne;have hb6:Below w.heap.size w (fourW W2 UO UX (.slice none 0 0) (.slice none 0 0) (.int .i64 c) (.int .i64 d)):=below_fourW Hw2.out Hlo.out.1 Hlo.out.2;obtain⟨W6,hW6⟩:∃W6,W6=fourW W2 UO UX (.slice none 0 0) (.slice none 0 0) (.int .i64 c) (.int .i64 d):=⟨_,rfl⟩
   rw [←hW6] at hsix hb6;unfold fourW at hW6;rw [←hW6];have Hsix:=hid hsix;have Hb6:=hid hb6;clear hW6 hsix hb6;go_wp2_with fail;refine bodyPost_ret (unit_res rfl rfl rfl (fun j v hj=>Hsix.out.1 j v hj) (fun j v hj=>Hsix.out.2 j v hj)) rfl (Hpost.out _ _ Hb6.out.drew rfl)

end Go.Proofs.YtnkogppgacappaaGreatDoor
