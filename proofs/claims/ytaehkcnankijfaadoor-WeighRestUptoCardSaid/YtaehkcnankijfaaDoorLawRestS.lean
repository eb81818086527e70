/- The law WeighRest: its walk. WeighRest: where what it reads is of bulk at most 1048576, the law answers true for every input, and each argument reads behind the call as before. Its listed variable is code.ways, as the program's text lays it. -/
import Derived.Test.YtaehkcnankijfaaDoorBy
import Derived.Test.YtaehkcnankijfaaDoorBy1
import Derived.Test.YtaehkcnankijfaaDoorSameU
import Derived.Test.YtaehkcnankijfaaDoorArgR
import Derived.Deep.DeepCutAuto
import Derived.BigRegion
namespace Go.Proofs.YtaehkcnankijfaaDoor
open Go.RowKit

theorem checkF_many {u : DUnit} (h : checkF u = (0, 0)) : ∀ (k : Nat) (f : DFunc), u.funcs[k]? = some f → manyOf f.blocks ≤ 1048576 ∧ f.blocks.length ≤ 1048576 := by
  intro k f hf
  obtain ⟨hh, -⟩ := checkF_at h hf
  obtain ⟨-, -, -, -, -, -, -, h40, hm⟩ := headE_ok hh
  exact ⟨by omega, by omega⟩

theorem Lay_ok {S S' : Nat → Prop} (ga : Option Addr) (gc : Nat) (fa : Option Addr) (fc : Nat) (gs : List DGlobal) (fs : List DFunc) (k : Int) (ca : Option Addr) (cc : Nat) (C : List Int) (n m : Nat) (L : List Int) (w : World)
    (hg : SlAt S w 3 rGlobal (.slice ga gs.length gc) gs) (hf : SlAt S w 4 rFunc (.slice fa fs.length fc) fs) (hC : SlAt S' w 1 rInt (.slice ca n cc) C) (hw : Ways w)
    (hgl : gs.length ≤ 1048576) (hfl : fs.length ≤ 1048576) (hcl : C.length ≤ 1048576) (hsm : ∀ (k : Nat) (f : DFunc), fs[k]? = some f → manyOf f.blocks ≤ 1048576 ∧ f.blocks.length ≤ 1048576)
    (hn : C.length = n) (hL : layS ⟨gs, fs⟩ k C = (L, 0, 0)) (hm : L.length = m) :
    Calls Tryd.prog 15 #[.agg #[.slice ga gs.length gc, .slice fa fs.length fc], .int .i64 k, .slice ca n cc] w fun e w' =>
      ∃ a c, e = .returned (.tuple #[.slice a m c, .agg #[.int .i64 0, .int .i64 0]]) ∧ SlAt (fun b => w.heap.size ≤ b) w' 1 rInt (.slice a m c) L ∧ Below w.heap.size w w' := by
  subst hn hm
  refine (Lay_any ga gc fa fc gs fs k ca cc C w hg hf hC hw hgl hfl hcl hsm).mono ?_
  rintro e w' ⟨v, rfl, hv, hb⟩
  rw [hL] at hv ⊢
  dsimp only at hv ⊢
  obtain ⟨a, c, rfl⟩ := sl_len hv
  exact ⟨a, c, rfl, hv, hb⟩

theorem by_ok {S S' : Nat → Prop} (ga : Option Addr) (gc : Nat) (fa : Option Addr) (fc : Nat) (gs : List DGlobal) (fs : List DFunc) (n : Nat) (ca : Option Addr) (cc : Nat) (Cs : List (List Int)) (m : Nat) (w : World)
    (hg : SlAt S w 3 rGlobal (.slice ga gs.length gc) gs) (hf : SlAt S w 4 rFunc (.slice fa n fc) fs) (hC : SlAt S' w 1 rRow (.slice ca m cc) Cs) (hw : Ways w)
    (hgl : gs.length ≤ 1048576) (hn : fs.length = n) (hm : Cs.length = m) (hfl : n ≤ 1048576) (hcl : m ≤ 1048576) (hsm : ∀ (k : Nat) (f : DFunc), fs[k]? = some f → manyOf f.blocks ≤ 1048576 ∧ f.blocks.length ≤ 1048576) (hcm : ∀ C ∈ Cs, C.length ≤ 1048576)
    (hfit : fitsF ⟨gs, fs⟩ Cs = (0, 0)) :
    Calls Tryd.prog 23 #[.agg #[.slice ga gs.length gc, .slice fa n fc], .slice ca m cc] w fun e w' =>
      ∃ ga2 gc2 fa2 fc2, e = .returned (.tuple #[.agg #[.slice ga2 gs.length gc2, .slice fa2 n fc2], .agg #[.int .i64 0, .int .i64 0]]) ∧
        SlAt (iv w.heap.size w'.heap.size) w' 3 rGlobal (.slice ga2 gs.length gc2) gs ∧ SlAt (iv w.heap.size w'.heap.size) w' 4 rFunc (.slice fa2 n fc2) (byL fs Cs) ∧ Below w.heap.size w w' := by
  subst hn hm
  refine (by_any (S := S) (S' := S') ga gc fa fc gs fs ca cc Cs w hg hf hC hw hgl hfl hcl hsm hcm).mono ?_
  rintro e w' ⟨hb, ⟨c, d, h1, h2, -⟩ | ⟨-, ga2, gc2, fa2, fc2, rfl, h3, h4⟩⟩
  · rw [hfit] at h1
    cases h1
    exact absurd ⟨rfl, rfl⟩ h2
  · exact ⟨_, _, _, _, rfl, h3, h4, hb⟩

/-- What weigh.Lay tells, its fault in a box. -/
def RCut (wr wc : World) (v9 v10 : Value) (n : Nat) (L : List Int) : Prop :=
  ∃ la lc fb, v9 = .slice la n lc ∧ v10 = .pointer (some ⟨fb, 0, none⟩) ∧ Below wr.heap.size wr wc ∧ SlAt (fun b => wr.heap.size ≤ b) wc 1 rInt (.slice la n lc) L ∧ wc.cell? ⟨fb, 0, none⟩ = some (.int .i64 0)
theorem RCut.behind {wr w4 : World} {n : Nat} {L : List Int} {la : Option Addr} {lc : Nat} (hb : Below wr.heap.size wr w4) (h : SlAt (fun b => wr.heap.size ≤ b) w4 1 rInt (.slice la n lc) L) :
    RCut wr (w4.alloc (.cells #[.int .i64 0, .int .i64 0] 28)) (.slice la n lc) (.pointer (some ⟨w4.heap.size, 0, none⟩)) n L :=
  ⟨la, lc, _, rfl, rfl, hb.alloc hb.size _, h.later rInt_mono (Below.alloc (Below.refl _ _) (Nat.le_refl _) _), by simp⟩
theorem RCut.ahead {wr w4 : World} {n m : Nat} {L : List Int} {la : Option Addr} {lc : Nat} {o0 o1 : Value} (hb : Below wr.heap.size wr w4) (hc : CellsAt w4 wr.heap.size 0 [o0, o1]) (h : SlAt (fun b => m ≤ b) w4 1 rInt (.slice la n lc) L) (hm : wr.heap.size + 1 ≤ m) :
    RCut wr ((w4.setCell ⟨wr.heap.size, 0, none⟩ (.int .i64 0)).setCell ⟨wr.heap.size, 1, none⟩ (.int .i64 0)) (.slice la n lc) (.pointer (some ⟨wr.heap.size, 0, none⟩)) n L := by
  obtain ⟨q0, q1⟩ := hc.get2
  rw [Nat.zero_add] at q1
  refine ⟨la, lc, _, rfl, rfl, (hb.setCell (p := ⟨wr.heap.size, 0, none⟩) (Nat.le_refl _) _).setCell (p := ⟨wr.heap.size, 1, none⟩) (Nat.le_refl _) _, (h.mono rInt_mono (fun _ h => h) (stays_at fun b hb' _ => ?_)).mono rInt_mono (fun b hb => by omega) (Stays.refl _ _), (set_two q0 q1).1⟩
  iterate 2 rw [Below.heap_setCell _ _ _ _ (by dsimp only; omega)]

set_option maxRecDepth 100000 in
set_option maxHeartbeats 4000000 in
theorem weighRest_any (w : World) (hw : Ways w) (ga : Option Addr) (gc : Nat) (fa : Option Addr) (fc : Nat) (gs : List DGlobal) (fs : List DFunc) (hg : SlAt (fun b => b < w.heap.size) w 3 rGlobal (.slice ga gs.length gc) gs) (hf : SlAt (fun b => b < w.heap.size) w 4 rFunc (.slice fa fs.length fc) fs)
    (hsm : Small gs fs) (ca : Option Addr) (cc : Nat) (Cs : List (List Int)) (hC : SlAt (fun b => b < w.heap.size) w 1 rRow (.slice ca Cs.length cc) Cs) (hcs : szL (szL szInt) Cs ≤ 1048576) :
    Calls Tryd.prog 8 #[.agg #[.slice ga gs.length gc, .slice fa fs.length fc], .slice ca Cs.length cc] w fun e w' => e = .returned (.bool true) ∧ Below w.heap.size w w' := by
  obtain ⟨hcl, hcm⟩ := rows_small hcs
  have Hg := hid hg
  have Hf := hid hf
  have HC := hid hC
  have Hw := hid hw
  have Hsm := hid hsm
  have Hcm := hid hcm
  clear hg hf hC hw hsm hcm hcs
  go_enter Tryd.func8, Tryd.ntmps8
  obtain ⟨W, hW⟩ : ∃ W, W = (w.alloc (.cells #[.slice ga gs.length gc, .slice fa fs.length fc] 25)) := ⟨_, rfl⟩
  have hbW : Below w.heap.size w W := by rw [hW]; (repeat (first | exact Below.refl _ _ | refine Below.alloc ?_ (by first | omega | (simp <;> omega)) _ | refine Below.setCell ?_ (by first | omega | (simp <;> omega)) _ | refine below_drewN ?_ _ | refine Below.drew ?_))
  have B0 : CellsAt W w.heap.size 0 [.slice ga gs.length gc, .slice fa fs.length fc] := by
    intro j u hj; rw [hW, Nat.zero_add, World.cell?_alloc_new]; simpa using hj
  have hWs : W.heap.size = w.heap.size + 1 := by rw [hW]; simp
  have HW := hid hW
  clear hW
  go_wp2_with fail
  rw [← HW.out]
  refine (by_any ga gc fa fc gs fs ca cc Cs W (Hg.out.later rGlobal_mono hbW) (Hf.out.later rFunc_mono hbW) (HC.out.later rRow_mono hbW) (Ways.below Hw.out hbW) Hsm.out.globals Hsm.out.funcs hcl Hsm.out.many Hcm.out).mono ?_
  rintro e w1 ⟨hb1, hcase⟩
  have Hb1 : Hid (Below w.heap.size w w1) := hbW.trans (hb1.mono (by omega))
  obtain ⟨g0, g1⟩ := (B0.later hb1).get2
  rw [Nat.zero_add] at g1
  have z0 : w.heap.size < w1.heap.size := cell_lt g0
  have HB0 := hid (B0.later hb1)
  rcases hcase with ⟨c, d, hfit, hcd, rfl⟩ | ⟨hfit, ga2, gc2, fa2, fc2, rfl, hg2, hf2⟩
  · have hc : c ≠ 0 := fun e => hcd (by
      have h := fitsF_code (u := ⟨gs, fs⟩) (Cs := Cs) (by rw [hfit]; exact e)
      rw [hfit] at h
      exact ⟨congrArg Prod.fst h, congrArg Prod.snd h⟩)
    have hq : (decide (c < 0) || decide (0 < c)) = true := ne_yes hc
    clear hc hcd hfit hb1 hbW B0 hWs HW
    go_wp2_with fail
    refine (none_any none none 0 0 0 0 _).mono ?_
    rintro e w2 ⟨rfl, hb2⟩
    go_wp2_with fail
    go_ret
    exact ⟨rfl, by have h := Hb1.out; (repeat (first | exact Below.refl _ _ | exact (hb2).mono (by first | omega | (simp <;> omega) | (have hh := (hb2).size; (try simp at hh); omega) | (have hh := (hb2).size; (try simp at hh); (try simp); omega) | (have hh := (h).size; (try simp at hh); omega) | (have hh := (h).size; (try simp at hh); (try simp); omega)) | refine Below.trans ?_ ((hb2).mono (by first | omega | (simp <;> omega) | (have hh := (hb2).size; (try simp at hh); omega) | (have hh := (hb2).size; (try simp at hh); (try simp); omega) | (have hh := (h).size; (try simp at hh); omega) | (have hh := (h).size; (try simp at hh); (try simp); omega))) | exact (h).mono (by first | omega | (simp <;> omega) | (have hh := (hb2).size; (try simp at hh); omega) | (have hh := (hb2).size; (try simp at hh); (try simp); omega) | (have hh := (h).size; (try simp at hh); omega) | (have hh := (h).size; (try simp at hh); (try simp); omega)) | refine Below.trans ?_ ((h).mono (by first | omega | (simp <;> omega) | (have hh := (hb2).size; (try simp at hh); omega) | (have hh := (hb2).size; (try simp at hh); (try simp); omega) | (have hh := (h).size; (try simp at hh); omega) | (have hh := (h).size; (try simp at hh); (try simp); omega))) | refine Below.alloc ?_ (by first | omega | (simp <;> omega) | (have hh := (hb2).size; (try simp at hh); omega) | (have hh := (hb2).size; (try simp at hh); (try simp); omega) | (have hh := (h).size; (try simp at hh); omega) | (have hh := (h).size; (try simp at hh); (try simp); omega)) _ | refine Below.setCell ?_ (by first | omega | (simp <;> omega) | (have hh := (hb2).size; (try simp at hh); omega) | (have hh := (hb2).size; (try simp at hh); (try simp); omega) | (have hh := (h).size; (try simp at hh); omega) | (have hh := (h).size; (try simp at hh); (try simp); omega)) _ | refine below_drewN ?_ _ | refine Below.drew ?_))⟩
  · have hpl := rest_plain hfit
    have hinv := fitsF_inv hfit
    have Hpl := hid hpl
    have Hinv := hid hinv
    have Hfit := hid hfit
    have Hg2 := hid hg2
    have Hf2 := hid hf2
    clear hpl hinv hfit hg2 hf2 hb1 hbW B0 hWs HW
    go_wp2_with fail
    obtain ⟨W3, hW3⟩ : ∃ W3, W3 = (w1.alloc (.cells #[.slice ga2 gs.length gc2, .slice fa2 fs.length fc2] 25)).alloc (.cells #[.int .i64 0, .int .i64 0] 28) := ⟨_, rfl⟩
    have hb13 : Below w1.heap.size w1 W3 := by rw [hW3]; (repeat (first | exact Below.refl _ _ | refine Below.alloc ?_ (by first | omega | (simp <;> omega)) _ | refine Below.setCell ?_ (by first | omega | (simp <;> omega)) _ | refine below_drewN ?_ _ | refine Below.drew ?_))
    have hs3 : W3.heap.size = w1.heap.size + 2 := by rw [hW3]; simp
    have V0 : CellsAt W3 w1.heap.size 0 [.slice ga2 gs.length gc2, .slice fa2 fs.length fc2] := by
      intro j u hj; rw [hW3, Nat.zero_add, World.cell?_alloc2_first]; simpa using hj
    rw [← hW3]
    have Hb13 := hid hb13
    have Hs3 := hid hs3
    have HV0 := hid V0
    obtain ⟨ii, hii, hiz0, hiz1, hiz2⟩ := info_parts infoInt'
    obtain ⟨ir, hir, hrz0, hrz1, hrz2⟩ := info_parts infoInts
    clear hb13 hs3 V0 hW3 g0 g1 z0
    go_loopw [7, 8] (fun v7 i wr => ∃ (k : Nat) (v : Value), v = v7 ∧ k ≤ fs.length ∧ i = .int .i64 k ∧ Build W3 wr 26 1 rRow v (nowL fs Cs k)) (fun _ i _ => fs.length - (intOf i).toNat)
    case atStart => exact ⟨0, _, rfl, Nat.zero_le _, rfl, Build.start W3 26 1 rRow⟩
    case round =>
      obtain ⟨k, v, rfl, hk, rfl, hbd⟩ := hrel
      have Hbd := hid hbd
      have hwr : Below w1.heap.size w1 wr := Hb13.out.trans (hbd.old.mono Hb13.out.size)
      have hww : Below w.heap.size w wr := Hb1.out.trans (hwr.mono Hb1.out.size)
      obtain ⟨g0, g1⟩ := (HB0.out.later hwr).get2
      obtain ⟨v0, v1⟩ := (HV0.out.later hbd.old).get2
      rw [Nat.zero_add] at g1 v1
      have z0 : w.heap.size < wr.heap.size := cell_lt g0
      have z1 : w1.heap.size < wr.heap.size := cell_lt v0
      have Hwr := hid hwr
      have Hww := hid hww
      have hfl : fs.length ≤ 1048576 := Hsm.out.funcs
      clear hbd hwr
      by_cases hkl : k < fs.length
      · have hkC : k < Cs.length := by have h : Cs.length = fs.length := Hinv.out.2.1; omega
        obtain ⟨b, off, ra, rc, rfl, d1, hrowk⟩ := rows_at (HC.out.later rRow_mono hww) hkC
        have zb : b < wr.heap.size := cell_lt d1
        obtain ⟨f, hf⟩ : ∃ f, f = fs[k] := ⟨_, rfl⟩
        obtain ⟨C, hC⟩ : ∃ C, C = Cs[k] := ⟨_, rfl⟩
        have hfk : fs[k]? = some f := by rw [List.getElem?_eq_getElem hkl, hf]
        have hlen : C.length = f.blocks.length := by rw [hC, hf]; exact (rowE_zero hkl hkC).1 (Hinv.out.2.2 k hkC)
        obtain ⟨hh, hbe⟩ := checkF_at (u := ⟨gs, fs⟩) Hinv.out.1 hfk
        obtain ⟨-, -, -, -, -, -, n1, n40, -⟩ := headE_ok hh
        obtain ⟨ord, hord⟩ : ∃ ord, ord = layF f.blocks (cntOf C) := ⟨_, rfl⟩
        have hperm := (lay_perm hbe (by omega) (cntOf C)).1
        rw [← hord] at hperm
        have hlay : layS ⟨gs, fs⟩ (k : Int) C = (ord.map fun b : Nat => (b : Int), 0, 0) := by
          unfold layS
          rw [if_neg (by rw [Hinv.out.1]; simp), if_neg (by omega)]
          dsimp only
          rw [Int.toNat_natCast, hfk]
          dsimp only
          rw [if_neg (by simpa using hlen), hord]
        have Hnow : Hid (nowL fs Cs (k + 1) = nowL fs Cs k ++ [ord.map (cntOf C)]) := by
          show _ = _
          rw [nowL_succ, List.getD_eq_getElem?_getD, List.getD_eq_getElem?_getD, hfk, List.getElem?_eq_getElem hkC, Option.getD_some, Option.getD_some, ← hC, hord]
          rfl
        have hcl2 : C.length ≤ 1048576 := by rw [hC]; exact Hcm.out _ (List.getElem_mem hkC)
        obtain ⟨n, hn⟩ : ∃ n, C.length = n := ⟨_, rfl⟩
        rw [← hC] at d1 hrowk
        have Hn : Hid (C.length = n) := hn
        have hol : ord.length = n := by have := hperm.len; omega
        have Hol := hid hol
        have Hperm : Hid (∀ x ∈ ord, x < n) := fun x hx => by have := hperm.lt x hx; omega
        have hn40 : n ≤ 40 := by omega
        have Hrowk := hid hrowk
        have Hlay := hid hlay
        rw [hn] at d1
        clear hlen hh hbe n1 n40 hord hperm hlay hf hC hfk hol hrowk hww
        have hlm : (ord.map fun b : Nat => (b : Int)).length = n := by rw [List.length_map, Hol.out]
        have Hlm := hid hlm
        have Hrow2 : Hid (SlAt (fun b => b < w.heap.size) wr 1 rInt (.slice ra n rc) C) := by have h := Hrowk.out; rw [Hn.out] at h; exact h
        clear hn hlm
        go_wp2_with fail
        have Hbd8 : Hid (Below w.heap.size w wr.drew) := Hww.out.drew
        have Hrd8 : Hid (SlAt (fun b => b < w.heap.size) wr.drew 1 rInt (.slice ra n rc) C) := Hrow2.out.later rInt_mono (Below.refl _ _).drew
        obtain ⟨WA, hWA⟩ : ∃ WA, WA = (wr.alloc (.cells #[.int .i64 0, .int .i64 0] 28)).drew := ⟨_, rfl⟩
        have hbA : Below wr.heap.size wr WA := by rw [hWA]; (repeat (first | exact Below.refl _ _ | refine Below.alloc ?_ (by first | omega | (simp <;> omega)) _ | refine Below.setCell ?_ (by first | omega | (simp <;> omega)) _ | refine below_drewN ?_ _ | refine Below.drew ?_))
        have hZA : CellsAt WA wr.heap.size 0 [.int .i64 0, .int .i64 0] := by
          intro j u hj; rw [hWA, Nat.zero_add]; show World.cell? (wr.alloc _) _ = _; rw [World.cell?_alloc_new]; simpa using hj
        have HFA : Hid (∀ j, WA.frozen? ⟨wr.heap.size, j, none⟩ = false) := by intro j; rw [hWA]; simp
        have HsA : Hid (WA.heap.size = wr.heap.size + 1) := by show _ = _; rw [hWA]; simp
        have HbWA : Hid (Below w.heap.size w WA) := Hww.out.trans (hbA.mono Hww.out.size)
        have HrA : Hid (SlAt (fun b => b < w.heap.size) WA 1 rInt (.slice ra n rc) C) := Hrow2.out.later rInt_mono hbA
        have HWA := hid hWA
        have HbA := hid hbA
        have HZA := hid hZA
        obtain ⟨ordI, hordI⟩ : ∃ ordI : List Int, ordI = ord.map fun b : Nat => (b : Int) := ⟨_, rfl⟩
        rw [← hordI] at Hlay Hlm
        have HordI := hid hordI
        clear hWA hbA hZA hordI
        go_cut [9, 10] (fun v9 v10 wc => RCut wr wc v9 v10 n ordI)
        case first =>
          go_region_law
            (first
              | (go_simp; go_at_call 15; (with_reducible refine (Lay_ok ga gc fa fc gs fs (k : Int) ra rc C n n ordI wr.drew (Hg.out.later rGlobal_mono Hbd8.out) (Hf.out.later rFunc_mono Hbd8.out) Hrd8.out (Ways.below Hw.out Hbd8.out) Hsm.out.globals Hsm.out.funcs hcl2 Hsm.out.many Hn.out Hlay.out Hlm.out).mono ?_)
                 rintro e w4 ⟨la, lc, rfl, hlv, hb4'⟩
                 have hb4 : Below wr.heap.size wr w4 := (Below.refl wr.heap.size wr).drew.trans hb4'
                 have Hcu := hid (RCut.behind hb4 hlv)
                 clear hlv hb4 hb4' g0 g1 v0 v1 d1)
              | (go_simp; rw [← HWA.out]; go_at_call 15; (with_reducible refine (Lay_ok ga gc fa fc gs fs (k : Int) ra rc C n n ordI WA (Hg.out.later rGlobal_mono HbWA.out) (Hf.out.later rFunc_mono HbWA.out) HrA.out (Ways.below Hw.out HbWA.out) Hsm.out.globals Hsm.out.funcs hcl2 Hsm.out.many Hn.out Hlay.out Hlm.out).mono ?_)
                 rintro e w4 ⟨la, lc, rfl, hlv, hb4'⟩
                 have hb4 : Below wr.heap.size wr w4 := HbA.out.trans (hb4'.mono (by have := HsA.out; omega))
                 have hz4 := HZA.out.later hb4'
                 have Hcu := hid (RCut.ahead hb4 hz4 hlv (by have := HsA.out; omega))
                 obtain ⟨q0, q1⟩ := hz4.get2
                 rw [Nat.zero_add] at q1
                 have hzA : wr.heap.size < WA.heap.size := by have := HsA.out; omega
                 have p0 := (hb4'.frozen (p := ⟨wr.heap.size, 0, none⟩) hzA).trans (HFA.out 0)
                 have p1 := (hb4'.frozen (p := ⟨wr.heap.size, 1, none⟩) hzA).trans (HFA.out 1)
                 have zq2 : wr.heap.size < w4.heap.size := cell_lt q0
                 clear hlv hb4 hb4' hz4 g0 g1 v0 v1 d1))
          all_goals
            go_wp2_with fail
            go_meet
            first
              | with_reducible exact Hcu.out
              | exact Hcu.out
        case rest =>
        obtain ⟨la, lc, fb, rfl, rfl, hb4, hlv, q0⟩ := hcut
        obtain ⟨w4, hw4⟩ : ∃ w4, w4 = wc := ⟨_, rfl⟩
        subst hw4
        have d2 := cell_later' d1 hb4
        have g2 := cell_later' g0 hb4
        have g3 := cell_later' g1 hb4
        have v2 := cell_later' v0 hb4
        have v3 := cell_later' v1 hb4
        have zb4 : b < w4.heap.size := cell_lt d2
        have zw4 : w.heap.size < w4.heap.size := cell_lt g2
        have z14 : w1.heap.size < w4.heap.size := cell_lt v2
        have zf4 : fb < w4.heap.size := cell_lt q0
        have Hlv := hid hlv
        have Hb4 := hid hb4
        clear hlv hb4 g0 g1 v0 v1 d1
        obtain ⟨wo, hwo⟩ : ∃ wo : World, wo = wr := ⟨_, rfl⟩
        subst hwo
        go_wp2_with fail
        go_loopw [11, 12] (fun v11 i wi => ∃ (j : Nat) (v2 : Value), v2 = v11 ∧ j ≤ n ∧ i = .int .i64 j ∧ Build w4 wi 3 1 rInt v2 ((ord.take j).map (cntOf C))) (fun _ i _ => n - (intOf i).toNat)
        case atStart => exact ⟨0, _, rfl, Nat.zero_le _, rfl, Build.start w4 3 1 rInt⟩
        case round =>
          obtain ⟨j, v2, rfl, hj, rfl, hbd2⟩ := hrel
          have Hbd2 := hid hbd2
          have Hb4r : Hid (Below wo.heap.size wo wr) := Hb4.out.trans (hbd2.old.mono Hb4.out.size)
          have d3 := cell_later' d2 hbd2.old
          have zb5 : b < wr.heap.size := cell_lt d3
          by_cases hjl : j < n
          · have hjo : j < ord.length := by rw [Hol.out]; exact hjl
            obtain ⟨x, hx⟩ : ∃ x, ord[j] = x := ⟨_, rfl⟩
            have hxn : x < n := by rw [← hx]; exact Hperm.out _ (List.getElem_mem hjo)
            have hjI : j < ordI.length := by rw [Hlm.out]; exact hjl
            obtain ⟨lb, loff, hla, l1⟩ := int_at (Hlv.out.later rInt_mono hbd2.old) (t := j) hjI
            subst hla
            have hIx : ordI[j]'hjI = ((x : Nat) : Int) := by
              have h : ordI[j]? = some ((x : Nat) : Int) := by rw [HordI.out, List.getElem?_map, List.getElem?_eq_getElem hjo, hx]; rfl
              rw [List.getElem?_eq_getElem hjI] at h; exact Option.some.inj h
            rw [hIx] at l1
            have hxC : x < C.length := by rw [Hn.out]; exact hxn
            obtain ⟨rb, roff, hra, c1⟩ := int_at (Hrow2.out.later rInt_mono Hb4r.out) (t := x) hxC
            subst hra
            obtain ⟨cx, hcx⟩ : ∃ cx, C[x]'hxC = cx := ⟨_, rfl⟩
            rw [hcx] at c1
            have hi64 : I64 cx := by
              obtain ⟨-, -, cs9, -, -, ⟨-, h1, h2⟩, -⟩ := (Hrow2.out).get hxC
              rw [hcx] at h1 h2
              exact ⟨h1, h2⟩
            have Hi64 := hid hi64
            have Htk : Hid ((ord.take (j + 1)).map (cntOf C) = (ord.take j).map (cntOf C) ++ [cx]) := by
              show _ = _
              rw [List.take_succ_eq_append_getElem hjo, List.map_append, hx]
              congr 1
              show [cntOf C x] = [cx]
              unfold cntOf
              rw [List.getD_eq_getElem?_getD, List.getElem?_eq_getElem hxC, hcx]; rfl
            have Hll : Hid (((ord.take j).map (cntOf C)).length + 1 ≤ 2097152) := by
              show _ ≤ _
              rw [List.length_map, List.length_take]; omega
            have zlb : lb < wr.heap.size := cell_lt l1
            have zrb : rb < wr.heap.size := cell_lt c1
            have hq1 : decide (((x : Nat) : Int) < 0) = false := decide_eq_false (by omega)
            have hq2 : decide (n ≤ x) = false := decide_eq_false (by omega)
            clear hbd2 hIx hx hcx hi64
            go_wp2_with fail
            go_big_region
            all_goals
              go_wp2_with fail
              go_region_law
                (first
                  | (refine step_append_Own rfl _ _ 26 rfl w4.heap.size 3 ii _ 1 8 Tryd.underlying26 hii hiz0 hiz1 hiz2 rfl (by decide) rInt_mono v2 ((ord.take j).map (cntOf C)) rfl ?_ ⟨wr.heap.size, 0, none⟩ 1 [.int .i64 cx] cx rfl rfl ?_ ?_ ?_ Hll.out (by decide) ?_ ?_
                     · exact Hbd2.out.own.later rInt_mono (by (repeat (first | exact Below.refl _ _ | refine Below.alloc ?_ (by first | omega | (simp <;> omega)) _ | refine Below.setCell ?_ (by first | omega | (simp <;> omega)) _ | refine below_drewN ?_ _ | refine Below.drew ?_)))
                     · intro j u hj; exact new_cells wr _ _ rfl j u hj
                     · intro u hu; simp at hu; rcases hu with rfl; rfl
                     · exact ⟨rfl, Hi64.out.1, Hi64.out.2⟩
                     · have := Hbd2.out.old.size; simp; omega
                     intro v3 w3 hown hgrow ⟨g2, cap2, hv3⟩
                     have hb3 : Below w4.heap.size w4 w3 := by
                       refine Below.grown ?_ hgrow (by have := Hbd2.out.old.size; simp; omega) (fun g hg => (Hbd2.out.own.lt g hg).1)
                       have h := Hbd2.out.old
                       (repeat (first | exact Below.refl _ _ | exact (h).mono (by first | omega | (simp <;> omega) | (have hh := (h).size; (try simp at hh); omega) | (have hh := (h).size; (try simp at hh); (try simp); omega)) | refine Below.trans ?_ ((h).mono (by first | omega | (simp <;> omega) | (have hh := (h).size; (try simp at hh); omega) | (have hh := (h).size; (try simp at hh); (try simp); omega))) | refine Below.alloc ?_ (by first | omega | (simp <;> omega) | (have hh := (h).size; (try simp at hh); omega) | (have hh := (h).size; (try simp at hh); (try simp); omega)) _ | refine Below.setCell ?_ (by first | omega | (simp <;> omega) | (have hh := (h).size; (try simp at hh); omega) | (have hh := (h).size; (try simp at hh); (try simp); omega)) _ | refine below_drewN ?_ _ | refine Below.drew ?_))
                     have Hbd3 : Hid (Build w4 w3 3 1 rInt v3 ((ord.take (j + 1)).map (cntOf C))) := ⟨by rw [Htk.out]; exact hown, hb3⟩
                     clear hown hgrow hb3 hv3))
              all_goals
                go_wp2_with fail
                go_roundw
                case rel => exact ⟨j + 1, v3, rfl, by omega, by go_num, Hbd3.out⟩
                case measure => simp [intOf]; omega
          · have hjn : j = ord.length := by rw [Hol.out]; omega
            rw [hjn, List.take_length] at Hbd2
            obtain ⟨va, vc, hvs⟩ := Hbd2.out.own.shape
            rw [List.length_map] at hvs
            subst hvs
            clear hbd2 hjn
            have hkk : (nowL fs Cs k).length = k := nowL_len fs Cs k
            have Hkk := hid hkk
            clear hkk
            go_wp2_with (at_builtin; refine wpList_append_Own rfl _ _ 53 rfl W3.heap.size 26 ir _ 1 24 Tryd.underlying53 hir hrz0 hrz1 hrz2 rfl (by decide) rRow_mono v (nowL fs Cs k) rfl ?_ ⟨wr.heap.size, 0, none⟩ 1 [.slice va ord.length vc] (ord.map (cntOf C)) rfl rfl ?_ ?_ ?_ ?_ (by decide) ?_ ?_)
            · exact (Hbd.out.own.later rRow_mono Hb4r.out).later rRow_mono (by (repeat (first | exact Below.refl _ _ | refine Below.alloc ?_ (by first | omega | (simp <;> omega)) _ | refine Below.setCell ?_ (by first | omega | (simp <;> omega)) _ | refine below_drewN ?_ _ | refine Below.drew ?_)))
            · exact new_cells _ _ _ rfl
            · intro u hu; simp at hu; rcases hu with rfl; rfl
            · refine ⟨_, rfl, Hbd2.out.own.sub rInt_mono (by decide) (by have := Hbd.out.old.size; have := Hb4.out.size; omega) (fun g hg => by have := (Hbd.out.own.lt g hg).2; have := Hb4.out.size; omega) (fun b _ h2 => Below.heap_alloc _ _ _ h2) (by simp)⟩
            · rw [Hkk.out]; omega
            · have := Hbd.out.old.size; have := Hb4r.out.size; simp; omega
            · intro v3 w3 hown hgrow g2 cap2 hv3
              have hb3 : Below W3.heap.size W3 w3 := by
                refine Below.grown ?_ hgrow (by have := Hbd.out.old.size; have := Hb4r.out.size; simp; omega) (fun g hg => (Hbd.out.own.lt g hg).1)
                have h := Hbd.out.old
                have h2 := Hb4r.out
                have hs8 := h.size
                have hs9 := h2.size
                (repeat (first | exact Below.refl _ _ | exact (h2).mono (by first | omega | (simp <;> omega) | (have hh := (h2).size; (try simp at hh); omega) | (have hh := (h2).size; (try simp at hh); (try simp); omega) | (have hh := (h).size; (try simp at hh); omega) | (have hh := (h).size; (try simp at hh); (try simp); omega)) | refine Below.trans ?_ ((h2).mono (by first | omega | (simp <;> omega) | (have hh := (h2).size; (try simp at hh); omega) | (have hh := (h2).size; (try simp at hh); (try simp); omega) | (have hh := (h).size; (try simp at hh); omega) | (have hh := (h).size; (try simp at hh); (try simp); omega))) | exact (h).mono (by first | omega | (simp <;> omega) | (have hh := (h2).size; (try simp at hh); omega) | (have hh := (h2).size; (try simp at hh); (try simp); omega) | (have hh := (h).size; (try simp at hh); omega) | (have hh := (h).size; (try simp at hh); (try simp); omega)) | refine Below.trans ?_ ((h).mono (by first | omega | (simp <;> omega) | (have hh := (h2).size; (try simp at hh); omega) | (have hh := (h2).size; (try simp at hh); (try simp); omega) | (have hh := (h).size; (try simp at hh); omega) | (have hh := (h).size; (try simp at hh); (try simp); omega))) | refine Below.alloc ?_ (by first | omega | (simp <;> omega) | (have hh := (h2).size; (try simp at hh); omega) | (have hh := (h2).size; (try simp at hh); (try simp); omega) | (have hh := (h).size; (try simp at hh); omega) | (have hh := (h).size; (try simp at hh); (try simp); omega)) _ | refine Below.setCell ?_ (by first | omega | (simp <;> omega) | (have hh := (h2).size; (try simp at hh); omega) | (have hh := (h2).size; (try simp at hh); (try simp); omega) | (have hh := (h).size; (try simp at hh); omega) | (have hh := (h).size; (try simp at hh); (try simp); omega)) _ | refine below_drewN ?_ _ | refine Below.drew ?_))
              have Hbd3 : Hid (Build W3 w3 26 1 rRow v3 (nowL fs Cs (k + 1))) := ⟨by rw [Hnow.out]; exact hown, hb3⟩
              clear hown hgrow hb3 hv3
              go_wp2_with fail
              go_roundw
              case rel => exact ⟨k + 1, v3, rfl, by omega, by go_num, Hbd3.out⟩
              case measure => simp [intOf]; omega
      · have hkn : k = fs.length := by omega
        have hsl := (Hbd.out.own.toSl rRow_mono (by decide))
        rw [hkn] at hsl
        obtain ⟨na, nc, hvs, -⟩ := hsl.val
        rw [nowL_len] at hvs
        subst hvs
        have Hsl : Hid (SlAt (fun _ => True) wr 1 rRow (.slice na fs.length nc) (nowL fs Cs fs.length)) := hsl.mono rRow_mono (fun _ _ => trivial) (Stays.refl _ _)
        have hck2 : checkF ⟨gs, byL fs Cs⟩ = (0, 0) := (fitsF_inv Hpl.out.1).1
        have Hck2 := hid hck2
        have hn0 : 0 < fs.length := checkF_pos (u := ⟨gs, fs⟩) Hinv.out.1
        have Hg2r : Hid (SlAt (iv W.heap.size w1.heap.size) wr 3 rGlobal (.slice ga2 gs.length gc2) gs) := Hg2.out.later rGlobal_mono Hwr.out
        have Hf2r : Hid (SlAt (iv W.heap.size w1.heap.size) wr 4 rFunc (.slice fa2 fs.length fc2) (byL fs Cs)) := Hf2.out.later rFunc_mono Hwr.out
        have Hnm : Hid (∀ C ∈ nowL fs Cs fs.length, C.length ≤ 1048576) := fun C hC => by
          unfold nowL at hC
          obtain ⟨i, hi, rfl⟩ := List.mem_map.1 hC
          have hil : i < fs.length := by simpa using hi
          have hiC : i < Cs.length := by have h : Cs.length = fs.length := Hinv.out.2.1; omega
          obtain ⟨hh, hbe⟩ := checkF_at (u := ⟨gs, fs⟩) Hinv.out.1 (List.getElem?_eq_getElem hil)
          obtain ⟨-, -, -, -, -, -, n1, n40, -⟩ := headE_ok hh
          unfold nowRow
          rw [List.length_map, List.getD_eq_getElem?_getD, List.getElem?_eq_getElem hil, Option.getD_some, (lay_perm hbe (by omega) _).1.len]
          omega
        have hq : decide (0 < fs.length) = true := decide_eq_true hn0
        obtain ⟨HsG, HsF⟩ := checkF_small (u := ⟨gs, byL fs Cs⟩) hck2
        have HsG := hid HsG
        have HsF := hid HsF
        clear hsl hkn hck2 Hbd
        go_wp2_with fail
        refine (by_ok (S := iv W.heap.size w1.heap.size) (S' := fun _ => True) ga2 gc2 fa2 fc2 gs (byL fs Cs) fs.length na nc (nowL fs Cs fs.length) fs.length wr Hg2r.out Hf2r.out Hsl.out (Hw.out.below Hww.out) Hsm.out.globals (byL_len fs Cs) (nowL_len _ _ _) hfl hfl (checkF_many Hck2.out) Hnm.out Hpl.out.1).mono ?_
        rintro e w6 ⟨ga6, gc6, fa6, fc6, rfl, hg6, hf6, hb6⟩
        rw [Hpl.out.2] at hf6
        have Hg6 := hid hg6
        have Hf6 := hid hf6
        have Hb6 := hid hb6
        have q0 := cell_later' v0 hb6
        have q1 := cell_later' v1 hb6
        have zq : w1.heap.size < w6.heap.size := cell_lt q0
        have Hw6 : Hid (Below w.heap.size w w6) := Hww.out.trans (hb6.mono Hww.out.size)
        clear hg6 hf6 hb6 g0 g1 v0 v1
        go_wp2_with fail
        refine (units_same' (S := iv W.heap.size w1.heap.size) (S' := iv wr.heap.size w6.heap.size) ga2 ga6 fa2 fa6 gc2 gc6 fc2 fc6 gs (byL fs Cs) fs.length _ ((Hg2r.out.later rGlobal_mono Hb6.out).later rGlobal_mono ?_) (Hg6.out.later rGlobal_mono ?_) ((Hf2r.out.later rFunc_mono Hb6.out).later rFunc_mono ?_) (Hf6.out.later rFunc_mono ?_) (byL_len fs Cs) Hsm.out.globals HsG.out hfl HsF.out).mono ?_
        · (repeat (first | exact Below.refl _ _ | refine Below.alloc ?_ (by first | omega | (simp <;> omega)) _ | refine Below.setCell ?_ (by first | omega | (simp <;> omega)) _ | refine below_drewN ?_ _ | refine Below.drew ?_))
        · (repeat (first | exact Below.refl _ _ | refine Below.alloc ?_ (by first | omega | (simp <;> omega)) _ | refine Below.setCell ?_ (by first | omega | (simp <;> omega)) _ | refine below_drewN ?_ _ | refine Below.drew ?_))
        · (repeat (first | exact Below.refl _ _ | refine Below.alloc ?_ (by first | omega | (simp <;> omega)) _ | refine Below.setCell ?_ (by first | omega | (simp <;> omega)) _ | refine below_drewN ?_ _ | refine Below.drew ?_))
        · (repeat (first | exact Below.refl _ _ | refine Below.alloc ?_ (by first | omega | (simp <;> omega)) _ | refine Below.setCell ?_ (by first | omega | (simp <;> omega)) _ | refine below_drewN ?_ _ | refine Below.drew ?_))
        rintro e w8 ⟨rfl, hb8⟩
        go_wp2_with fail
        go_ret
        exact ⟨rfl, by have h := Hw6.out; (repeat (first | exact Below.refl _ _ | exact (hb8).mono (by first | omega | (simp <;> omega) | (have hh := (hb8).size; (try simp at hh); omega) | (have hh := (hb8).size; (try simp at hh); (try simp); omega) | (have hh := (h).size; (try simp at hh); omega) | (have hh := (h).size; (try simp at hh); (try simp); omega)) | refine Below.trans ?_ ((hb8).mono (by first | omega | (simp <;> omega) | (have hh := (hb8).size; (try simp at hh); omega) | (have hh := (hb8).size; (try simp at hh); (try simp); omega) | (have hh := (h).size; (try simp at hh); omega) | (have hh := (h).size; (try simp at hh); (try simp); omega))) | exact (h).mono (by first | omega | (simp <;> omega) | (have hh := (hb8).size; (try simp at hh); omega) | (have hh := (hb8).size; (try simp at hh); (try simp); omega) | (have hh := (h).size; (try simp at hh); omega) | (have hh := (h).size; (try simp at hh); (try simp); omega)) | refine Below.trans ?_ ((h).mono (by first | omega | (simp <;> omega) | (have hh := (hb8).size; (try simp at hh); omega) | (have hh := (hb8).size; (try simp at hh); (try simp); omega) | (have hh := (h).size; (try simp at hh); omega) | (have hh := (h).size; (try simp at hh); (try simp); omega))) | refine Below.alloc ?_ (by first | omega | (simp <;> omega) | (have hh := (hb8).size; (try simp at hh); omega) | (have hh := (hb8).size; (try simp at hh); (try simp); omega) | (have hh := (h).size; (try simp at hh); omega) | (have hh := (h).size; (try simp at hh); (try simp); omega)) _ | refine Below.setCell ?_ (by first | omega | (simp <;> omega) | (have hh := (hb8).size; (try simp at hh); omega) | (have hh := (hb8).size; (try simp at hh); (try simp); omega) | (have hh := (h).size; (try simp at hh); omega) | (have hh := (h).size; (try simp at hh); (try simp); omega)) _ | refine below_drewN ?_ _ | refine Below.drew ?_))⟩

end Go.Proofs.YtaehkcnankijfaaDoor

namespace Go.Proofs.YtaehkcnankijfaaDoor
open Go.RowKit Go.ChangeShapes Go.WideShapes Go.ChangeAt Go.Deep

set_option maxRecDepth 100000 in
theorem weighRest_contract (H : Type) (enc : TypeId × Value → H) (W : World) (base : Nat) (args : Array Value) (ds gs : List (DataW H)) (before : List MemPlace)
    (hval : ∀ (j : Nat) t v, Tryd.f8.params[j]? = some t → args[j]? = some v → Value.okWide Tryd.prog W .any base t v)
    (hW : DataW.Whole enc Tryd.prog Tryd.f8.params.toList Rows.weighRestSpec.vars false W args.toList ds gs before) (hk : Rows.uptoSmall H (ds ++ gs) = true) (hL : laidMetH Tryd.prog Rows.weighRestRow.laid W) :
    Calls Tryd.prog 8 args W fun e W' => ∃ v, e = .returned v ∧ Rows.weighRestSpec.post enc Tryd.prog Tryd.f8 false true false false W args v W' := by
  have hW' := hW
  obtain ⟨p, q, hA0, hV, rfl, hfz, hnd⟩ := hW
  have hA : DataW.TrodAll enc Tryd.prog W 0 (fun _ => true) true Tryd.f8.params.toList args.toList ds p := hA0
  have hpar : Tryd.f8.params = #[25, 53] := Tryd.params8
  have hts : ∀ t ∈ Tryd.f8.params.toList, Carried t := by
    intro t ht
    rw [hpar] at ht
    simp only [List.mem_cons, List.not_mem_nil, or_false] at ht
    rcases ht with rfl | rfl
    · exact carried_unit
    · exact carried_rows
  rw [hpar] at hA hval
  obtain ⟨v0, vs0, d0, ds0, p0, q0, hargs, rfl, rfl, h0, r0⟩ := trodAll_cons hA
  obtain ⟨v1, vs1, d1, ds1, p1, q1, rfl, rfl, rfl, h1, r1⟩ := trodAll_cons r0
  obtain ⟨rfl, rfl, rfl⟩ := trodAll_nil r1
  obtain rfl : args = #[v0, v1] := by cases args; simp_all
  obtain ⟨rfl, rfl⟩ := trodVars_none hV
  have hbulk := bulk_bound hk
  rw [List.append_nil] at hbulk
  have hways : Ways W := ways_of hL
  have m0 : Rows.uptoBulk d0 ≤ 1048576 := Nat.le_trans (bulk_part (by simp)) hbulk
  obtain ⟨ga, gc, fa, fc, gs, fs, rfl, hg, hf, hu⟩ := arg_unit (hval 0 _ v0 rfl rfl) h0
  have m1 : Rows.uptoBulk d1 ≤ 1048576 := Nat.le_trans (bulk_part (by simp)) hbulk
  obtain ⟨ca, cc, C, rfl, hC, hc⟩ := arg_rows (hval 1 _ v1 rfl rfl) h1
  refine (weighRest_any W hways ga gc fa fc gs fs hg hf ⟨by omega⟩ ca cc C hC (by omega)).mono fun e W' ⟨he, hb⟩ => ?_
  subst he
  exact ⟨_, rfl, law_post rfl rfl (fun ds h => by rw [hpar] at h; obtain ⟨e0, e1, rfl⟩ := list2 h; rfl) hts hW' hb⟩

theorem weighRest_laidMet (os : Os) : laidMet Tryd.prog Rows.weighRestRow.laid ((laidWorld os).forCall (fun _ _ => 0) ⟨#[], #[Value.agg #[.slice none 0 0, .slice none 0 0], Value.slice none 0 0], []⟩).memory :=
  laidMet_of_run' 8 (by kernel_rfl) (by kernel_rfl)
theorem weighRest_reads (os : Os) {H : Type} (enc : TypeId × Value → H) : ∃ places, DataW.whole enc Tryd.prog ((laidWorld os).forCall (fun _ _ => 0) ⟨#[], #[Value.agg #[.slice none 0 0, .slice none 0 0], Value.slice none 0 0], []⟩).memory Tryd.f8.params.toList Rows.weighRestSpec.vars false (#[Value.agg #[.slice none 0 0, .slice none 0 0], Value.slice none 0 0] : Array Value).toList 8 = some ([.agg [.nil, .nil], .nil], [], places) :=
  ⟨[], by kernel_rfl⟩
set_option maxRecDepth 100000 in
theorem weighRest_lifted (os : Os) (started : os.Started) (H : Type) (enc : TypeId × Value → H) (F : Stop.Interp) :
    ReturnsInHanded {} Tryd.checked os 8 .any ((Rows.OpenSpec.upto Rows.weighRestSpec).preRow enc Tryd.prog Tryd.f8 Rows.weighRestUptoRow.domain false Rows.weighRestUptoRow.laid) (((Rows.OpenSpec.upto Rows.weighRestSpec).at F).post enc Tryd.prog Tryd.f8 false true false false) := by
  obtain ⟨places, hx⟩ := weighRest_reads os enc
  refine returnsInHanded_of_row (C := Tryd.checked) (s := Rows.OpenSpec.upto Rows.weighRestSpec) own started (by kernel_rfl) Tryd.func8
    (witness_row_at (enc := enc) (C := Tryd.checked) false (laidWorld os) #[Value.agg #[.slice none 0 0, .slice none 0 0], Value.slice none 0 0] rfl (by kernel_rfl) (by kernel_rfl) (by kernel_rfl)
      (OpenSpec.preRow_of_cond 8 hx (by kernel_rfl) (fun k hk => by cases hk; kernel_rfl) (by kernel_rfl) (weighRest_laidMet os))) ?_
  intro W base args ds gs before hval hW _ hcond _ hL _ _
  exact weighRest_contract H enc W base args ds gs before hval hW (hcond _ rfl) hL
theorem weighRest_saidUpto : Rows.WeighRestUptoSaid :=
  OpenClaim.holds_of_cond 8 Tryd.f8 rfl rfl rfl rfl rfl rfl rfl ⟨rfl, rfl, rfl, rfl, rfl⟩ rfl rfl rfl rfl rfl (by kernel_rfl) Tryd.func8 (by kernel_rfl)
    (of_decide_eq_true (by kernel_rfl)) (by unfold Func.isWrapper; first | (rw [if_pos (by decide +kernel)]; kernel_rfl) | (rw [if_neg (by decide +kernel)]; exact ⟨rfl, rfl⟩))
    (fun os started H enc _ F => by rw [OpenClaim.pre_eq_preRow]; exact weighRest_lifted os started H enc F)
theorem weighRest_plain (f : FuncId) (fn : Func) (hf : Tryd.pinned.checked.prog.funcNamed "turnery/turnerylaw6.WeighRest" = some f) (hfn : Tryd.pinned.checked.prog.funcs[f]? = some fn) :
    true = Tryd.pinned.checked.prog.looks [] ∧ ∀ (j : Nat) t, fn.params[j]? = some t → Tryd.pinned.checked.prog.wantsStandIn t = false := by
  obtain rfl : f = 8 := Option.some.inj ((show Tryd.prog.funcNamed "turnery/turnerylaw6.WeighRest" = some 8 by kernel_rfl).symm.trans hf) |>.symm
  obtain rfl : fn = Tryd.f8 := (Option.some.inj (Tryd.func8.symm.trans hfn)).symm
  refine ⟨by kernel_rfl, fun j t ht => ?_⟩
  have hpar : Tryd.f8.params = #[25, 53] := Tryd.params8
  rw [hpar] at ht
  have hm := Array.mem_of_getElem? ht
  simp only [List.mem_toArray, List.mem_cons, List.not_mem_nil, or_false] at hm
  rcases hm with rfl | rfl
  · exact (show Tryd.prog.wantsStandIn 25 = false by kernel_rfl)
  · exact (show Tryd.prog.wantsStandIn 53 = false by kernel_rfl)

/-- THE CARD of WeighRest, where what it reads is of bulk at most 1048576. -/
theorem weighRest_holds : Rows.WeighRestUptoCardSaid :=
  Claim7.holds_tied_plain_at .later [] _ _ _ _ weighRest_saidUpto (fun _ h => by cases h) (by kernel_rfl) (fun _ h => by cases h) weighRestUpto_row_tie rfl ⟨rfl, rfl⟩ (by kernel_rfl) rfl weighRest_plain (by kernel_rfl)

end Go.Proofs.YtaehkcnankijfaaDoor
