/- calls.Order, of a checked unit (the graph's contract is a premise here). turneryref5.CallsRings and CallsOrder. -/
import Derived.Test.YtaehkcnankijfaaDoorPOrdW
import Derived.Test.YtaehkcnankijfaaDoorPSortI
import Derived.WalkMore
import Derived.Test.YtaehkcnankijfaaDoorPTable
namespace Go.Proofs.YtaehkcnankijfaaDoor
open Go.RowKit

theorem heap_three' (w : World) (a b c : Obj) : (((w.alloc a).alloc b).alloc c).heap.size = w.heap.size + 3 ∧ (((w.alloc a).alloc b).alloc c).heap[w.heap.size]? = some a ∧ (((w.alloc a).alloc b).alloc c).heap[w.heap.size + 1]? = some b ∧ (((w.alloc a).alloc b).alloc c).heap[w.heap.size + 1 + 1]? = some c := by
  have hs : ∀ (v : World) (o : Obj), (v.alloc o).heap.size = v.heap.size + 1 := fun v o => by simp
  have s1 := hs w a
  have s2 := hs (w.alloc a) b
  have s3 := hs ((w.alloc a).alloc b) c
  have e1 := heap_alloc_new w a
  have e2 := heap_alloc_new (w.alloc a) b
  have e3 := heap_alloc_new ((w.alloc a).alloc b) c
  rw [s1] at e2
  rw [s2, s1] at e3
  refine ⟨by omega, ?_, ?_, e3⟩
  · rw [Below.heap_alloc _ _ _ (by omega), Below.heap_alloc _ _ _ (by omega)]; exact e1
  · rw [Below.heap_alloc _ _ _ (by omega)]; exact e2
theorem res_ord {fn : Func} (hfn : fn.results = #[.tmp 2, .cell 3 28]) {tmps : Array Value} {b : Nat} {v : Value} (hv : tmps.getD 2 undef = v) (ht : tmps.getD 3 undef = .pointer (some ⟨b, 0, none⟩)) {c a : Int} {W : World}
    (h0 : W.cell? ⟨b, 0, none⟩ = some (.int .i64 c)) (h1 : W.cell? ⟨b, 1, none⟩ = some (.int .i64 a)) : (results fn tmps).run Tryd.prog W = .ok (.tuple #[v, .agg #[.int .i64 c, .int .i64 a]]) W := by
  simp only [Array.getD_eq_getD_getElem?] at ht hv
  simp [results, hfn, ht, hv, go_sem, h0, h1]
theorem ord_readyK {a : Nat → Nat → Bool} {R : Nat → Nat → Bool} {n : Nat} (hR : ∀ k x, R k x = true ↔ Reach a k x) {j : Nat} (hj : j < n) : ∃ k, k < n ∧ readyF a (ringF R n) n (ordSt a (ringF R n) n j).1 k = true ∧ (∀ i, i < k → readyF a (ringF R n) n (ordSt a (ringF R n) n j).1 i = false) ∧ ordSt a (ringF R n) n (j + 1) = ((ordSt a (ringF R n) n j).1.set k true, (ordSt a (ringF R n) n j).2 ++ [(k : Int)]) := by
  obtain ⟨k, hp, hk, hs⟩ := ord_pick hR (n := n) hj
  refine ⟨k, hk, (pick_ready hp).2, fun i hi => ?_, hs⟩
  unfold pickF at hp
  rw [List.find?_range_eq_some] at hp
  have := hp.2.2 i hi
  simpa using this

def lenOf : Value → Nat
  | .slice _ n _ => n
  | _ => 0
theorem RowSt.grown {w0 W W' : World} {XB : Nat} {e : TypeId} {cs : List Value} (h : RowSt w0 W XB e cs) {r : Option Nat} (hg : W.grownBy W' r) (hr : ∀ g, r = some g → w0.heap.size ≤ g ∧ g ≠ XB) : RowSt w0 W' XB e cs :=
  ⟨Nat.le_trans h.size hg.size, fun b h1 h2 => (hg.block b (Nat.lt_of_lt_of_le h1 h.size) (fun e => by have := (hr b e.symm).1; omega)).trans (h.keep b h1 h2), ⟨hg.os.trans h.env.1, hg.tape.trans h.env.2.1, hg.output.trans h.env.2.2⟩, (hg.block XB h.lt (fun e => (hr XB e.symm).2 rfl)).trans h.row⟩
theorem one_sl (w : World) (x : Int) (hx : I64 x) : SlAt (fun _ => True) (w.alloc (.cells #[.int .i64 x] 3)) 1 rInt (.slice (some ⟨w.heap.size, 0, none⟩) 1 1) [x] := by
  refine ⟨_, 1, rfl, Nat.le_refl _, by omega, fun _ => ⟨w.heap.size, 0, rfl, trivial, fun i y hy => ?_⟩⟩
  have hi : i = 0 := by
    have := (List.getElem?_eq_some_iff.1 hy).1
    simp at this
    exact this
  subst hi
  obtain rfl : x = y := by simpa using hy
  exact ⟨[.int .i64 x], ⟨rfl, hx⟩, rfl, fun j v hj => (by rw [Nat.zero_mul, Nat.zero_add]; have h := new_cells w [.int .i64 x] 3 rfl j v hj; rwa [show (⟨w.heap.size, 0, none⟩ : Addr).add j = ⟨w.heap.size, j, none⟩ by unfold Addr.add; split <;> simp_all] at h)⟩
/-- What calls.Order's graph is asked to tell. -/
def GraphPost (fs : List DFunc) (n : Nat) (W : World) (e : Ending) (w' : World) : Prop :=
  ∃ ga gc G, e = .returned (.tuple #[.slice ga n gc, .agg #[.int .i64 0, .int .i64 0]]) ∧ GraphOk (callB fs) n G ∧ SlAt (fun b => W.heap.size ≤ b ∧ b < w'.heap.size) w' 1 rRow (.slice ga n gc) G ∧ (∀ l ∈ G, l.length ≤ 1048576) ∧ Below W.heap.size W w'

set_option maxRecDepth 100000 in
set_option maxHeartbeats 4000000 in
theorem order_any (uv fv : Value) (fs : List DFunc) (n : Nat) (w : World) (hn : n ≤ 1048576) (ha : ∀ k x, callB fs k x = true → x < n)
    (hgr : ∀ W, Below w.heap.size w W → Calls Tryd.prog 109 #[.agg #[uv, fv]] W fun e w' => GraphPost fs n W e w') (hu : ∃ ga gn gc fa fn fc, uv = .slice ga gn gc ∧ fv = .slice fa fn fc) :
    Calls Tryd.prog 67 #[.agg #[uv, fv]] w fun e w' => ∃ v, e = .returned (.tuple #[v, .agg #[.int .i64 0, .int .i64 0]]) ∧ OwnInts w.heap.size w' v (ordF (callB fs) (ringF (viaF (callB fs) n) n) n) ∧ Below w.heap.size w w' := by
  obtain ⟨uga, ugn, ugc, ufa, ufn, ufc, rfl, rfl⟩ := hu
  have Hgr := hid hgr
  have Ha := hid ha
  clear hgr ha
  obtain ⟨W, hW⟩ : ∃ W, W = (w.alloc (.cells #[.slice uga ugn ugc, .slice ufa ufn ufc] 25)).alloc (.cells #[.int .i64 0, .int .i64 0] 28) := ⟨_, rfl⟩
  have hbW : Below w.heap.size w W := by rw [hW]; (repeat (first | exact Below.refl _ _ | refine Below.alloc ?_ (by first | omega | (simp <;> omega)) _ | refine Below.setCell ?_ (by first | omega | (simp <;> omega)) _ | refine below_drewN ?_ _ | refine Below.drew ?_))
  have r0 : W.cell? ⟨w.heap.size + 1, 0, none⟩ = some (.int .i64 0) := by rw [hW]; simp
  have r1 : W.cell? ⟨w.heap.size + 1, 1, none⟩ = some (.int .i64 0) := by rw [hW]; simp
  have f0 : W.frozen? ⟨w.heap.size + 1, 0, none⟩ = false := by rw [hW]; simp
  have f1 : W.frozen? ⟨w.heap.size + 1, 1, none⟩ = false := by rw [hW]; simp
  have HW := hid hW
  have HbW := hid hbW
  have hws : W.heap.size = w.heap.size + 2 := by rw [hW]; simp
  clear hW hbW
  go_enter Tryd.func67, Tryd.ntmps67
  go_wp2_with fail
  go_step3
  go_wp2_with fail
  rw [← HW.out]
  refine (Hgr.out W HbW.out).mono ?_
  intro e w1 hpost
  obtain ⟨ga, gc, G, rfl, hG, hg, hl, hb1⟩ := (show ∃ ga gc G, e = .returned (.tuple #[.slice ga n gc, .agg #[.int .i64 0, .int .i64 0]]) ∧ GraphOk (callB fs) n G ∧ SlAt (fun b => W.heap.size ≤ b ∧ b < w1.heap.size) w1 1 rRow (.slice ga n gc) G ∧ (∀ l ∈ G, l.length ≤ 1048576) ∧ Below W.heap.size W w1 from hpost)
  have r0 := cell_later' r0 hb1
  have r1 := cell_later' r1 hb1
  have f0 := (hb1.frozen (p := ⟨w.heap.size + 1, 0, none⟩) (by show w.heap.size + 1 < _; omega)).trans f0
  have f1 := (hb1.frozen (p := ⟨w.heap.size + 1, 1, none⟩) (by show w.heap.size + 1 < _; omega)).trans f1
  have HG := hid hG
  have Hl := hid hl
  have Hw1 : Hid (Below w.heap.size w w1) := HbW.out.trans (hb1.mono HbW.out.size)
  have zr : w.heap.size + 1 < w1.heap.size := cell_lt r0
  obtain ⟨W1, hW1⟩ : ∃ W1, W1 = (w1.alloc (.cells #[.slice ga n gc] 53)).alloc (.cells #[.int .i64 0, .int .i64 0] 28) := ⟨_, rfl⟩
  have hbW1 : Below w1.heap.size w1 W1 := by rw [hW1]; (repeat (first | exact Below.refl _ _ | refine Below.alloc ?_ (by first | omega | (simp <;> omega)) _ | refine Below.setCell ?_ (by first | omega | (simp <;> omega)) _ | refine below_drewN ?_ _ | refine Below.drew ?_))
  have cG : W1.cell? ⟨w1.heap.size, 0, none⟩ = some (.slice ga n gc) := by rw [hW1]; simp
  have Hg := hid (hg.later rRow_mono hbW1)
  have hgS : ∀ b, (W.heap.size ≤ b ∧ b < w1.heap.size) → b < W1.heap.size := fun b hb => Nat.lt_of_lt_of_le hb.2 hbW1.size
  have Hrings := hid (rings_any (S := fun b => W.heap.size ≤ b ∧ b < w1.heap.size) ga gc n G (callB fs) W1 hG Ha.out (hg.later rRow_mono hbW1) hgS hn hl)
  have HW1 := hid hW1
  have HbW1 := hid hbW1
  obtain ⟨GC, hGC⟩ : ∃ GC, GC = w1.heap.size := ⟨_, rfl⟩
  have HGC := hid hGC
  have hmk := run_make_row' (P := Tryd.prog) 39 4 (.bool false) 1 Tryd.underlying39 infoBool rfl .i64 .i64 n (by omega) (by omega)
  have Hmk := hid hmk
  clear hpost hG hl hg hb1 hW1 hbW1 hgS hmk hGC
  simp only []
  go_wp2_with fail
  rw [← HW1.out]
  refine Hrings.out.mono ?_
  rintro e w2 ⟨rv, rfl, hrv, hb2⟩
  obtain ⟨ra, rc, rfl⟩ := hrv.shape
  rw [show (ringsF (callB fs) n).length = n by simp [ringsF]] at hrv ⊢
  have hrs := hrv.sl
  have r0 := cell_later' (cell_later' r0 HbW1.out) hb2
  have r1 := cell_later' (cell_later' r1 HbW1.out) hb2
  have cG := cell_later' cG hb2
  obtain ⟨W3, hW3⟩ : ∃ W3, W3 = ((w2.alloc (.cells #[.slice ra n rc] 26)).alloc (.cells (madeCells #[.bool false] n) 4)).alloc (.cells #[.slice (some ⟨w2.heap.size + 1, 0, none⟩) n n] 39) := ⟨_, rfl⟩
  have hb3 : Below w2.heap.size w2 W3 := by rw [hW3]; (repeat (first | exact Below.refl _ _ | refine Below.alloc ?_ (by first | omega | (simp <;> omega)) _ | refine Below.setCell ?_ (by first | omega | (simp <;> omega)) _ | refine below_drewN ?_ _ | refine Below.drew ?_))
  obtain ⟨hs3, hR3, hT3, hC3⟩ : W3.heap.size = w2.heap.size + 3 ∧ W3.heap[w2.heap.size]? = _ ∧ W3.heap[w2.heap.size + 1]? = _ ∧ W3.heap[w2.heap.size + 1 + 1]? = _ := by rw [hW3]; exact heap_three' _ _ _ _
  have Hw2 : Hid (Below w.heap.size w w2) := Hw1.out.trans ((HbW1.out.trans (hb2.mono HbW1.out.size)).mono Hw1.out.size)
  have hmk := Hmk.out
  have zG : GC < w2.heap.size := by rw [HGC.out]; exact cell_lt cG
  rw [← HGC.out] at cG ⊢
  have HW3 := hid hW3
  have Hb3 := hid hb3
  have Hb2 := hid hb2
  have Hrs := hid hrs
  clear hW3 hrv hb2
  go_wp2_with fail
  go_step3
  go_wp2_with fail
  rw [← HW3.out]
  obtain ⟨RC, hRC⟩ : ∃ RC, RC = w2.heap.size := ⟨_, rfl⟩
  obtain ⟨TB, hTB⟩ : ∃ TB, TB = w2.heap.size + 1 := ⟨_, rfl⟩
  obtain ⟨TC, hTC⟩ : ∃ TC, TC = w2.heap.size + 1 + 1 := ⟨_, rfl⟩
  rw [← hRC] at hR3
  rw [← hTC, ← hTB] at hC3
  rw [← hTB] at hT3
  rw [← hTC, ← hTB, ← hRC]
  have hTR : TC ≠ TB ∧ RC ≠ TB ∧ GC ≠ TB ∧ w1.heap.size ≤ TB ∧ w2.heap.size ≤ TB ∧ TB < W3.heap.size ∧ w.heap.size + 1 ≠ TB := by
    have h1 := HbW1.out.size
    have h2 := Hb2.out.size
    omega
  have hst0 : RowSt W3 W3 TB 4 ((ordSt (callB fs) (ringF (viaF (callB fs) n) n) n 0).1.map Value.bool) := ⟨Nat.le_refl _, fun _ _ _ => rfl, ⟨rfl, rfl, rfl⟩, by rw [hT3, madeCells_rep, ordSt, List.map_replicate]⟩
  have Hst0 := hid hst0
  have Hw3 : Hid (Below w.heap.size w W3) := Hw2.out.trans (Hb3.out.mono Hw2.out.size)
  have CR3 : Hid (W3.cell? ⟨RC, 0, none⟩ = some (.slice ra n rc)) := by show _ = _; rw [cell_row hR3]; rfl
  have CT3 : Hid (W3.cell? ⟨TC, 0, none⟩ = some (.slice (some ⟨TB, 0, none⟩) n n)) := by show _ = _; rw [cell_row hC3]; rfl
  have CG3 := hid (cell_later' cG Hb3.out)
  have R03 := hid (cell_later' r0 Hb3.out)
  have R13 := hid (cell_later' r1 Hb3.out)
  have F03 : Hid (W3.frozen? ⟨w.heap.size + 1, 0, none⟩ = false) := (Hb3.out.frozen (p := ⟨w.heap.size + 1, 0, none⟩) (by show w.heap.size + 1 < _; have := Hb2.out.size; have := HbW1.out.size; omega)).trans ((Hb2.out.frozen (p := ⟨w.heap.size + 1, 0, none⟩) (by show w.heap.size + 1 < _; have := HbW1.out.size; omega)).trans ((HbW1.out.frozen (p := ⟨w.heap.size + 1, 0, none⟩) zr).trans f0))
  have F13 : Hid (W3.frozen? ⟨w.heap.size + 1, 1, none⟩ = false) := (Hb3.out.frozen (p := ⟨w.heap.size + 1, 1, none⟩) (by show w.heap.size + 1 < _; have := Hb2.out.size; have := HbW1.out.size; omega)).trans ((Hb2.out.frozen (p := ⟨w.heap.size + 1, 1, none⟩) (by show w.heap.size + 1 < _; have := HbW1.out.size; omega)).trans ((HbW1.out.frozen (p := ⟨w.heap.size + 1, 1, none⟩) zr).trans f1))
  have hz12 : W1.heap.size ≤ w2.heap.size := Hb2.out.size
  have hbb1 : w1.heap.size ≤ W1.heap.size := HbW1.out.size
  have Hg3 : Hid (SlAt (fun b => W.heap.size ≤ b ∧ b < w1.heap.size) W3 1 rRow (.slice ga n gc) G) := (Hg.out.later rRow_mono Hb2.out).later rRow_mono Hb3.out
  have Hrs3 : Hid (SlAt (iv W1.heap.size w2.heap.size) W3 1 rInt (.slice ra n rc) (ringsF (callB fs) n)) := Hrs.out.later rInt_mono Hb3.out
  have hord : Hid (∀ j, j ≤ n → OrdOk n j (ordSt (callB fs) (ringF (viaF (callB fs) n) n) n j)) := fun j hj => ord_ok (fun k x => viaF_reach Ha.out) j hj
  obtain ⟨hTR1, hTR2, hTR3, hTR4, hTR5, hTR6, hTR7⟩ := hTR
  clear hmk hR3 hT3 hC3 hst0 cG r0 r1 f0 f1 hRC hTB hTC hs3
  go_loopw [9] (fun s9 wr => ∃ (j : Nat) (v : Value), v = s9 ∧ j ≤ n ∧ RowSt W3 wr TB 4 ((ordSt (callB fs) (ringF (viaF (callB fs) n) n) n j).1.map Value.bool) ∧ OwnInts W3.heap.size wr v (ordSt (callB fs) (ringF (viaF (callB fs) n) n) n j).2) (fun s9 _ => n - (lenOf s9))
  case atStart => exact ⟨0, _, rfl, Nat.zero_le _, Hst0.out, OwnInts.nil _ _⟩
  case round =>
    clear Hst0
    obtain ⟨j, v, rfl, hj, hst, hown⟩ := hrel
    have Hst := hid hst
    have Hown := hid hown
    have Ho := hid (hord.out j hj)
    obtain ⟨s, hs⟩ : ∃ s, s = (ordSt (callB fs) (ringF (viaF (callB fs) n) n) n j).1 := ⟨_, rfl⟩
    obtain ⟨out, hout⟩ : ∃ out, out = (ordSt (callB fs) (ringF (viaF (callB fs) n) n) n j).2 := ⟨_, rfl⟩
    have hsl : s.length = n := by rw [hs]; exact Ho.out.len
    have hol : out.length = j := by rw [hout]; exact Ho.out.many
    rw [← hs] at hst Hst
    rw [← hout] at hown Hown
    obtain ⟨la, lc, hv⟩ := hown.shape
    rw [hol] at hv
    subst hv
    have cG4 := hst.cellOf CG3.out (by omega)
    have zG4 : GC < wr.heap.size := cell_lt cG4
    obtain ⟨wo, hwo⟩ : ∃ wo : World, wo = wr := ⟨_, rfl⟩
    subst hwo
    have Hhs := hid hs
    have Hhout := hid hout
    have Hsl := hid hsl
    have Hol := hid hol
    clear hst hown hs hout hsl hol
    by_cases hjn : j < n
    · obtain ⟨k0, hk0, hready, hnot, hsucc⟩ := ord_readyK (fun k x => viaF_reach (a := callB fs) Ha.out) hjn
      rw [← Hhs.out] at hready hnot hsucc
      rw [← Hhout.out] at hsucc
      have Hready := hid hready
      have Hnot := hid hnot
      have Hsucc := hid hsucc
      clear hready hnot hsucc
      go_wp2_with fail
      clear cG4
      go_loopw [9, 33] (fun s9 s33 wi => ∃ i : Nat, i ≤ k0 ∧ s9 = .slice la j lc ∧ s33 = .int .i64 (i : Int) ∧ Below wo.heap.size wo wi) (fun _ s33 _ => k0 + 1 - (intOf s33).toNat)
      case atStart => exact ⟨0, Nat.zero_le _, rfl, rfl, Below.refl _ _⟩
      case round =>
        obtain ⟨i, hi, rfl, rfl, hbi⟩ := hrel
        have Hbi := hid hbi
        have hin : i < n := by omega
        have hst := Hst.out.later hbi
        have henv : OrdEnv wr TC RC TB s ra rc (ringsF (callB fs) n) := by
          refine ⟨?_, hst.row, ?_, ?_, ?_⟩
          · rw [Hsl.out]; exact hst.cellOf CT3.out hTR1
          · rw [Hsl.out]; exact hst.cellOf CR3.out hTR2
          · rw [Hsl.out]
            exact (hst.sl rInt_mono (fun b hb => by have := hb.2; omega) Hrs3.out).mono rInt_mono (fun _ _ => trivial) (Stays.refl _ _)
          · rw [Hsl.out]; simp [ringsF]
        have hcall := ready_any (S := fun b => W.heap.size ≤ b ∧ b < w1.heap.size) TC GC RC TB n s ra rc (callB fs) ga gc G i wr henv Hsl.out hn hin HG.out (hst.cellOf CG3.out hTR3) (hst.sl rRow_mono (fun b hb => by have := hb.2; omega) Hg3.out) Hl.out
        have c0 := hst.cellOf CT3.out hTR1
        have t0 : wr.cell? ⟨TB, i, none⟩ = some (.bool (s.getD i true)) := henv.told (by rw [Hsl.out]; exact hin)
        have t1 := hst.fz i
        have zT : TC < wr.heap.size := cell_lt c0
        have zB : TB < wr.heap.size := cell_lt t0
        have Hst2 := hid hst
        have Hcall := hid hcall
        clear hst henv hcall
        by_cases hik : i = k0
        · subst hik
          have hcall := Hcall.out
          rw [Hready.out] at hcall
          have Hcall2 := hid hcall
          clear hcall Hcall
          go_wp2_with (first
            | (go_at_call 111; ((with_reducible refine Hcall2.out.mono ?_); rintro e w5 ⟨rfl, hb5⟩; have c0 := cell_later' c0 hb5; have t0 := cell_later' t0 hb5; have t1 := (hb5.frozen (p := ⟨TB, i, none⟩) zB).trans t1; have zT := cell_lt c0; have zB := cell_lt t0; have Hb5 := hid hb5; clear hb5))
            | (at_builtin; refine wpList_append_ints rfl _ _ rfl W3.heap.size (.slice la j lc) out rfl ?_ _ _ _ [(i : Int)] rfl (S := fun _ => True) ?_ rfl ?_ ?_ ?_))
          · exact OwnInts.later ⟨ownsRow_setCell_below (a := ⟨TB, i, none⟩) (Hown.out.later (Hbi.out.trans (Hb5.out.mono Hbi.out.size))).1 hTR6 _, Hown.out.2⟩ (by (repeat (first | exact Below.refl _ _ | refine Below.alloc ?_ (by first | omega | (simp <;> omega)) _ | refine Below.setCell ?_ (by first | omega | (simp <;> omega)) _ | refine below_drewN ?_ _ | refine Below.drew ?_)))
          · have h := one_sl (w5.setCell ⟨TB, i, none⟩ (.bool true)) (i : Int) (by unfold I64; omega)
            rw [show (w5.setCell ⟨TB, i, none⟩ (.bool true)).heap.size = w5.heap.size by simp [World.setCell]] at h
            exact h
          · rw [Hol.out]; simp; omega
          · have h1 := Hst2.out.size
            have h2 := Hb5.out.size
            simp
            omega
          · intro v6 w6 hown6 hgr6
            have Hown6 := hid hown6
            have hst6 : RowSt W3 w6 TB 4 ((s.set i true).map Value.bool) := by
              have h := (Hst2.out.later Hb5.out).set i (.bool true)
              rw [← List.map_set] at h
              refine (h.later (W' := (w5.setCell ⟨TB, i, none⟩ (.bool true)).alloc (.cells #[.int .i64 (i : Int)] 3)) (by (repeat (first | exact Below.refl _ _ | refine Below.alloc ?_ (by first | omega | (simp <;> omega)) _ | refine Below.setCell ?_ (by first | omega | (simp <;> omega)) _ | refine below_drewN ?_ _ | refine Below.drew ?_)))).grown hgr6 (fun g hg => ?_)
              have := (own_ge Hown.out hg).1
              omega
            have Hst6 := hid hst6
            obtain ⟨a6, c6, h6⟩ := hown6.shape
            rw [show (out ++ [(i : Int)]).length = j + 1 by simp [Hol.out]] at h6
            subst h6
            clear hown6 hst6 hgr6 c0 t0 t1 zT zB
            go_wp2_with fail
            go_roundw
            case rel => exact ⟨j + 1, _, rfl, by omega, by rw [Hsucc.out]; exact Hst6.out, by rw [Hsucc.out]; exact Hown6.out⟩
            case measure => simp [lenOf]; omega
        · have hnr := Hnot.out i (by omega)
          have hcall := Hcall.out
          rw [hnr] at hcall
          have Hcall2 := hid hcall
          clear hcall Hcall hnr
          go_wp2_with (first
            | (go_at_call 111; ((with_reducible refine Hcall2.out.mono ?_); rintro e w5 ⟨rfl, hb5⟩; have Hb5 := hid hb5; clear hb5)))
          go_roundw
          case rel => exact ⟨i + 1, by omega, rfl, by go_num, Hbi.out.trans (Hb5.out.mono Hbi.out.size)⟩
          case measure => simp [intOf]; omega
    · have hjn' : j = n := by omega
      have He : Hid (out = ordF (callB fs) (ringF (viaF (callB fs) n) n) n) := by show _ = _; rw [Hhout.out, hjn']; rfl
      have e0 := Hst.out.cellOf R03.out hTR7
      have e1 := Hst.out.cellOf R13.out hTR7
      have zW : w.heap.size + 1 < wo.heap.size := cell_lt e0
      have f0 : wo.frozen? ⟨w.heap.size + 1, 0, none⟩ = false := by
        have h := F03.out
        unfold World.frozen? at h ⊢
        rw [Hst.out.keep (w.heap.size + 1) (cell_lt R03.out) hTR7]; exact h
      have f1 : wo.frozen? ⟨w.heap.size + 1, 1, none⟩ = false := by
        have h := F13.out
        unfold World.frozen? at h ⊢
        rw [Hst.out.keep (w.heap.size + 1) (cell_lt R03.out) hTR7]; exact h
      have hW3 : w.heap.size + 1 < W3.heap.size := cell_lt R03.out
      have hwz := Hw3.out.size
      go_wp2_with fail
      rw [Exit.noGoto_ret]
      go_wp2_with fail
      have q := set_two (w := wo) (u := .int .i64 0) (v := .int .i64 0) e0 e1
      refine bodyPost_ret (res_ord (v := .slice la j lc) rfl rfl rfl (c := 0) (a := 0) q.1 q.2) rfl ⟨_, rfl, ?_, ?_⟩
      · rw [← He.out]
        refine OwnInts.low (base := W3.heap.size) ⟨ownsRow_setCell_below (a := ⟨w.heap.size + 1, 1, none⟩) (ownsRow_setCell_below (a := ⟨w.heap.size + 1, 0, none⟩) Hown.out.1 hW3 _) hW3 _, Hown.out.2⟩ hwz
      · exact ((Hst.out.below Hw3.out (by omega)).setCell (p := ⟨w.heap.size + 1, 0, none⟩) (by dsimp only; omega) _).setCell (p := ⟨w.heap.size + 1, 1, none⟩) (by dsimp only; omega) _

end Go.Proofs.YtaehkcnankijfaaDoor

namespace Go.Proofs.YtaehkcnankijfaaDoor
open Go.RowKit

theorem TabV.rd {base : Nat} {W : World} {a : Option Addr} {c n : Nat} {os : List Nat} {T : Nat → Nat → Bool} (h : TabV base W (.slice a n c) os n T) {i : Nat} (hi : i < n) :
    ∃ b off o, a = some ⟨b, off, none⟩ ∧ W.cell? ⟨b, off + i, none⟩ = some (.slice (some ⟨o, 0, none⟩) n n) ∧ ∀ x, x < n → W.cell? ⟨o, x, none⟩ = some (.bool (T i x)) := by
  have hil : i < os.length := by rw [h.len]; exact hi
  obtain ⟨b, off, cs, hab, -, hr, -, hcs⟩ := h.sl.get hil
  have hr' : cs = [.slice (some ⟨os[i], 0, none⟩) n n] := hr
  rw [hr'] at hcs
  have hc := hcs.get1
  rw [Nat.mul_one] at hc
  exact ⟨b, off, os[i], hab, hc, fun x hx => by rw [cell_row (h.tab i _ (List.getElem?_eq_getElem hil)), List.getElem?_toArray]; exact rowT_at T hx⟩
theorem ringF_spec {R : Nat → Nat → Bool} {n k : Nat} (hk : k < n) (hkk : R k k = true) : ringF R n k < n ∧ (R k (ringF R n k) && R (ringF R n k) k) = true ∧ ∀ j, j < ringF R n k → (R k j && R j k) = false := by
  have hex : ∃ r, (List.range n).find? (fun x => R k x && R x k) = some r := by
    cases h : (List.range n).find? (fun x => R k x && R x k) with
    | some r => exact ⟨r, rfl⟩
    | none =>
      have := List.find?_eq_none.1 h k (List.mem_range.2 hk)
      simp [hkk] at this
  obtain ⟨r, hr⟩ := hex
  have he : ringF R n k = r := by unfold ringF; rw [hr]; rfl
  rw [he]
  rw [List.find?_range_eq_some] at hr
  exact ⟨List.mem_range.1 hr.2.1, hr.1, fun j hj => by
    have h := hr.2.2 j hj
    rw [Bool.not_eq_true'] at h
    exact h⟩
theorem ringsF_take {a : Nat → Nat → Bool} {n k : Nat} (hk : k < n) : (ringsF a n).take (k + 1) = (ringsF a n).take k ++ [((ringF (viaF a n) n k : Nat) : Int)] := by
  have hl : k < (ringsF a n).length := by simpa [ringsF] using hk
  have he : (ringsF a n)[k]? = some ((ringF (viaF a n) n k : Nat) : Int) := by
    unfold ringsF
    rw [List.getElem?_map, List.getElem?_range hk]; rfl
  rw [List.take_succ_eq_append_getElem hl]
  rw [List.getElem?_eq_getElem hl] at he
  rw [Option.some.inj he]

set_option maxRecDepth 100000 in
set_option maxHeartbeats 4000000 in
theorem callsRings_any {S : Nat → Prop} (ga : Option Addr) (gn gc : Nat) (fa : Option Addr) (fc n : Nat) (fs : List DFunc) (w : World) (hf : SlAt S w 4 rFunc (.slice fa n fc) fs) (hS : ∀ b, S b → b < w.heap.size) (hn : fs.length = n) (hn1 : n ≤ 1048575) (ha : ∀ k x, callB fs k x = true → x < n)
    (hsm : ∀ k, k < n → (fs.getD k noFunc).blocks.length ≤ 1048576 ∧ ∀ b ∈ (fs.getD k noFunc).blocks, b.list.length ≤ 1048576) :
    Calls Tryd.prog 116 #[.agg #[.slice ga gn gc, .slice fa n fc]] w fun e w' => ∃ v, e = .returned v ∧ OwnInts w.heap.size w' v (ringsF (callB fs) n) ∧ Below w.heap.size w w' := by
  have Ha := hid ha
  obtain ⟨W, hW⟩ : ∃ W, W = w.alloc (.cells #[.slice ga gn gc, .slice fa n fc] 25) := ⟨_, rfl⟩
  have hbW : Below w.heap.size w W := by rw [hW]; (repeat (first | exact Below.refl _ _ | refine Below.alloc ?_ (by first | omega | (simp <;> omega)) _ | refine Below.setCell ?_ (by first | omega | (simp <;> omega)) _ | refine below_drewN ?_ _ | refine Below.drew ?_))
  have htab := hid (callsTable_any (S := S) (.slice ga gn gc) ga gn gc rfl fa fc n fs W (hf.later rFunc_mono hbW) (fun b hb => Nat.lt_of_lt_of_le (hS b hb) hbW.size) hn (by omega) ha hsm)
  have HW := hid hW
  have HbW := hid hbW
  clear hf hS hn ha hsm hW hbW
  go_enter Tryd.func116, Tryd.ntmps116
  go_wp2_with fail
  rw [← HW.out]
  refine htab.out.mono ?_
  rintro e w1 ⟨ta, tc, os, rfl, htv, hb1⟩
  have Htv := hid htv
  have Hw1 : Hid (Below w.heap.size w w1) := HbW.out.trans (hb1.mono HbW.out.size)
  have hzw : w.heap.size ≤ w1.heap.size := Hw1.out.size
  obtain ⟨R, hR⟩ : ∃ R, R = viaF (callB fs) n := ⟨_, rfl⟩
  rw [← hR] at Htv
  have hspec : ∀ k, k < n → ringF R n k < n ∧ (R k (ringF R n k) && R (ringF R n k) k) = true ∧ ∀ j, j < ringF R n k → (R k j && R j k) = false := fun k hk => ringF_spec hk (by rw [hR]; exact (viaF_reach Ha.out).2 (.refl _))
  have Hspec := hid hspec
  have HR := hid hR
  have Hll : Hid ((ringsF (callB fs) n).length = n) := by show _ = _; simp [ringsF]
  clear htv hb1 hspec hR htab
  simp only []
  go_wp2_with fail
  go_loopw [4, 5] (fun s4 s5 wr => ∃ (k : Nat) (v : Value), v = s4 ∧ k ≤ n ∧ s5 = .int .i64 (k : Int) ∧ OwnInts w1.heap.size wr v ((ringsF (callB fs) n).take k) ∧ Below w1.heap.size w1 wr) (fun _ s5 _ => n - (intOf s5).toNat)
  case atStart => exact ⟨0, _, rfl, Nat.zero_le _, rfl, OwnInts.nil _ _, Below.refl _ _⟩
  case round =>
    obtain ⟨k, v, rfl, hk, rfl, ho, hb⟩ := hrel
    have Ho := hid ho
    have Hb := hid hb
    have hzr := hb.size
    clear ho hb
    by_cases hkn : k < n
    · obtain ⟨hr1, hr2, hr3⟩ := Hspec.out k hkn
      obtain ⟨r, hre⟩ : ∃ r, r = ringF R n k := ⟨_, rfl⟩
      rw [← hre] at hr1 hr2 hr3
      have Hr2 := hid hr2
      have Hr3 := hid hr3
      have Hstep : Hid ((ringsF (callB fs) n).take (k + 1) = (ringsF (callB fs) n).take k ++ [(r : Int)]) := by show _ = _; rw [ringsF_take hkn, hre, HR.out]
      clear hre hr2 hr3
      go_wp2_with fail
      go_loop [6] (fun s6 => ∃ x : Nat, x ≤ r ∧ s6 = .int .i64 (x : Int)) (fun s6 => r - (intOf s6).toNat)
      case atStart => exact ⟨0, Nat.zero_le _, rfl⟩
      case round =>
        obtain ⟨x, hx, rfl⟩ := hrel
        have hxn : x < n := by omega
        obtain ⟨b, off, ok, rfl, r0, rr0⟩ := Htv.out.rd hkn
        obtain ⟨b', off', ox, hbe, r1, rr1⟩ := Htv.out.rd hxn
        cases hbe
        have r0 := cell_later' r0 Hb.out
        have r1 := cell_later' r1 Hb.out
        have t0 := cell_later' (rr0 x hxn) Hb.out
        have t1 := cell_later' (rr1 k hkn) Hb.out
        have zb : b < wr.heap.size := cell_lt r0
        have zk : ok < wr.heap.size := cell_lt t0
        have zx : ox < wr.heap.size := cell_lt t1
        have i0 : (0 : Int) ≤ (k : Int) := by omega
        have i1 : (k : Int) < (n : Int) := by omega
        have i2 : (0 : Int) ≤ (x : Int) := by omega
        have i3 : (x : Int) < (n : Int) := by omega
        clear rr0 rr1
        by_cases hxr : x = r
        · have h := Hr2.out
          rw [← hxr, Bool.and_eq_true] at h
          rw [h.1] at t0
          rw [h.2] at t1
          subst hxr
          clear h
          go_wp2_with (at_builtin; refine wpList_append_ints rfl _ _ rfl w1.heap.size v ((ringsF (callB fs) n).take k) rfl ?_ _ _ _ [(x : Int)] rfl (S := fun _ => True) ?_ rfl ?_ ?_ ?_)
          · exact Ho.out.later (by (repeat (first | exact Below.refl _ _ | refine Below.alloc ?_ (by first | omega | (simp <;> omega)) _ | refine Below.setCell ?_ (by first | omega | (simp <;> omega)) _ | refine below_drewN ?_ _ | refine Below.drew ?_)))
          · exact one_sl wr (x : Int) (by unfold I64; omega)
          · first | omega | (simp; omega)
          · first | omega | (simp; omega)
          · intro v6 w6 hown6 hgr6
            have hb6 : Below w1.heap.size w1 w6 := by
              refine Below.grown ?_ hgr6 (by simp; omega) (fun g hg => (own_ge Ho.out hg).1)
              have h := Hb.out
              (repeat (first | exact Below.refl _ _ | exact (h).mono (by first | omega | (simp <;> omega) | (have hh := (h).size; (try simp at hh); omega) | (have hh := (h).size; (try simp at hh); (try simp); omega)) | refine Below.trans ?_ ((h).mono (by first | omega | (simp <;> omega) | (have hh := (h).size; (try simp at hh); omega) | (have hh := (h).size; (try simp at hh); (try simp); omega))) | refine Below.alloc ?_ (by first | omega | (simp <;> omega) | (have hh := (h).size; (try simp at hh); omega) | (have hh := (h).size; (try simp at hh); (try simp); omega)) _ | refine Below.setCell ?_ (by first | omega | (simp <;> omega) | (have hh := (h).size; (try simp at hh); omega) | (have hh := (h).size; (try simp at hh); (try simp); omega)) _ | refine below_drewN ?_ _ | refine Below.drew ?_))
            have Hb6 := hid hb6
            have Hown6 : Hid (OwnInts w1.heap.size w6 v6 ((ringsF (callB fs) n).take (k + 1))) := by show OwnInts _ _ _ _; rw [Hstep.out]; exact hown6
            obtain ⟨a6, c6, h6⟩ := hown6.shape
            subst h6
            clear hown6 hgr6 hb6
            go_wp2_with fail
            go_roundw
            case rel => exact ⟨k + 1, _, rfl, by omega, by go_num, Hown6.out, Hb6.out⟩
            case measure => simp [intOf]; omega
        · have h := Hr3.out x (by omega)
          cases h1 : R k x with
          | false =>
            rw [h1] at t0
            clear h h1
            go_wp2_with fail
            go_round
            case rel => exact ⟨x + 1, by omega, by go_num⟩
            case measure => simp [intOf]; omega
          | true =>
            rw [h1] at t0 h
            have h2 : R x k = false := by simpa using h
            rw [h2] at t1
            clear h h1 h2
            go_wp2_with fail
            go_round
            case rel => exact ⟨x + 1, by omega, by go_num⟩
            case measure => simp [intOf]; omega
    · have hkn' : k = n := by omega
      have hown := Ho.out
      rw [hkn', List.take_of_length_le (Nat.le_of_eq Hll.out)] at hown
      have Hown := hid hown
      rw [hkn']
      clear hown hkn hkn'
      go_wp2_with fail
      go_ret
      exact ⟨_, rfl, Hown.out.low hzw, Hw1.out.trans (Hb.out.mono hzw)⟩

end Go.Proofs.YtaehkcnankijfaaDoor
