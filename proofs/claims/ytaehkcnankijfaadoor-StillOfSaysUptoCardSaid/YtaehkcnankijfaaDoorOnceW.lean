/- The law WeighOnce: its walk. -/
import Derived.Test.YtaehkcnankijfaaDoorFrame
import Derived.Test.YtaehkcnankijfaaDoorSame
import Derived.Test.YtaehkcnankijfaaDoorOnce0
namespace Go.Proofs.YtaehkcnankijfaaDoor
open Go.RowKit

theorem checkF_zero {u : DUnit} (h : (checkF u).1 = 0) : checkF u = (0, 0) := by
  have h0 := h
  unfold checkF at h ⊢
  by_cases h1 : 10 < u.globals.length ∨ 10 < u.funcs.length
  · rw [if_pos h1] at h; simp at h
  rw [if_neg h1] at h ⊢
  by_cases h2 : posF (globE u.globals) u.globals.length < u.globals.length
  · rw [if_pos h2] at h; exact absurd h (posF_ne h2)
  rw [if_neg h2] at h ⊢
  by_cases h3 : posF (headsE u.globals u.funcs) u.funcs.length < u.funcs.length
  · rw [if_pos h3] at h; exact absurd h (posF_ne h3)
  rw [if_neg h3] at h ⊢
  by_cases h4 : posF (bodiesE u.funcs) u.funcs.length < u.funcs.length
  · rw [if_pos h4] at h; exact absurd h (posF_ne h4)
  rw [if_neg h4] at h ⊢
  unfold lastE at h ⊢
  by_cases h5 : idxMain u.funcs < 0
  · rw [if_pos h5] at h; simp at h
  rw [if_neg h5] at h ⊢
  by_cases h6 : 0 < (u.funcs.getD (idxMain u.funcs).toNat ⟨ByteArray.empty, 0, 0, []⟩).params
  · rw [if_pos h6] at h; simp at h
  rw [if_neg h6]

/-- weigh.Lay's answer, case by case. -/
theorem layS_cases (u : DUnit) (k : Int) (C : List Int) :
    ((layS u k C).1 = [] ∧ (layS u k C).2.1 ≠ 0) ∨
    ∃ (kk : Nat) (f : DFunc), k = kk ∧ u.funcs[kk]? = some f ∧ C.length = f.blocks.length ∧ 0 < f.blocks.length ∧ f.blocks.length ≤ 40 ∧ (∀ (i : Nat) (x : DBlock), f.blocks[i]? = some x → ∀ t ∈ x.fin.to, 0 ≤ t ∧ t < (f.blocks.length : Int)) ∧
      layS u k C = ((layF f.blocks (cntOf C)).map (fun b : Nat => (b : Int)), 0, 0) ∧ checkF u = (0, 0) := by
  by_cases h0 : checkF u ≠ (0, 0)
  · refine .inl ⟨?_, ?_⟩
    · unfold layS; rw [if_pos h0]
    · unfold layS; rw [if_pos h0]; exact fun h => h0 (checkF_zero h)
  · have h1 : checkF u = (0, 0) := Classical.not_not.1 h0
    by_cases h2 : k < 0
    · refine .inl ⟨?_, ?_⟩ <;> (unfold layS; rw [if_neg h0, if_pos h2]) ; decide
    · cases h3 : u.funcs[k.toNat]? with
      | none =>
        refine .inl ⟨?_, ?_⟩ <;> (unfold layS; rw [if_neg h0, if_neg h2]; simp only [h3]) ; decide
      | some f =>
        by_cases h4 : C.length ≠ f.blocks.length
        · refine .inl ⟨?_, ?_⟩ <;> (unfold layS; rw [if_neg h0, if_neg h2]; simp only [h3]; rw [if_pos h4]) ; decide
        · obtain ⟨n1, n2, n3⟩ := checkF_func (u := u) (k := k.toNat) (f := f) (by rw [h1]) h3
          refine .inr ⟨k.toNat, f, by omega, h3, Classical.not_not.1 h4, by omega, n2, ?_, ?_, h1⟩
          · intro i x hx t ht
            have h := endE_ok (n3 i x hx)
            have := h.2.2.2.1 t ht
            omega
          · unfold layS; rw [if_neg h0, if_neg h2]; simp only [h3]; rw [if_neg h4]

/-- A value that names a slice: its length. -/
theorem sl_len {α : Type} {r : Rp α} {S : Nat → Prop} {w : World} {sz : Nat} {v : Value} {l : List α} (h : SlAt S w sz r v l) : ∃ a c, v = .slice a l.length c := by
  obtain ⟨a, c, hv, _⟩ := h
  exact ⟨a, c, hv⟩

/-- Between two rounds of WeighOnce's loop. -/
structure OnceSt (w W3 wr : World) (H n : Nat) (r : List Nat) (k : Nat) : Prop where
  had : wr.rowIs H 4 n (fun b => .bool (hadB (r.take k) b))
  below : Below w.heap.size w wr
  old : Below W3.heap.size W3 wr
theorem OnceSt.next {w W3 wr : World} {H n : Nat} {r : List Nat} {k : Nat} (h : OnceSt w W3 wr H n r k) (hk : k < r.length) (h1 : w.heap.size ≤ H) (h2 : W3.heap.size ≤ H) {x : Nat} (hx : r[k] = x) :
    OnceSt w W3 (wr.setCell ⟨H, x, none⟩ (.bool true)) H n r (k + 1) := by
  subst hx
  refine ⟨(h.had.set r[k] (.bool true)).congr (fun y hy => ?_), h.below.setCell (by exact h1) _, h.old.setCell (by exact h2) _⟩
  rw [List.take_succ_eq_append_getElem hk, hadB_snoc]
  by_cases hyb : y = r[k]
  · rw [if_pos hyb, hyb, beq_self_eq_true, Bool.or_true]
  · rw [if_neg hyb, show (y == r[k]) = false by simpa using hyb, Bool.or_false]

set_option maxRecDepth 100000 in
set_option maxHeartbeats 4000000 in
theorem weighOnce_any (w : World) (hw : Ways w) (ga : Option Addr) (gc : Nat) (fa : Option Addr) (fc : Nat) (gs : List DGlobal) (fs : List DFunc) (hg : SlAt (fun b => b < w.heap.size) w 3 rGlobal (.slice ga gs.length gc) gs) (hf : SlAt (fun b => b < w.heap.size) w 4 rFunc (.slice fa fs.length fc) fs)
    (hsm : Small gs fs) (k : Int) (_hk1 : -9223372036854775808 ≤ k) (_hk2 : k ≤ 9223372036854775807) (ca : Option Addr) (cc : Nat) (C : List Int) (hC : SlAt (fun b => b < w.heap.size) w 1 rInt (.slice ca C.length cc) C) (hcl : C.length ≤ 1048576) :
    Calls Tryd.prog 4 #[.agg #[.slice ga gs.length gc, .slice fa fs.length fc], .int .i64 k, .slice ca C.length cc] w fun e w' => e = .returned (.bool true) ∧ Below w.heap.size w w' := by
  have Hg := hid hg
  have Hf := hid hf
  have HC := hid hC
  have Hw := hid hw
  have Hsm := hid hsm
  clear hg hf hC hw hsm _hk1 _hk2
  go_enter Tryd.func4, Tryd.ntmps4
  obtain ⟨W, hW⟩ : ∃ W, W = (w.alloc (.cells #[.slice ga gs.length gc, .slice fa fs.length fc] 25)) := ⟨_, rfl⟩
  have hbW : Below w.heap.size w W := by rw [hW]; (repeat (first | exact Below.refl _ _ | refine Below.alloc ?_ (by first | omega | (simp <;> omega)) _ | refine Below.setCell ?_ (by first | omega | (simp <;> omega)) _ | refine below_drewN ?_ _ | refine Below.drew ?_))
  have g0 : W.cell? ⟨w.heap.size, 0, none⟩ = some (.slice ga gs.length gc) := by rw [hW]; simp
  have g1 : W.cell? ⟨w.heap.size, 1, none⟩ = some (.slice fa fs.length fc) := by rw [hW]; simp
  have hWs : W.heap.size = w.heap.size + 1 := by rw [hW]; simp
  have Hg0 := hid g0
  have Hg1 := hid g1
  have HW := hid hW
  clear hW
  go_wp2_with fail
  rw [← HW.out]
  refine (Lay_any ga gc fa fc gs fs k ca cc C W (Hg.out.later rGlobal_mono hbW) (Hf.out.later rFunc_mono hbW) (HC.out.later rInt_mono hbW) (Ways.below Hw.out hbW) Hsm.out.globals Hsm.out.funcs hcl Hsm.out.many).mono ?_
  rintro e w1 ⟨v1, rfl, hv1, hb1⟩
  obtain ⟨a1, e1, rfl⟩ := sl_len hv1
  have hcase := layS_cases ⟨gs, fs⟩ k C
  obtain ⟨L, c, d, hr⟩ : ∃ L c d, layS ⟨gs, fs⟩ k C = (L, c, d) := ⟨_, _, _, rfl⟩
  rw [hr] at hv1 hcase ⊢
  have Hb1 : Hid (Below w.heap.size w w1) := hbW.trans (hb1.mono (by omega))
  have z1 : w.heap.size < w1.heap.size := by have := hb1.size; omega
  have Hv1 := hid hv1
  clear hr hb1 hbW g0 g1 hWs hv1
  dsimp only at hcase ⊢
  rcases hcase with ⟨rfl, hc⟩ | ⟨kk, f, rfl, hfk, hlen, hpos, hle, hTo, hL, -⟩
  · have hq : (decide (c < 0) || decide (0 < c)) = true := ne_yes hc
    clear hc
    go_wp2_with fail
    go_ret
    exact ⟨rfl, by have h := Hb1.out; (repeat (first | exact Below.refl _ _ | exact (h).mono (by first | omega | (simp <;> omega) | (have hh := (h).size; (try simp at hh); omega) | (have hh := (h).size; (try simp at hh); (try simp); omega)) | refine Below.trans ?_ ((h).mono (by first | omega | (simp <;> omega) | (have hh := (h).size; (try simp at hh); omega) | (have hh := (h).size; (try simp at hh); (try simp); omega))) | refine Below.alloc ?_ (by first | omega | (simp <;> omega) | (have hh := (h).size; (try simp at hh); omega) | (have hh := (h).size; (try simp at hh); (try simp); omega)) _ | refine Below.setCell ?_ (by first | omega | (simp <;> omega) | (have hh := (h).size; (try simp at hh); omega) | (have hh := (h).size; (try simp at hh); (try simp); omega)) _ | refine below_drewN ?_ _ | refine Below.drew ?_))⟩
  · cases hL
    have hT := targets_lt hTo
    clear hTo
    obtain ⟨r, hr⟩ : ∃ r, r = layF f.blocks (cntOf C) := ⟨_, rfl⟩
    obtain ⟨hO, hO2, -⟩ := layF_once (bs := f.blocks) (c := cntOf C) hpos hT
    rw [← hr] at Hv1 hO hO2 ⊢
    obtain ⟨n, hn⟩ : ∃ n, n = r.length := ⟨_, rfl⟩
    have hv := Hv1.out
    dsimp only at hv
    rw [List.length_map, ← hn] at hv ⊢
    have hCn : C.length = n := by omega
    have hn40 : n ≤ 40 := by omega
    have hn0 : 0 < n := by omega
    have hlt : ∀ x ∈ r, x < n := fun x hx => by have := hO.lt x hx; omega
    have h00 : r[0]? = some 0 := hO.head
    rw [hCn]
    have Hv := hid hv
    have HO := hid hO
    have HT := hid hT
    have Hn := hid hn
    have Hlt := hid hlt
    have hml : (r.map (fun b : Nat => (b : Int))).length = n := by rw [List.length_map]; omega
    have Hml := hid hml
    obtain ⟨b, off, hab, c0⟩ := int_at hv (t := 0) (by omega)
    have e00 : (r.map (fun b : Nat => (b : Int)))[0]'(by omega) = 0 := by
      rw [List.getElem_map]
      have := (List.getElem?_eq_some_iff.1 h00).2
      rw [this]; rfl
    rw [e00, Nat.add_zero] at c0
    subst hab
    have hb1 : b < w1.heap.size := cell_lt c0
    have hmk := run_make_row' (P := Tryd.prog) 39 4 (.bool false) 1 Tryd.underlying39 infoBool rfl .i64 .i64 n (by omega) (by omega)
    clear hv hO hT hlt h00 hr hn hml e00 hpos hle hlen hO2 hCn hfk Hv1 hcl
    go_wp2_with fail
    obtain ⟨H, hH⟩ : ∃ H, H = w1.heap.size + 1 := ⟨_, rfl⟩
    obtain ⟨W3, hW3⟩ : ∃ W3, W3 = (w1.alloc (.cells #[.int .i64 0, .int .i64 0] 28)).alloc (.cells (madeCells #[.bool false] n) 4) := ⟨_, rfl⟩
    have hst : OnceSt w w1 W3 H n r 0 := by
      rw [hW3]
      refine ⟨?_, ?_, ?_⟩
      · have h := World.rowIs_made (w1.alloc (.cells #[.int .i64 0, .int .i64 0] 28)) (.bool false) n 4
        rw [show (w1.alloc (.cells #[.int .i64 0, .int .i64 0] 28)).heap.size = H by simp [hH]] at h
        exact h.congr (fun y hy => by simp [hadB])
      · have h := Hb1.out; (repeat (first | exact Below.refl _ _ | exact (h).mono (by first | omega | (simp <;> omega) | (have hh := (h).size; (try simp at hh); omega) | (have hh := (h).size; (try simp at hh); (try simp); omega)) | refine Below.trans ?_ ((h).mono (by first | omega | (simp <;> omega) | (have hh := (h).size; (try simp at hh); omega) | (have hh := (h).size; (try simp at hh); (try simp); omega))) | refine Below.alloc ?_ (by first | omega | (simp <;> omega) | (have hh := (h).size; (try simp at hh); omega) | (have hh := (h).size; (try simp at hh); (try simp); omega)) _ | refine Below.setCell ?_ (by first | omega | (simp <;> omega) | (have hh := (h).size; (try simp at hh); omega) | (have hh := (h).size; (try simp at hh); (try simp); omega)) _ | refine below_drewN ?_ _ | refine Below.drew ?_))
      · (repeat (first | exact Below.refl _ _ | refine Below.alloc ?_ (by first | omega | (simp <;> omega)) _ | refine Below.setCell ?_ (by first | omega | (simp <;> omega)) _ | refine below_drewN ?_ _ | refine Below.drew ?_))
    rw [← hH, ← hW3]
    have Hst := hid hst
    have HH := hid hH
    clear hst hW3 hH hmk
    go_loopw [10] (fun i wr => ∃ (k : Nat), k ≤ n ∧ i = .int .i64 k ∧ OnceSt w w1 wr H n r k) (fun i _ => n - (intOf i).toNat)
    case atStart => exact ⟨0, Nat.zero_le _, rfl, Hst.out⟩
    case round =>
      obtain ⟨j, hj, rfl, hs⟩ := hrel
      have Hs := hid hs
      have hH1 : w1.heap.size < H := by have := HH.out; omega
      by_cases hjn : j < n
      · have hjr : j < r.length := by have := Hn.out; omega
        obtain ⟨b', off', hab, c1⟩ := int_at (Hv.out.later rInt_mono hs.old) (t := j) (by have := Hml.out; omega)
        cases hab
        rw [List.getElem_map] at c1
        obtain ⟨x, hx⟩ : ∃ x, r[j] = x := ⟨_, rfl⟩
        have hxn : x < n := by rw [← hx]; exact Hlt.out _ (List.getElem_mem _)
        have hfr := HO.out.fresh HT.out hjr
        rw [hx] at hfr c1
        have c2 := hs.had.cell hxn
        rw [hfr] at c2
        have f2 := hs.had.frozen x
        have hbH : b < wr.heap.size := cell_lt c1
        have hHw : H < wr.heap.size := hs.had.lt
        have Hx := hid hx
        clear hs hfr hx c0
        go_wp2_with fail
        go_roundw
        case rel => exact ⟨j + 1, by omega, by go_num, Hs.out.next hjr (by have := Hb1.out.size; omega) (by omega) Hx.out⟩
        case measure => simp [intOf]; omega
      · obtain rfl : j = n := by omega
        go_wp2_with fail
        go_ret
        exact ⟨rfl, Hs.out.below⟩

end Go.Proofs.YtaehkcnankijfaaDoor
