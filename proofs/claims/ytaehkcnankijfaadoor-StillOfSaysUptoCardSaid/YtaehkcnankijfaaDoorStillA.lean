/- still.within; turnerysame.Bools; turneryref5.WordsOf; turneryref6.StillFirst. -/
import Derived.Test.YtaehkcnankijfaaDoorStill0
import Derived.Test.YtaehkcnankijfaaDoorCopy
import Derived.Test.YtaehkcnankijfaaDoorSameU
import Derived.BigRegion
namespace Go.Proofs.YtaehkcnankijfaaDoor
open Go.RowKit

def inB (r : Bool) (n m : Int) : Bool := !r && (decide (0 ≤ n) && decide (n < m))

set_option maxHeartbeats 1000000 in
theorem swithin_any (r : Bool) (n m : Int) (w : World) :
    Calls Tryd.prog 81 #[.agg #[.bool r, .int .i64 n], .int .i64 m] w fun e w' => e = .returned (.bool (inB r n m)) ∧ Below w.heap.size w w' := by
  cases r with
  | true =>
    have Hr : Hid (inB true n m = false) := rfl
    go_enter Tryd.func81, Tryd.ntmps81
    go_wp2_with fail
    go_ret
    exact ⟨ret_bool Hr.out.symm, by (repeat (first | exact Below.refl _ _ | refine Below.alloc ?_ (by first | omega | (simp <;> omega)) _ | refine Below.setCell ?_ (by first | omega | (simp <;> omega)) _ | refine below_drewN ?_ _ | refine Below.drew ?_))⟩
  | false =>
    by_cases h0 : 0 ≤ n
    · by_cases h1 : n < m
      · have Hr : Hid (inB false n m = true) := by show _ = _; unfold inB; simp [h0, h1]
        go_enter Tryd.func81, Tryd.ntmps81
        go_wp2_with fail
        go_ret
        exact ⟨ret_bool Hr.out.symm, by (repeat (first | exact Below.refl _ _ | refine Below.alloc ?_ (by first | omega | (simp <;> omega)) _ | refine Below.setCell ?_ (by first | omega | (simp <;> omega)) _ | refine below_drewN ?_ _ | refine Below.drew ?_))⟩
      · have Hr : Hid (inB false n m = false) := by show _ = _; unfold inB; simp [h1]
        go_enter Tryd.func81, Tryd.ntmps81
        go_wp2_with fail
        go_ret
        exact ⟨ret_bool Hr.out.symm, by (repeat (first | exact Below.refl _ _ | refine Below.alloc ?_ (by first | omega | (simp <;> omega)) _ | refine Below.setCell ?_ (by first | omega | (simp <;> omega)) _ | refine below_drewN ?_ _ | refine Below.drew ?_))⟩
    · have Hr : Hid (inB false n m = false) := by show _ = _; unfold inB; simp [h0]
      go_enter Tryd.func81, Tryd.ntmps81
      go_wp2_with fail
      go_ret
      exact ⟨ret_bool Hr.out.symm, by (repeat (first | exact Below.refl _ _ | refine Below.alloc ?_ (by first | omega | (simp <;> omega)) _ | refine Below.setCell ?_ (by first | omega | (simp <;> omega)) _ | refine below_drewN ?_ _ | refine Below.drew ?_))⟩

theorem bool_at {S : Nat → Prop} {w : World} {a : Option Addr} {n c : Nat} {l : List Bool} (h : SlAt S w 1 rBool (.slice a n c) l) {t : Nat} (ht : t < l.length) : ∃ b off, a = some ⟨b, off, none⟩ ∧ w.cell? ⟨b, off + t, none⟩ = some (.bool l[t]) := by
  obtain ⟨b, off, cs, ha, -, hr, -, hcs⟩ := h.get ht
  have e : cs = [.bool l[t]] := hr
  subst e
  have d := hcs.get1
  rw [Nat.mul_one] at d
  exact ⟨b, off, ha, d⟩

set_option maxRecDepth 100000 in
set_option maxHeartbeats 1000000 in
/-- Two lists that read the same are the same. -/
theorem bools_same {S S' : Nat → Prop} (a : Option Addr) (c : Nat) (l : List Bool) (n : Nat) (a' : Option Addr) (c' : Nat) (w : World) (h : SlAt S w 1 rBool (.slice a n c) l) (h' : SlAt S' w 1 rBool (.slice a' n c') l) (hl : l.length = n) (hn : n ≤ 1048576) :
    Calls Tryd.prog 21 #[.slice a n c, .slice a' n c'] w fun e w' => e = .returned (.bool true) ∧ Below w.heap.size w w' := by
  have H := hid h
  have H' := hid h'
  have Hl := hid hl
  clear h h' hl
  go_enter Tryd.func21, Tryd.ntmps21
  go_wp2_with fail
  go_loopw [5] (fun i wr => ∃ (k q : Nat), k ≤ n ∧ i = .int .i64 k ∧ w.drewN q = wr) (fun i _ => n - (intOf i).toNat)
  case atStart => exact ⟨0, 0, Nat.zero_le _, rfl, rfl⟩
  case round =>
    obtain ⟨k, q, hk, rfl, rfl⟩ := hrel
    by_cases hkl : k < n
    · have hkl' : k < l.length := by rw [Hl.out]; exact hkl
      obtain ⟨b, off, rfl, c0⟩ := bool_at H.out hkl'
      obtain ⟨b', off', rfl, d0⟩ := bool_at H'.out hkl'
      have hb1 : b < w.heap.size := cell_lt c0
      have hb2 : b' < w.heap.size := cell_lt d0
      obtain ⟨x, hx⟩ : ∃ x, l[k] = x := ⟨_, rfl⟩
      rw [hx] at c0 d0
      clear hx
      cases x <;>
      · go_wp2_with fail
        go_quiet (fail)
        go_wp2_with fail
        go_roundw
        case rel => exact ⟨k + 1, _, by omega, by go_num, rfl⟩
        case measure => simp [intOf]; omega
    · obtain rfl : k = n := by omega
      go_wp2_with fail
      go_ret
      exact ⟨rfl, by (repeat (first | exact Below.refl _ _ | refine Below.alloc ?_ (by first | omega | (simp <;> omega)) _ | refine Below.setCell ?_ (by first | omega | (simp <;> omega)) _ | refine below_drewN ?_ _ | refine Below.drew ?_))⟩

theorem wordsUp_bd {gs : List DGlobal} (h : ∀ g ∈ gs, 0 ≤ g.size ∧ g.size ≤ 200) : ∀ k, k ≤ gs.length → 0 ≤ wordsUp gs k ∧ wordsUp gs k ≤ 200 * k := by
  intro k
  induction k with
  | zero => intro _; simp [wordsUp]
  | succ k ih =>
    intro hk
    have := ih (by omega)
    have h2 := h _ (List.getElem_mem hk)
    rw [wordsUp_succ hk]
    omega

set_option maxRecDepth 100000 in
set_option maxHeartbeats 1000000 in
theorem wordsOf_any {S : Nat → Prop} (ga fa : Option Addr) (gc fn fc : Nat) (gs : List DGlobal) (w : World) (hg : SlAt S w 3 rGlobal (.slice ga gs.length gc) gs) (hn : gs.length ≤ 10) (hsz : ∀ g ∈ gs, 0 ≤ g.size ∧ g.size ≤ 200) :
    Calls Tryd.prog 48 #[.agg #[.slice ga gs.length gc, .slice fa fn fc]] w fun e w' => e = .returned (.int .i64 (wordsUp gs gs.length)) ∧ Below w.heap.size w w' := by
  have Hg := hid hg
  have Hsz := hid hsz
  clear hg hsz
  go_enter Tryd.func48, Tryd.ntmps48
  go_wp2_with fail
  obtain ⟨W, hW⟩ : ∃ W, W = w.alloc (.cells #[.slice ga gs.length gc, .slice fa fn fc] 25) := ⟨_, rfl⟩
  have hbW : Below w.heap.size w W := by rw [hW]; (repeat (first | exact Below.refl _ _ | refine Below.alloc ?_ (by first | omega | (simp <;> omega)) _ | refine Below.setCell ?_ (by first | omega | (simp <;> omega)) _ | refine below_drewN ?_ _ | refine Below.drew ?_))
  have g0 : W.cell? ⟨w.heap.size, 0, none⟩ = some (.slice ga gs.length gc) := by rw [hW]; simp
  have z0 : w.heap.size < W.heap.size := cell_lt g0
  rw [← hW]
  have HbW := hid hbW
  clear hW hbW
  go_loop [3, 4] (fun s i => ∃ k : Nat, k ≤ gs.length ∧ i = .int .i64 k ∧ s = .int .i64 (wordsUp gs k)) (fun _ i => gs.length - (intOf i).toNat)
  case atStart => exact ⟨0, Nat.zero_le _, rfl, rfl⟩
  case round =>
    obtain ⟨k, hk, rfl, rfl⟩ := hrel
    have hbd := wordsUp_bd Hsz.out k hk
    by_cases hkl : k < gs.length
    · obtain ⟨b, off, ia, ic, rfl, hcs, -, -⟩ := global_at (Hg.out.later rGlobal_mono HbW.out) hkl
      obtain ⟨-, c1, -⟩ := hcs.get3
      have zb : b < W.heap.size := cell_lt c1
      have hs := Hsz.out _ (List.getElem_mem hkl)
      have Hst : Hid (wordsUp gs (k + 1) = wordsUp gs k + gs[k].size) := wordsUp_succ hkl
      clear hcs
      obtain ⟨t, ht⟩ : ∃ t, t = wordsUp gs k := ⟨_, rfl⟩
      rw [← ht] at hbd Hst ⊢
      clear ht
      go_wp2_with fail
      go_round
      case rel => exact ⟨k + 1, by omega, by go_num, by rw [Hst.out]⟩
      case measure => simp [intOf]; omega
    · obtain rfl : k = gs.length := by omega
      go_wp2_with fail
      go_ret
      exact ⟨rfl, HbW.out⟩

theorem stFirst_drop {gs : List DGlobal} {k : Nat} (hk : k < gs.length) (p : Int) : stFirst (gs.drop k) p = if 0 ≤ p ∧ p < gs[k].size then (gs[k].init.getD p.toNat 0, true) else stFirst (gs.drop (k + 1)) (p - gs[k].size) := by
  rw [List.drop_eq_getElem_cons hk]; rfl

set_option maxRecDepth 100000 in
set_option maxHeartbeats 2000000 in
theorem stillFirst_any {S : Nat → Prop} (ga fa : Option Addr) (gc fn fc : Nat) (gs : List DGlobal) (p : Int) (w : World) (hg : SlAt S w 3 rGlobal (.slice ga gs.length gc) gs) (hn : gs.length ≤ 10) (hsz : ∀ g ∈ gs, 0 ≤ g.size ∧ g.size ≤ 200) (hp : -200 ≤ p ∧ p ≤ 2000) :
    Calls Tryd.prog 49 #[.agg #[.slice ga gs.length gc, .slice fa fn fc], .int .i64 p] w fun e w' => e = .returned (.tuple #[.int .i64 (stFirst gs p).1, .bool (stFirst gs p).2]) ∧ Below w.heap.size w w' := by
  have Hg := hid hg
  have Hsz := hid hsz
  clear hg hsz
  go_enter Tryd.func49, Tryd.ntmps49
  go_wp2_with fail
  obtain ⟨W, hW⟩ : ∃ W, W = w.alloc (.cells #[.slice ga gs.length gc, .slice fa fn fc] 25) := ⟨_, rfl⟩
  have hbW : Below w.heap.size w W := by rw [hW]; (repeat (first | exact Below.refl _ _ | refine Below.alloc ?_ (by first | omega | (simp <;> omega)) _ | refine Below.setCell ?_ (by first | omega | (simp <;> omega)) _ | refine below_drewN ?_ _ | refine Below.drew ?_))
  have g0 : W.cell? ⟨w.heap.size, 0, none⟩ = some (.slice ga gs.length gc) := by rw [hW]; simp
  rw [← hW]
  have HbW := hid hbW
  have G0 := hid g0
  clear hW hbW g0
  go_loopw [1, 6] (fun s i wr => ∃ (k : Nat) (q : Int), k ≤ gs.length ∧ i = .int .i64 k ∧ s = .int .i64 q ∧ stFirst (gs.drop k) q = stFirst gs p ∧ -200 - 200 * (k : Int) ≤ q ∧ q ≤ 2000 ∧ Below W.heap.size W wr) (fun _ i _ => gs.length - (intOf i).toNat)
  case atStart => exact ⟨0, p, Nat.zero_le _, rfl, rfl, rfl, by omega, by omega, Below.refl _ _⟩
  case round =>
    obtain ⟨k, q, hk, rfl, rfl, he, hq1, hq2, hb⟩ := hrel
    have g0 := cell_later' G0.out hb
    have z0 : w.heap.size < wr.heap.size := cell_lt g0
    have Hb := hid hb
    have He := hid he
    have Hw : Hid (Below w.heap.size w wr) := HbW.out.trans (hb.mono HbW.out.size)
    clear hb he
    by_cases hkl : k < gs.length
    · obtain ⟨b, off, ia, ic, rfl, hcs, hin, -⟩ := global_at (Hg.out.later rGlobal_mono Hw.out) hkl
      obtain ⟨c0, c1, c2⟩ := hcs.get3
      have zb : b < wr.heap.size := cell_lt c1
      have hs := Hsz.out _ (List.getElem_mem hkl)
      have hst := stFirst_drop hkl q
      have Hin := hid hin
      clear hcs hin
      by_cases hlt : 0 ≤ q ∧ q < gs[k].size
      · obtain ⟨h0, h1⟩ := hlt
        rw [if_pos ⟨h0, h1⟩, He.out] at hst
        have Hst := hid hst
        clear hst
        by_cases hi : q < (gs[k].init.length : Int)
        · obtain ⟨m, rfl⟩ := Int.eq_ofNat_of_zero_le h0
          have hm : m < gs[k].init.length := by omega
          obtain ⟨ib, ioff, rfl, i0⟩ := int_at Hin.out hm
          have zi : ib < wr.heap.size := cell_lt i0
          have Hv : Hid ((stFirst gs p) = (gs[k].init[m], true)) := by
            show _ = _
            rw [Hst.out, Int.toNat_natCast, List.getD_eq_getElem?_getD, List.getElem?_eq_getElem hm]; rfl
          go_wp2_with fail
          go_ret2
          rw [Hv.out]
          exact ⟨rfl, by have h := Hw.out; (repeat (first | exact Below.refl _ _ | exact (h).mono (by first | omega | (simp <;> omega) | (have hh := (h).size; (try simp at hh); omega) | (have hh := (h).size; (try simp at hh); (try simp); omega)) | refine Below.trans ?_ ((h).mono (by first | omega | (simp <;> omega) | (have hh := (h).size; (try simp at hh); omega) | (have hh := (h).size; (try simp at hh); (try simp); omega))) | refine Below.alloc ?_ (by first | omega | (simp <;> omega) | (have hh := (h).size; (try simp at hh); omega) | (have hh := (h).size; (try simp at hh); (try simp); omega)) _ | refine Below.setCell ?_ (by first | omega | (simp <;> omega) | (have hh := (h).size; (try simp at hh); omega) | (have hh := (h).size; (try simp at hh); (try simp); omega)) _ | refine below_drewN ?_ _ | refine Below.drew ?_))⟩
        · have Hv : Hid ((stFirst gs p) = (0, true)) := by
            show _ = _
            rw [Hst.out, List.getD_eq_getElem?_getD, List.getElem?_eq_none (by omega)]; rfl
          go_wp2_with fail
          go_ret2
          rw [Hv.out]
          exact ⟨rfl, by have h := Hw.out; (repeat (first | exact Below.refl _ _ | exact (h).mono (by first | omega | (simp <;> omega) | (have hh := (h).size; (try simp at hh); omega) | (have hh := (h).size; (try simp at hh); (try simp); omega)) | refine Below.trans ?_ ((h).mono (by first | omega | (simp <;> omega) | (have hh := (h).size; (try simp at hh); omega) | (have hh := (h).size; (try simp at hh); (try simp); omega))) | refine Below.alloc ?_ (by first | omega | (simp <;> omega) | (have hh := (h).size; (try simp at hh); omega) | (have hh := (h).size; (try simp at hh); (try simp); omega)) _ | refine Below.setCell ?_ (by first | omega | (simp <;> omega) | (have hh := (h).size; (try simp at hh); omega) | (have hh := (h).size; (try simp at hh); (try simp); omega)) _ | refine below_drewN ?_ _ | refine Below.drew ?_))⟩
      · rw [if_neg hlt, He.out] at hst
        have Hst := hid hst
        clear hst
        by_cases h0 : 0 ≤ q
        · have h1 : gs[k].size ≤ q := by omega
          clear hlt
          go_wp2_with fail
          go_roundw
          case rel => exact ⟨k + 1, _, by omega, by go_num, rfl, Hst.out.symm, by omega, by omega, by have h := Hb.out; (repeat (first | exact Below.refl _ _ | exact (h).mono (by first | omega | (simp <;> omega) | (have hh := (h).size; (try simp at hh); omega) | (have hh := (h).size; (try simp at hh); (try simp); omega)) | refine Below.trans ?_ ((h).mono (by first | omega | (simp <;> omega) | (have hh := (h).size; (try simp at hh); omega) | (have hh := (h).size; (try simp at hh); (try simp); omega))) | refine Below.alloc ?_ (by first | omega | (simp <;> omega) | (have hh := (h).size; (try simp at hh); omega) | (have hh := (h).size; (try simp at hh); (try simp); omega)) _ | refine Below.setCell ?_ (by first | omega | (simp <;> omega) | (have hh := (h).size; (try simp at hh); omega) | (have hh := (h).size; (try simp at hh); (try simp); omega)) _ | refine below_drewN ?_ _ | refine Below.drew ?_))⟩
          case measure => simp [intOf]; omega
        · clear hlt
          go_wp2_with fail
          go_roundw
          case rel => exact ⟨k + 1, _, by omega, by go_num, rfl, Hst.out.symm, by omega, by omega, by have h := Hb.out; (repeat (first | exact Below.refl _ _ | exact (h).mono (by first | omega | (simp <;> omega) | (have hh := (h).size; (try simp at hh); omega) | (have hh := (h).size; (try simp at hh); (try simp); omega)) | refine Below.trans ?_ ((h).mono (by first | omega | (simp <;> omega) | (have hh := (h).size; (try simp at hh); omega) | (have hh := (h).size; (try simp at hh); (try simp); omega))) | refine Below.alloc ?_ (by first | omega | (simp <;> omega) | (have hh := (h).size; (try simp at hh); omega) | (have hh := (h).size; (try simp at hh); (try simp); omega)) _ | refine Below.setCell ?_ (by first | omega | (simp <;> omega) | (have hh := (h).size; (try simp at hh); omega) | (have hh := (h).size; (try simp at hh); (try simp); omega)) _ | refine below_drewN ?_ _ | refine Below.drew ?_))⟩
          case measure => simp [intOf]; omega
    · have hkn : k = gs.length := by omega
      have Hv : Hid ((stFirst gs p) = (0, false)) := by
        show _ = _
        rw [← He.out, hkn, List.drop_length]; rfl
      clear hkn
      go_wp2_with fail
      go_ret2
      rw [Hv.out]
      exact ⟨rfl, Hw.out⟩

end Go.Proofs.YtaehkcnankijfaaDoor
