/- The contract of the checker's end. -/
import Derived.Test.YtnkogppgacappaaDoorPChk2
import Derived.Deep.QuietTactic
import Derived.BigQuiet
namespace Go.Proofs.YtnkogppgacappaaDoor
open Go.RowKit

/-- A target that may not stand there. -/
def badTo (n : Nat) (x : Int) : Bool := !decide (1 ≤ x ∧ x ≤ (n : Int) - 1)

set_option maxHeartbeats 400000 in
theorem end1_any (x : Int) (cb : Nat) (ba : Option Addr) (n bc : Nat) (w : World) (hc : w.cell? ⟨cb, 5, none⟩ = some (.slice ba n bc)) (hn : n ≤ 9223372036854775807) :
    Calls Tryd.prog 94 #[.int .i64 x, .pointer (some ⟨cb, 0, none⟩)] w fun e w' => e = .returned (.bool (badTo n x)) ∧ w = w' := by
  go_enter Tryd.func94, Tryd.ntmps94
  go_wp2_with (go_at_call 26; ((with_reducible refine (within_any _ _ _ _).mono ?_); rintro e w' ⟨rfl, rfl⟩))
  go_ret
  exact ⟨ret_bool (by rw [Bool.eq_iff_iff]; simp [badTo]), rfl⟩

def idxBad (n : Nat) (l : List Int) : Int := match l.findIdx? (badTo n) with | some k => k | none => -1
set_option maxHeartbeats 400000 in
theorem indexBad_any {S : Nat → Prop} (v : Value) (l : List Int) (cb : Nat) (ba : Option Addr) (n bc : Nat) (w : World) (h : SlAt S w 1 rInt v l)
    (hc : w.cell? ⟨cb, 5, none⟩ = some (.slice ba n bc)) (hn : n ≤ 9223372036854775807) :
    Calls Tryd.prog 116 #[v, .func (.func 94) #[] #[.pointer (some ⟨cb, 0, none⟩)]] w fun e w' => e = .returned (.int .i64 (idxBad n l)) ∧ w = w' := by
  obtain ⟨ao, c, rfl, hm⟩ := h.val
  go_enter Tryd.func116, Tryd.ntmps116
  go_wp2_with fail
  go_loop [8] (fun i => ∃ k : Nat, k ≤ l.length ∧ i = .int .i64 k ∧ ∀ j, j < k → ∀ x, l[j]? = some x → badTo n x = false) (fun i => l.length - (intOf i).toNat)
  case atStart => exact ⟨0, Nat.zero_le _, rfl, fun j hj => by omega⟩
  case round =>
    obtain ⟨k, hk, rfl, hall⟩ := hrel
    have H := hid hall
    clear hall
    by_cases hlt : k < l.length
    · obtain ⟨b, off, cs, rfl, hb, ⟨rfl, _⟩, hl, hcs⟩ := h.get hlt
      have hcell : w.cell? ⟨b, off + k, none⟩ = some (.int .i64 l[k]) := by simpa using hcs 0 _ rfl
      clear h hcs hl
      by_cases he : badTo n l[k] = true
      · have hi : idxBad n l = k := by unfold idxBad; rw [idx_some (List.getElem?_eq_getElem hlt) he H.out]
        have Hi := hid hi
        clear hi
        go_wp2_with (go_at_call 94; ((with_reducible refine (end1_any _ _ _ _ _ _ hc hn).mono ?_); rintro e w' ⟨rfl, rfl⟩))
        go_ret
        exact ⟨ret_int Hi.out.symm, rfl⟩
      · have he0 : badTo n l[k] = false := by simpa using he
        have He := hid he0
        clear he
        go_wp2_with (go_at_call 94; ((with_reducible refine (end1_any _ _ _ _ _ _ hc hn).mono ?_); rintro e w' ⟨rfl, rfl⟩))
        go_round
        case rel => exact ⟨k + 1, by omega, by go_num, ext_lt H.out (fun x hx => by rw [List.getElem?_eq_getElem hlt] at hx; cases hx; exact He.out)⟩
        case measure => simp [intOf]; omega
    · have hi : idxBad n l = -1 := by
        unfold idxBad
        rw [idx_none (fun j x hx => H.out j (by have := (List.getElem?_eq_some_iff.1 hx).1; omega) x hx)]
      have Hi := hid hi
      clear hi
      go_wp2_with fail
      go_ret
      exact ⟨ret_int Hi.out.symm, rfl⟩

def hasBad (n : Nat) (l : List Int) : Bool := decide (0 ≤ idxBad n l)
set_option maxHeartbeats 400000 in
theorem containsBad_any {S : Nat → Prop} (v : Value) (l : List Int) (cb : Nat) (ba : Option Addr) (n bc : Nat) (w : World) (h : SlAt S w 1 rInt v l)
    (hc : w.cell? ⟨cb, 5, none⟩ = some (.slice ba n bc)) (hn : n ≤ 9223372036854775807) :
    Calls Tryd.prog 93 #[v, .func (.func 94) #[] #[.pointer (some ⟨cb, 0, none⟩)]] w fun e w' => e = .returned (.bool (hasBad n l)) ∧ w = w' := by
  have H := hid h
  clear h
  go_enter Tryd.func93, Tryd.ntmps93
  go_wp2_with (go_at_call 116; ((with_reducible refine (indexBad_any _ _ _ _ _ _ _ H.out hc hn).mono ?_); rintro e w' ⟨rfl, rfl⟩))
  go_ret
  exact ⟨rfl, rfl⟩
theorem hasBad_iff (n : Nat) (l : List Int) : hasBad n l = l.any (badTo n) := by
  unfold hasBad idxBad
  rw [Bool.eq_iff_iff, decide_eq_true_eq]
  simp only [List.any_eq_true]
  split
  · rename_i k h
    rw [List.findIdx?_eq_some_iff_getElem] at h
    obtain ⟨hk, hb, _⟩ := h
    exact ⟨fun _ => ⟨_, List.getElem_mem hk, hb⟩, fun _ => by omega⟩
  · rename_i h
    rw [List.findIdx?_eq_none_iff] at h
    constructor
    · intro h'; omega
    · rintro ⟨x, hx, hb⟩; rw [h x hx] at hb; cases hb

/-- The table 'ways' lies in block 0. -/
def Ways (w : World) : Prop := w.cell? ⟨0, 1, none⟩ = some (.int .i64 0) ∧ w.cell? ⟨0, 2, none⟩ = some (.int .i64 1) ∧ w.cell? ⟨0, 3, none⟩ = some (.int .i64 2)
theorem Ways.below {w w' : World} (h : Ways w) (hb : Below w.heap.size w w') : Ways w' := by
  have h0 := cell_lt h.1
  exact ⟨by rw [hb.cell (p := ⟨0, 1, none⟩) h0]; exact h.1, by rw [hb.cell (p := ⟨0, 2, none⟩) h0]; exact h.2.1, by rw [hb.cell (p := ⟨0, 3, none⟩) h0]; exact h.2.2⟩

def endE (n : Nat) (regs : Int) (e : DEnd) : Int :=
  if ¬ (1 ≤ e.kind ∧ e.kind ≤ 3) then 4
  else if (e.to.length : Int) ≠ e.kind - 1 then 9
  else if e.to.any (badTo n) then 3
  else if (e.kind = 3 ∧ e.to.getD 0 0 = e.to.getD 1 0) ∨ (e.kind = 2 ∧ e.on ≠ ⟨false, 0⟩) then 5
  else valE regs e.on


set_option maxHeartbeats 1000000 in
theorem end_1 {S : Nat → Prop} (g f nm ps : Value) (regs : Int) (ba : Option Addr) (n bc : Nat) (ah : Value) (r : Bool) (m : Int) (l : List Int) (w : World) (ao : Option Addr) (c : Nat) (_b _off : Nat) (_x _y : Int)
    (h0 : 0 ≤ regs) (h1 : regs ≤ 100) (hn : n ≤ 9223372036854775807) (H : Hid (SlAt S w 1 rInt (.slice (ao) l.length c) l)) (hw : Ways w) (Hh : hasBad n l = false) (hl1 : (l.length : Int) ≤ 0) :
    Calls Tryd.prog 62 #[.agg #[g, f, nm, ps, .int .i64 regs, .slice ba n bc, ah], .agg #[.int .i64 1, .bool r, .int .i64 m, .slice (ao) l.length c]] w fun e w' =>
      e = .returned (.int .i64 (valE regs ⟨r, m⟩)) ∧ Below w.heap.size w w' := by
  obtain ⟨w1, w2, w3⟩ := hw
  have hb0 := cell_lt w1
  go_enter Tryd.func62, Tryd.ntmps62
  go_wp2_with (go_at_call 26; ((with_reducible refine (within_any _ _ _ _).mono ?_); rintro e w' ⟨rfl, rfl⟩))
  go_quiet (fail)
  go_wp2_with (first | (go_at_call 26; ((with_reducible refine (within_any _ _ _ _).mono ?_); rintro e w' ⟨rfl, rfl⟩)) | (go_at_call 93; ((with_reducible refine (containsBad_any (S := S) _ l w.heap.size ba n bc _ ?_ ?_ hn).mono ?_); exact SlAt.mono rInt_mono (fun _ h => h) (Stays.below' (by (repeat (first | exact Below.refl _ _ | refine Below.alloc ?_ (by first | omega | (simp <;> omega)) _ | refine Below.setCell ?_ (by first | omega | (simp <;> omega)) _ | refine below_drewN ?_ _ | refine Below.drew ?_)))) H.out; simp; rintro e w' ⟨rfl, rfl⟩)))
  go_quiet (fail)
  go_wp2_with (first | (go_at_call 95; ((with_reducible refine (val_any _ _ _ _ _ _ _ _ _ _ h0 h1).mono ?_); rintro e w1 ⟨rfl, hb1⟩)))
  go_ret
  exact ⟨rfl, by (repeat (first | exact Below.refl _ _ | exact (hb1).mono (by first | omega | (simp <;> omega) | (have hh := (hb1).size; (try simp at hh); omega) | (have hh := (hb1).size; (try simp at hh); (try simp); omega)) | refine Below.trans ?_ ((hb1).mono (by first | omega | (simp <;> omega) | (have hh := (hb1).size; (try simp at hh); omega) | (have hh := (hb1).size; (try simp at hh); (try simp); omega))) | refine Below.alloc ?_ (by first | omega | (simp <;> omega) | (have hh := (hb1).size; (try simp at hh); omega) | (have hh := (hb1).size; (try simp at hh); (try simp); omega)) _ | refine Below.setCell ?_ (by first | omega | (simp <;> omega) | (have hh := (hb1).size; (try simp at hh); omega) | (have hh := (hb1).size; (try simp at hh); (try simp); omega)) _ | refine below_drewN ?_ _ | refine Below.drew ?_))⟩

set_option maxHeartbeats 1000000 in
theorem end_2a {S : Nat → Prop} (g f nm ps : Value) (regs : Int) (ba : Option Addr) (n bc : Nat) (ah : Value) (_r : Bool) (_m : Int) (l : List Int) (w : World) (ao : Option Addr) (c : Nat) (_b _off : Nat) (_x _y : Int)
    (h0 : 0 ≤ regs) (h1 : regs ≤ 100) (hn : n ≤ 9223372036854775807) (H : Hid (SlAt S w 1 rInt (.slice (ao) l.length c) l)) (hw : Ways w) (Hh : hasBad n l = false) (hl1 : (l.length : Int) ≤ 1) (hl2 : 1 ≤ (l.length : Int)) :
    Calls Tryd.prog 62 #[.agg #[g, f, nm, ps, .int .i64 regs, .slice ba n bc, ah], .agg #[.int .i64 2, .bool false, .int .i64 0, .slice (ao) l.length c]] w fun e w' =>
      e = .returned (.int .i64 (valE regs ⟨false, 0⟩)) ∧ Below w.heap.size w w' := by
  obtain ⟨w1, w2, w3⟩ := hw
  have hb0 := cell_lt w1
  go_enter Tryd.func62, Tryd.ntmps62
  go_wp2_with (go_at_call 26; ((with_reducible refine (within_any _ _ _ _).mono ?_); rintro e w' ⟨rfl, rfl⟩))
  go_quiet (fail)
  go_wp2_with (first | (go_at_call 26; ((with_reducible refine (within_any _ _ _ _).mono ?_); rintro e w' ⟨rfl, rfl⟩)) | (go_at_call 93; ((with_reducible refine (containsBad_any (S := S) _ l w.heap.size ba n bc _ ?_ ?_ hn).mono ?_); exact SlAt.mono rInt_mono (fun _ h => h) (Stays.below' (by (repeat (first | exact Below.refl _ _ | refine Below.alloc ?_ (by first | omega | (simp <;> omega)) _ | refine Below.setCell ?_ (by first | omega | (simp <;> omega)) _ | refine below_drewN ?_ _ | refine Below.drew ?_)))) H.out; simp; rintro e w' ⟨rfl, rfl⟩)))
  go_quiet (fail)
  go_wp2_with (first | (go_at_call 95; ((with_reducible refine (val_any _ _ _ _ _ _ _ _ _ _ h0 h1).mono ?_); rintro e w1 ⟨rfl, hb1⟩)))
  go_ret
  exact ⟨rfl, by (repeat (first | exact Below.refl _ _ | exact (hb1).mono (by first | omega | (simp <;> omega) | (have hh := (hb1).size; (try simp at hh); omega) | (have hh := (hb1).size; (try simp at hh); (try simp); omega)) | refine Below.trans ?_ ((hb1).mono (by first | omega | (simp <;> omega) | (have hh := (hb1).size; (try simp at hh); omega) | (have hh := (hb1).size; (try simp at hh); (try simp); omega))) | refine Below.alloc ?_ (by first | omega | (simp <;> omega) | (have hh := (hb1).size; (try simp at hh); omega) | (have hh := (hb1).size; (try simp at hh); (try simp); omega)) _ | refine Below.setCell ?_ (by first | omega | (simp <;> omega) | (have hh := (hb1).size; (try simp at hh); omega) | (have hh := (hb1).size; (try simp at hh); (try simp); omega)) _ | refine below_drewN ?_ _ | refine Below.drew ?_))⟩

set_option maxHeartbeats 1000000 in
theorem end_2b {S : Nat → Prop} (g f nm ps : Value) (regs : Int) (ba : Option Addr) (n bc : Nat) (ah : Value) (_r : Bool) (m : Int) (l : List Int) (w : World) (ao : Option Addr) (c : Nat) (_b _off : Nat) (_x _y : Int)
    (_h0 : 0 ≤ regs) (_h1 : regs ≤ 100) (hn : n ≤ 9223372036854775807) (H : Hid (SlAt S w 1 rInt (.slice (ao) l.length c) l)) (hw : Ways w) (Hh : hasBad n l = false) (hl1 : (l.length : Int) ≤ 1) (hl2 : 1 ≤ (l.length : Int)) :
    Calls Tryd.prog 62 #[.agg #[g, f, nm, ps, .int .i64 regs, .slice ba n bc, ah], .agg #[.int .i64 2, .bool true, .int .i64 m, .slice (ao) l.length c]] w fun e w' =>
      e = .returned (.int .i64 (5)) ∧ Below w.heap.size w w' := by
  obtain ⟨w1, w2, w3⟩ := hw
  have hb0 := cell_lt w1
  go_enter Tryd.func62, Tryd.ntmps62
  go_wp2_with (go_at_call 26; ((with_reducible refine (within_any _ _ _ _).mono ?_); rintro e w' ⟨rfl, rfl⟩))
  go_quiet (fail)
  go_wp2_with (first | (go_at_call 26; ((with_reducible refine (within_any _ _ _ _).mono ?_); rintro e w' ⟨rfl, rfl⟩)) | (go_at_call 93; ((with_reducible refine (containsBad_any (S := S) _ l w.heap.size ba n bc _ ?_ ?_ hn).mono ?_); exact SlAt.mono rInt_mono (fun _ h => h) (Stays.below' (by (repeat (first | exact Below.refl _ _ | refine Below.alloc ?_ (by first | omega | (simp <;> omega)) _ | refine Below.setCell ?_ (by first | omega | (simp <;> omega)) _ | refine below_drewN ?_ _ | refine Below.drew ?_)))) H.out; simp; rintro e w' ⟨rfl, rfl⟩)))
  go_quiet (fail)
  go_wp2_with (first | (go_at_call 95; ((with_reducible refine (val_any _ _ _ _ _ _ _ _ _ _ h0 h1).mono ?_); rintro e w1 ⟨rfl, hb1⟩)))
  go_ret
  exact ⟨rfl, by (repeat (first | exact Below.refl _ _ | refine Below.alloc ?_ (by first | omega | (simp <;> omega)) _ | refine Below.setCell ?_ (by first | omega | (simp <;> omega)) _ | refine below_drewN ?_ _ | refine Below.drew ?_))⟩

set_option maxHeartbeats 1000000 in
theorem end_3a {S : Nat → Prop} (g f nm ps : Value) (regs : Int) (ba : Option Addr) (n bc : Nat) (ah : Value) (r : Bool) (m : Int) (l : List Int) (w : World) (_ao : Option Addr) (c : Nat) (b off : Nat) (x y : Int)
    (_h0 : 0 ≤ regs) (_h1 : regs ≤ 100) (hn : n ≤ 9223372036854775807) (H : Hid (SlAt S w 1 rInt (.slice (some ⟨b, off, none⟩) l.length c) l)) (hw : Ways w) (Hh : hasBad n l = false) (hl1 : (l.length : Int) ≤ 2) (hl2 : 2 ≤ (l.length : Int)) (c0 : w.cell? ⟨b, off, none⟩ = some (.int .i64 x)) (c1 : w.cell? ⟨b, off + 1, none⟩ = some (.int .i64 y)) (hbb : b < w.heap.size) (hz1 : x ≤ y) (hz2 : y ≤ x) :
    Calls Tryd.prog 62 #[.agg #[g, f, nm, ps, .int .i64 regs, .slice ba n bc, ah], .agg #[.int .i64 3, .bool r, .int .i64 m, .slice (some ⟨b, off, none⟩) l.length c]] w fun e w' =>
      e = .returned (.int .i64 (5)) ∧ Below w.heap.size w w' := by
  obtain ⟨w1, w2, w3⟩ := hw
  have hb0 := cell_lt w1
  go_enter Tryd.func62, Tryd.ntmps62
  go_wp2_with (go_at_call 26; ((with_reducible refine (within_any _ _ _ _).mono ?_); rintro e w' ⟨rfl, rfl⟩))
  go_quiet (fail)
  go_wp2_with (first | (go_at_call 26; ((with_reducible refine (within_any _ _ _ _).mono ?_); rintro e w' ⟨rfl, rfl⟩)) | (go_at_call 93; ((with_reducible refine (containsBad_any (S := S) _ l w.heap.size ba n bc _ ?_ ?_ hn).mono ?_); exact SlAt.mono rInt_mono (fun _ h => h) (Stays.below' (by (repeat (first | exact Below.refl _ _ | refine Below.alloc ?_ (by first | omega | (simp <;> omega)) _ | refine Below.setCell ?_ (by first | omega | (simp <;> omega)) _ | refine below_drewN ?_ _ | refine Below.drew ?_)))) H.out; simp; rintro e w' ⟨rfl, rfl⟩)))
  go_quiet (fail)
  go_wp2_with (first | (go_at_call 95; ((with_reducible refine (val_any _ _ _ _ _ _ _ _ _ _ h0 h1).mono ?_); rintro e w1 ⟨rfl, hb1⟩)))
  go_ret
  exact ⟨rfl, by (repeat (first | exact Below.refl _ _ | refine Below.alloc ?_ (by first | omega | (simp <;> omega)) _ | refine Below.setCell ?_ (by first | omega | (simp <;> omega)) _ | refine below_drewN ?_ _ | refine Below.drew ?_))⟩

set_option maxHeartbeats 1000000 in
theorem end_2c {S : Nat → Prop} (g f nm ps : Value) (regs : Int) (ba : Option Addr) (n bc : Nat) (ah : Value) (_r : Bool) (m : Int) (l : List Int) (w : World) (ao : Option Addr) (c : Nat) (_b _off : Nat) (_x _y : Int)
    (_h0 : 0 ≤ regs) (_h1 : regs ≤ 100) (hn : n ≤ 9223372036854775807) (H : Hid (SlAt S w 1 rInt (.slice (ao) l.length c) l)) (hw : Ways w) (Hh : hasBad n l = false) (hl1 : (l.length : Int) ≤ 1) (hl2 : 1 ≤ (l.length : Int)) (hm : m < 0 ∨ 0 < m) :
    Calls Tryd.prog 62 #[.agg #[g, f, nm, ps, .int .i64 regs, .slice ba n bc, ah], .agg #[.int .i64 2, .bool false, .int .i64 m, .slice (ao) l.length c]] w fun e w' =>
      e = .returned (.int .i64 (5)) ∧ Below w.heap.size w w' := by
  obtain ⟨w1, w2, w3⟩ := hw
  have hb0 := cell_lt w1
  have q1 : (m == 0) = false := by rw [beq_eq_false_iff_ne]; omega
  have q2 : (decide (m ≤ 0) && decide (0 ≤ m)) = false := by rw [← beq_int]; exact q1
  have q3 : ¬ m = 0 := by omega
  go_enter Tryd.func62, Tryd.ntmps62
  go_wp2_with (go_at_call 26; ((with_reducible refine (within_any _ _ _ _).mono ?_); rintro e w' ⟨rfl, rfl⟩))
  go_quiet (fail)
  go_wp2_with (first | (go_at_call 26; ((with_reducible refine (within_any _ _ _ _).mono ?_); rintro e w' ⟨rfl, rfl⟩)) | (go_at_call 93; ((with_reducible refine (containsBad_any (S := S) _ l w.heap.size ba n bc _ ?_ ?_ hn).mono ?_); exact SlAt.mono rInt_mono (fun _ h => h) (Stays.below' (by (repeat (first | exact Below.refl _ _ | refine Below.alloc ?_ (by first | omega | (simp <;> omega)) _ | refine Below.setCell ?_ (by first | omega | (simp <;> omega)) _ | refine below_drewN ?_ _ | refine Below.drew ?_)))) H.out; simp; rintro e w' ⟨rfl, rfl⟩)))
  go_quiet (fail)
  go_wp2_with (first | (go_at_call 95; ((with_reducible refine (val_any _ _ _ _ _ _ _ _ _ _ h0 h1).mono ?_); rintro e w1 ⟨rfl, hb1⟩)))
  go_ret
  exact ⟨rfl, by (repeat (first | exact Below.refl _ _ | refine Below.alloc ?_ (by first | omega | (simp <;> omega)) _ | refine Below.setCell ?_ (by first | omega | (simp <;> omega)) _ | refine below_drewN ?_ _ | refine Below.drew ?_))⟩

set_option maxHeartbeats 1000000 in
theorem end_3b {S : Nat → Prop} (g f nm ps : Value) (regs : Int) (ba : Option Addr) (n bc : Nat) (ah : Value) (r : Bool) (m : Int) (l : List Int) (w : World) (_ao : Option Addr) (c : Nat) (b off : Nat) (x y : Int)
    (h0 : 0 ≤ regs) (h1 : regs ≤ 100) (hn : n ≤ 9223372036854775807) (H : Hid (SlAt S w 1 rInt (.slice (some ⟨b, off, none⟩) l.length c) l)) (hw : Ways w) (Hh : hasBad n l = false) (hl1 : (l.length : Int) ≤ 2) (hl2 : 2 ≤ (l.length : Int)) (c0 : w.cell? ⟨b, off, none⟩ = some (.int .i64 x)) (c1 : w.cell? ⟨b, off + 1, none⟩ = some (.int .i64 y)) (hbb : b < w.heap.size) (hz1 : x < y ∨ y < x) :
    Calls Tryd.prog 62 #[.agg #[g, f, nm, ps, .int .i64 regs, .slice ba n bc, ah], .agg #[.int .i64 3, .bool r, .int .i64 m, .slice (some ⟨b, off, none⟩) l.length c]] w fun e w' =>
      e = .returned (.int .i64 (valE regs ⟨r, m⟩)) ∧ Below w.heap.size w w' := by
  obtain ⟨w1, w2, w3⟩ := hw
  have hb0 := cell_lt w1
  have q1 : (x == y) = false := by rw [beq_eq_false_iff_ne]; omega
  have q2 : (decide (x ≤ y) && decide (y ≤ x)) = false := by rw [← beq_int]; exact q1
  clear hz1
  go_enter Tryd.func62, Tryd.ntmps62
  go_wp2_with (go_at_call 26; ((with_reducible refine (within_any _ _ _ _).mono ?_); rintro e w' ⟨rfl, rfl⟩))
  go_quiet (fail)
  go_wp2_with (first | (go_at_call 26; ((with_reducible refine (within_any _ _ _ _).mono ?_); rintro e w' ⟨rfl, rfl⟩)) | (go_at_call 93; ((with_reducible refine (containsBad_any (S := S) _ l w.heap.size ba n bc _ ?_ ?_ hn).mono ?_); exact SlAt.mono rInt_mono (fun _ h => h) (Stays.below' (by (repeat (first | exact Below.refl _ _ | refine Below.alloc ?_ (by first | omega | (simp <;> omega)) _ | refine Below.setCell ?_ (by first | omega | (simp <;> omega)) _ | refine below_drewN ?_ _ | refine Below.drew ?_)))) H.out; simp; rintro e w' ⟨rfl, rfl⟩)))
  go_quiet (fail)
  go_wp2_with (first | (go_at_call 95; ((with_reducible refine (val_any _ _ _ _ _ _ _ _ _ _ h0 h1).mono ?_); rintro e w1 ⟨rfl, hb1⟩)))
  go_ret
  exact ⟨rfl, by (repeat (first | exact Below.refl _ _ | exact (hb1).mono (by first | omega | (simp <;> omega) | (have hh := (hb1).size; (try simp at hh); omega) | (have hh := (hb1).size; (try simp at hh); (try simp); omega)) | refine Below.trans ?_ ((hb1).mono (by first | omega | (simp <;> omega) | (have hh := (hb1).size; (try simp at hh); omega) | (have hh := (hb1).size; (try simp at hh); (try simp); omega))) | refine Below.alloc ?_ (by first | omega | (simp <;> omega) | (have hh := (hb1).size; (try simp at hh); omega) | (have hh := (hb1).size; (try simp at hh); (try simp); omega)) _ | refine Below.setCell ?_ (by first | omega | (simp <;> omega) | (have hh := (hb1).size; (try simp at hh); omega) | (have hh := (hb1).size; (try simp at hh); (try simp); omega)) _ | refine below_drewN ?_ _ | refine Below.drew ?_))⟩

set_option maxHeartbeats 1000000 in
theorem end_neg (g f nm ps : Value) (regs : Int) (ba : Option Addr) (n bc : Nat) (ah : Value) (kind : Int) (r : Bool) (m : Int) (v : Value) (w : World) (hk : ¬ (1 ≤ kind ∧ kind ≤ 3)) :
    Calls Tryd.prog 62 #[.agg #[g, f, nm, ps, .int .i64 regs, .slice ba n bc, ah], .agg #[.int .i64 kind, .bool r, .int .i64 m, v]] w fun e w' =>
      e = .returned (.int .i64 4) ∧ Below w.heap.size w w' := by
  go_enter Tryd.func62, Tryd.ntmps62
  go_wp2_with (go_at_call 26; ((with_reducible refine (within_any _ _ _ _).mono ?_); rintro e w' ⟨rfl, rfl⟩))
  go_ret
  exact ⟨rfl, by (repeat (first | exact Below.refl _ _ | refine Below.alloc ?_ (by first | omega | (simp <;> omega)) _ | refine Below.setCell ?_ (by first | omega | (simp <;> omega)) _ | refine below_drewN ?_ _ | refine Below.drew ?_))⟩
set_option maxHeartbeats 1000000 in
theorem end_len (g f nm ps : Value) (regs : Int) (ba : Option Addr) (n bc : Nat) (ah : Value) (kind : Int) (r : Bool) (m : Int) (ao : Option Addr) (k c : Nat) (w : World) (hk : 1 ≤ kind ∧ kind ≤ 3)
    (hm : k ≤ 9223372036854775807) (hw : Ways w) (hl : (k : Int) < kind - 1 ∨ kind - 1 < (k : Int)) :
    Calls Tryd.prog 62 #[.agg #[g, f, nm, ps, .int .i64 regs, .slice ba n bc, ah], .agg #[.int .i64 kind, .bool r, .int .i64 m, .slice ao k c]] w fun e w' =>
      e = .returned (.int .i64 9) ∧ Below w.heap.size w w' := by
  obtain ⟨w1, w2, w3⟩ := hw
  have hb0 := cell_lt w1
  have hk' : kind = 1 ∨ kind = 2 ∨ kind = 3 := by omega
  rcases hk' with rfl | rfl | rfl
  all_goals
    go_enter Tryd.func62, Tryd.ntmps62
    go_wp2_with (go_at_call 26; ((with_reducible refine (within_any _ _ _ _).mono ?_); rintro e w' ⟨rfl, rfl⟩))
    go_quiet (fail)
    go_wp2_with fail
    go_ret
    exact ⟨rfl, by (repeat (first | exact Below.refl _ _ | refine Below.alloc ?_ (by first | omega | (simp <;> omega)) _ | refine Below.setCell ?_ (by first | omega | (simp <;> omega)) _ | refine below_drewN ?_ _ | refine Below.drew ?_))⟩
set_option maxHeartbeats 1000000 in
theorem end_bad {S : Nat → Prop} (g f nm ps : Value) (regs : Int) (ba : Option Addr) (n bc : Nat) (ah : Value) (kind : Int) (r : Bool) (m : Int) (l : List Int) (w : World) (ao : Option Addr) (c : Nat) (hk : 1 ≤ kind ∧ kind ≤ 3)
    (hn : n ≤ 9223372036854775807) (hm : l.length ≤ 9223372036854775807) (H : Hid (SlAt S w 1 rInt (.slice ao l.length c) l)) (hw : Ways w) (Hh : hasBad n l = true) (hl1 : (l.length : Int) ≤ kind - 1) (hl2 : kind - 1 ≤ (l.length : Int)) :
    Calls Tryd.prog 62 #[.agg #[g, f, nm, ps, .int .i64 regs, .slice ba n bc, ah], .agg #[.int .i64 kind, .bool r, .int .i64 m, .slice ao l.length c]] w fun e w' =>
      e = .returned (.int .i64 3) ∧ Below w.heap.size w w' := by
  obtain ⟨w1, w2, w3⟩ := hw
  have hb0 := cell_lt w1
  have hk' : kind = 1 ∨ kind = 2 ∨ kind = 3 := by omega
  rcases hk' with rfl | rfl | rfl
  all_goals
    go_enter Tryd.func62, Tryd.ntmps62
    go_wp2_with (go_at_call 26; ((with_reducible refine (within_any _ _ _ _).mono ?_); rintro e w' ⟨rfl, rfl⟩))
    go_quiet (fail)
    go_wp2_with (first | (go_at_call 26; ((with_reducible refine (within_any _ _ _ _).mono ?_); rintro e w' ⟨rfl, rfl⟩)) | (go_at_call 93; ((with_reducible refine (containsBad_any (S := S) _ l w.heap.size ba n bc _ ?_ ?_ hn).mono ?_); exact SlAt.mono rInt_mono (fun _ h => h) (Stays.below' (by (repeat (first | exact Below.refl _ _ | refine Below.alloc ?_ (by first | omega | (simp <;> omega)) _ | refine Below.setCell ?_ (by first | omega | (simp <;> omega)) _ | refine below_drewN ?_ _ | refine Below.drew ?_)))) H.out; simp; rintro e w' ⟨rfl, rfl⟩)))
    go_ret
    exact ⟨rfl, by (repeat (first | exact Below.refl _ _ | refine Below.alloc ?_ (by first | omega | (simp <;> omega)) _ | refine Below.setCell ?_ (by first | omega | (simp <;> omega)) _ | refine below_drewN ?_ _ | refine Below.drew ?_))⟩

theorem end_any {S : Nat → Prop} (g f nm ps : Value) (regs : Int) (ba : Option Addr) (n bc : Nat) (ah : Value) (kind : Int) (r : Bool) (m : Int) (v : Value) (l : List Int) (w : World)
    (h0 : 0 ≤ regs) (h1 : regs ≤ 100) (hn : n ≤ 9223372036854775807) (hw : Ways w) (h : SlAt S w 1 rInt v l) :
    Calls Tryd.prog 62 #[.agg #[g, f, nm, ps, .int .i64 regs, .slice ba n bc, ah], .agg #[.int .i64 kind, .bool r, .int .i64 m, v]] w fun e w' =>
      e = .returned (.int .i64 (endE n regs ⟨kind, ⟨r, m⟩, l⟩)) ∧ Below w.heap.size w w' := by
  by_cases hk : 1 ≤ kind ∧ kind ≤ 3
  case neg => rw [show endE n regs ⟨kind, ⟨r, m⟩, l⟩ = 4 by simp [endE, hk]]; exact end_neg g f nm ps regs ba n bc ah kind r m v w hk
  obtain ⟨ao, c, rfl, hm⟩ := h.val
  have H := hid h
  by_cases hl : (l.length : Int) = kind - 1
  case neg =>
    rw [show endE n regs ⟨kind, ⟨r, m⟩, l⟩ = 9 by simp [endE, hk, hl]]
    exact end_len g f nm ps regs ba n bc ah kind r m ao _ c w hk hm hw (by omega)
  by_cases ht : l.any (badTo n) = true
  · rw [show endE n regs ⟨kind, ⟨r, m⟩, l⟩ = 3 by simp only [endE, hk, hl, ht]; simp]
    exact end_bad g f nm ps regs ba n bc ah kind r m l w ao c hk hn hm H hw ((hasBad_iff n l).trans ht) (by omega) (by omega)
  have Hh : hasBad n l = false := (hasBad_iff n l).trans (by simpa using ht)
  have hk' : kind = 1 ∨ kind = 2 ∨ kind = 3 := by omega
  rcases hk' with rfl | rfl | rfl
  · rw [show endE n regs ⟨1, ⟨r, m⟩, l⟩ = valE regs ⟨r, m⟩ by simp only [endE, hk, hl, ht]; simp]
    exact end_1 g f nm ps regs ba n bc ah r m l w ao c 0 0 0 0 h0 h1 hn H hw Hh (by omega)
  · have hz : (r = false ∧ m = 0) ∨ r = true ∨ (r = false ∧ (m < 0 ∨ 0 < m)) := by cases r <;> simp <;> omega
    rcases hz with ⟨rfl, rfl⟩ | rfl | ⟨rfl, hm0⟩
    · rw [show endE n regs ⟨2, ⟨false, 0⟩, l⟩ = valE regs ⟨false, 0⟩ by simp only [endE, hk, hl, ht]; simp]
      exact end_2a g f nm ps regs ba n bc ah false 0 l w ao c 0 0 0 0 h0 h1 hn H hw Hh (by omega) (by omega)
    · rw [show endE n regs ⟨2, ⟨true, m⟩, l⟩ = 5 by simp only [endE, hk, hl, ht]; simp]
      exact end_2b g f nm ps regs ba n bc ah true m l w ao c 0 0 0 0 h0 h1 hn H hw Hh (by omega) (by omega)
    · rw [show endE n regs ⟨2, ⟨false, m⟩, l⟩ = 5 by simp only [endE, hk, hl, ht]; simp; intro _; omega]
      exact end_2c g f nm ps regs ba n bc ah false m l w ao c 0 0 0 0 h0 h1 hn H hw Hh (by omega) (by omega) hm0
  · obtain ⟨b, off, cs, rfl, hb, ⟨rfl, _⟩, _, hcs0⟩ := h.get (k := 0) (by omega)
    obtain ⟨b', off', cs', hab, hb', ⟨rfl, _⟩, _, hcs1⟩ := h.get (k := 1) (by omega)
    cases hab
    have c0 : w.cell? ⟨b, off, none⟩ = some (.int .i64 l[0]) := by simpa using hcs0 0 _ rfl
    have c1 : w.cell? ⟨b, off + 1, none⟩ = some (.int .i64 l[1]) := by simpa using hcs1 0 _ rfl
    have hg0 : l.getD 0 0 = l[0] := by rw [List.getD_eq_getElem?_getD, List.getElem?_eq_getElem (by omega)]; rfl
    have hg1 : l.getD 1 0 = l[1] := by rw [List.getD_eq_getElem?_getD, List.getElem?_eq_getElem (by omega)]; rfl
    by_cases hz : l[0] = l[1]
    · rw [show endE n regs ⟨3, ⟨r, m⟩, l⟩ = 5 by simp only [endE, hk, hl, ht, hg0, hg1, hz]; simp]
      exact end_3a g f nm ps regs ba n bc ah r m l w none c b off _ _ h0 h1 hn H hw Hh (by omega) (by omega) c0 c1 (cell_lt c0) (by omega) (by omega)
    · rw [show endE n regs ⟨3, ⟨r, m⟩, l⟩ = valE regs ⟨r, m⟩ by simp only [endE, hk, hl, ht, hg0, hg1, hz]; simp]
      exact end_3b g f nm ps regs ba n bc ah r m l w none c b off _ _ h0 h1 hn H hw Hh (by omega) (by omega) c0 c1 (cell_lt c0) (by omega)

end Go.Proofs.YtnkogppgacappaaDoor
