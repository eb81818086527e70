/- The contract of the checker's ins. -/
import Derived.Test.YtaehkcnankijfaaDoorChk6
import Derived.Test.YtaehkcnankijfaaDoorChk8
import Derived.Deep.Light
namespace Go.Proofs.YtaehkcnankijfaaDoor
open Go.RowKit

theorem ins_class {op : Int} (h : 1 ≤ op ∧ op ≤ 22) :
    (shpD op = true ∧ shpA op = true ∧ shpB op = false ∧ (decide (op ≤ 20) && decide (20 ≤ op)) = false) ∨
    (shpD op = true ∧ shpA op = true ∧ shpB op = true ∧ (decide (op ≤ 20) && decide (20 ≤ op)) = false) ∨
    (shpD op = false ∧ shpA op = true ∧ shpB op = true ∧ (decide (op ≤ 20) && decide (20 ≤ op)) = false) ∨
    (shpD op = true ∧ shpA op = false ∧ shpB op = false ∧ (decide (op ≤ 20) && decide (20 ≤ op)) = true) ∨
    (shpD op = true ∧ shpA op = false ∧ shpB op = false ∧ (decide (op ≤ 20) && decide (20 ≤ op)) = false) ∨
    (shpD op = false ∧ shpA op = true ∧ shpB op = false ∧ (decide (op ≤ 20) && decide (20 ≤ op)) = false) := by
  simp only [shpD, shpA, shpB, Bool.or_eq_true, Bool.or_eq_false_iff, Bool.and_eq_true, Bool.and_eq_false_iff, decide_eq_true_eq, decide_eq_false_iff_not]
  omega

set_option maxHeartbeats 4000000 in
theorem ins_any {S S' : Nat → Prop} (ga : Option Addr) (gn gc : Nat) (fs : List DFunc) (fa : Option Addr) (fc : Nat) (s : ByteArray) (p : Int) (regs : Int) (ba : Option Addr) (bn bc : Nat) (aa : Option Addr) (an ac : Nat) (x : DIns) (ra : Option Addr) (rc : Nat) (w : World) (h0 : 0 ≤ regs) (h1 : regs ≤ 100)
    (hfs : SlAt S w 4 rFunc (.slice fa fs.length fc) fs) (has : SlAt S' w 2 rVal (.slice ra x.args.length rc) x.args) (hfl : fs.length ≤ 1048576) (_ho : I64 x.op) (_hd : I64 x.dst) (_ha : I64 x.a.n) (_hb : I64 x.b.n) (_hf : I64 x.fn) :
    Calls Tryd.prog 78 #[.agg #[.slice ga gn gc, .slice fa fs.length fc, .string s, .int .i64 p, .int .i64 regs, .slice ba bn bc, .slice aa an ac], .agg #[.int .i64 x.op, .int .i64 x.dst, .bool x.a.reg, .int .i64 x.a.n, .bool x.b.reg, .int .i64 x.b.n, .int .i64 x.fn, .slice ra x.args.length rc]] w fun e w' =>
      e = .returned (.int .i64 (insE fs regs x)) ∧ Below w.heap.size w w' := by
  have Hfs := hid hfs
  have Has := hid has
  obtain ⟨_, _, ha1, ha2⟩ := has.val
  cases ha1
  clear hfs has
  by_cases hop : 1 ≤ x.op ∧ x.op ≤ 22
  case neg =>
    have Hr := hid (show insE fs regs x = 4 by simp only [insE, hop]; simp)
    go_enter Tryd.func78, Tryd.ntmps78
    go_wp2_with (go_at_call 40; ((with_reducible refine (within_any _ _ _ _).mono ?_); rintro e w' ⟨rfl, rfl⟩))
    go_ret
    exact ⟨ret_int Hr.out.symm, by (repeat (first | exact Below.refl _ _ | refine Below.alloc ?_ (by first | omega | (simp <;> omega)) _ | refine Below.setCell ?_ (by first | omega | (simp <;> omega)) _ | refine below_drewN ?_ _ | refine Below.drew ?_))⟩
  generalize hbad : formBad x = bad
  have Hbad := hid hbad
  clear hbad
  go_enter Tryd.func78, Tryd.ntmps78
  go_upto_region 5 with (first | (go_at_call 40; ((with_reducible refine (within_any _ _ _ _).mono ?_); rintro e w' ⟨rfl, rfl⟩)) | (go_at_call 107; ((with_reducible refine (shapes_any _ _).mono ?_); rintro e w1 ⟨rfl, hb1⟩; obtain ⟨hc1, hf1⟩ := below_cells hb1; have hz1 : w.heap.size + 1 < w1.heap.size := (by have := hb1.size; simp at this; omega); have hz0 : w.heap.size < w1.heap.size := (by omega))))
  obtain ⟨W, hW⟩ : ∃ W, W = (w1.alloc (.cells #[.bool (shpD x.op), .bool (shpA x.op), .bool (shpB x.op)] 169)).alloc (.cells #[.bool (decide (x.op ≤ 20) && decide (20 ≤ x.op))] 4) := ⟨_, rfl⟩
  rw [← hW]
  have s0 : W.cell? ⟨w1.heap.size, 0, none⟩ = some (.bool (shpD x.op)) := by rw [hW]; simp
  have s1 : W.cell? ⟨w1.heap.size, 1, none⟩ = some (.bool (shpA x.op)) := by rw [hW]; simp
  have s2 : W.cell? ⟨w1.heap.size, 2, none⟩ = some (.bool (shpB x.op)) := by rw [hW]; simp
  have s3 : W.cell? ⟨w1.heap.size + 1, 0, none⟩ = some (.bool (decide (x.op ≤ 20) && decide (20 ≤ x.op))) := by rw [hW]; simp
  have x0 : W.cell? ⟨w.heap.size + 1, 0, none⟩ = some (.int .i64 x.op) := by rw [hW]; simp [go_sem, hc1, hz1, hz0]
  have x1 : W.cell? ⟨w.heap.size + 1, 1, none⟩ = some (.int .i64 x.dst) := by rw [hW]; simp [go_sem, hc1, hz1, hz0]
  have x2 : W.cell? ⟨w.heap.size + 1, 2, none⟩ = some (.bool x.a.reg) := by rw [hW]; simp [go_sem, hc1, hz1, hz0]
  have x3 : W.cell? ⟨w.heap.size + 1, 3, none⟩ = some (.int .i64 x.a.n) := by rw [hW]; simp [go_sem, hc1, hz1, hz0]
  have x4 : W.cell? ⟨w.heap.size + 1, 4, none⟩ = some (.bool x.b.reg) := by rw [hW]; simp [go_sem, hc1, hz1, hz0]
  have x5 : W.cell? ⟨w.heap.size + 1, 5, none⟩ = some (.int .i64 x.b.n) := by rw [hW]; simp [go_sem, hc1, hz1, hz0]
  have x6 : W.cell? ⟨w.heap.size + 1, 6, none⟩ = some (.int .i64 x.fn) := by rw [hW]; simp [go_sem, hc1, hz1, hz0]
  have x7 : W.cell? ⟨w.heap.size + 1, 7, none⟩ = some (.slice ra x.args.length rc) := by rw [hW]; simp [go_sem, hc1, hz1, hz0]
  have hbW : Below (w.heap.size + 2) ((w.alloc (.cells #[.slice ga gn gc, .slice fa fs.length fc, .string s, .int .i64 p, .int .i64 regs, .slice ba bn bc, .slice aa an ac] 88)).alloc (.cells #[.int .i64 x.op, .int .i64 x.dst, .bool x.a.reg, .int .i64 x.a.n, .bool x.b.reg, .int .i64 x.b.n, .int .i64 x.fn, .slice ra x.args.length rc] 70)) W := by
    rw [hW]; (repeat (first | exact Below.refl _ _ | exact (hb1).mono (by first | omega | (simp <;> omega) | (have hh := (hb1).size; (try simp at hh); omega) | (have hh := (hb1).size; (try simp at hh); (try simp); omega)) | refine Below.trans ?_ ((hb1).mono (by first | omega | (simp <;> omega) | (have hh := (hb1).size; (try simp at hh); omega) | (have hh := (hb1).size; (try simp at hh); (try simp); omega))) | refine Below.alloc ?_ (by first | omega | (simp <;> omega) | (have hh := (hb1).size; (try simp at hh); omega) | (have hh := (hb1).size; (try simp at hh); (try simp); omega)) _ | refine Below.setCell ?_ (by first | omega | (simp <;> omega) | (have hh := (hb1).size; (try simp at hh); omega) | (have hh := (hb1).size; (try simp at hh); (try simp); omega)) _ | refine below_drewN ?_ _ | refine Below.drew ?_))
  have HbW := hid hbW
  have HC : Hid (CellsAt W w.heap.size 0 [.slice ga gn gc, .slice fa fs.length fc, .string s, .int .i64 p, .int .i64 regs, .slice ba bn bc, .slice aa an ac]) := by
    rw [hW]
    exact .cons (by simp [go_sem, hc1, hz0]) (.cons (by simp [go_sem, hc1, hz0]) (.cons (by simp [go_sem, hc1, hz0]) (.cons (by simp [go_sem, hc1, hz0]) (.cons (by simp [go_sem, hc1, hz0]) (.cons (by simp [go_sem, hc1, hz0]) (.cons (by simp [go_sem, hc1, hz0]) (.nil _ _ _)))))))
  have z1 : w.heap.size + 1 < W.heap.size := by rw [hW]; simp; omega
  have z2 : w1.heap.size + 1 < W.heap.size := by rw [hW]; simp
  clear hbW hW hc1 hf1 hb1 hz1 hz0
  generalize w1.heap.size = sb at *
  have hb := Hbad.out
  unfold formBad at hb
  have hbe : bad = ((!shpD x.op && (decide (x.dst < -1) || decide (-1 < x.dst))) || (!shpA x.op && (x.a.reg || (decide (x.a.n < 0) || decide (0 < x.a.n)))) || (!shpB x.op && (x.b.reg || (decide (x.b.n < 0) || decide (0 < x.b.n)))) || (!(decide (x.op ≤ 20) && decide (20 ≤ x.op)) && ((decide (x.fn < 0) || decide (0 < x.fn)) || decide (0 < x.args.length)))) := by
    have v0 : ∀ v : DVal, decide (v ≠ ⟨false, 0⟩) = (v.reg || (decide (v.n < 0) || decide (0 < v.n))) := fun ⟨r, n⟩ => by
      rw [Bool.eq_iff_iff]; cases r <;> simp <;> omega
    have i0 : ∀ a b : Int, decide (a ≠ b) = (decide (a < b) || decide (b < a)) := fun a b => by rw [Bool.eq_iff_iff]; simp; omega
    have i1 : ∀ a b : Int, (decide (a < b) || decide (b < a)) = !(decide (a ≤ b) && decide (b ≤ a)) := fun a b => by rw [Bool.eq_iff_iff]; simp; omega
    rw [← hb, v0, v0, i0, i0, i0, i1 x.op 20]
  have hcl := ins_class hop
  clear hb
  obtain ⟨D, hD⟩ : ∃ D, shpD x.op = D := ⟨_, rfl⟩
  obtain ⟨A, hA⟩ : ∃ A, shpA x.op = A := ⟨_, rfl⟩
  obtain ⟨B, hB⟩ : ∃ B, shpB x.op = B := ⟨_, rfl⟩
  obtain ⟨kz, hkz⟩ : ∃ kz, (decide (x.op ≤ 20) && decide (20 ≤ x.op)) = kz := ⟨_, rfl⟩
  obtain ⟨dz, hdz⟩ : ∃ dz, (decide (x.dst < -1) || decide (-1 < x.dst)) = dz := ⟨_, rfl⟩
  obtain ⟨az, haz⟩ : ∃ az, (x.a.reg || (decide (x.a.n < 0) || decide (0 < x.a.n))) = az := ⟨_, rfl⟩
  obtain ⟨bz, hbz⟩ : ∃ bz, (x.b.reg || (decide (x.b.n < 0) || decide (0 < x.b.n))) = bz := ⟨_, rfl⟩
  obtain ⟨fz, hfz⟩ : ∃ fz, (decide (x.fn < 0) || decide (0 < x.fn)) = fz := ⟨_, rfl⟩
  obtain ⟨lz, hlz⟩ : ∃ lz, decide (0 < x.args.length) = lz := ⟨_, rfl⟩
  rw [hD, hA, hB, hkz, hdz, haz, hbz, hfz, hlz] at hbe
  rw [hD, hA, hB, hkz] at hcl
  rw [hD] at s0
  rw [hA] at s1
  rw [hB] at s2
  rw [hkz] at s3
  have Hbe := hid hbe
  have HD := hid hD
  have Hkz := hid hkz
  clear hbe hD hA hB hkz
  go_cut [62] from 8 to 62 (fun v wc => v = .bool bad ∧ W = wc)
  case first =>
    clear Hfs Has HbW ha2 z1 z2 HD Hkz Hbad HC
    rcases hcl with ⟨rfl, rfl, rfl, rfl⟩ | ⟨rfl, rfl, rfl, rfl⟩ | ⟨rfl, rfl, rfl, rfl⟩ | ⟨rfl, rfl, rfl, rfl⟩ | ⟨rfl, rfl, rfl, rfl⟩ | ⟨rfl, rfl, rfl, rfl⟩
    all_goals
      go_wp2_with fail
    all_goals
      go_meet
      refine ⟨congrArg Value.bool ?_, rfl⟩
      rw [Hbe.out]
      simp [*]
  case rest =>
    obtain ⟨rfl, rfl⟩ := hcut
    clear hdz haz hbz hfz hlz hcl Hbe
    have hW0 : Below w.heap.size w W := (by (repeat (first | exact Below.refl _ _ | refine Below.alloc ?_ (by first | omega | (simp <;> omega)) _ | refine Below.setCell ?_ (by first | omega | (simp <;> omega)) _ | refine below_drewN ?_ _ | refine Below.drew ?_)) : Below w.heap.size w ((w.alloc (.cells #[.slice ga gn gc, .slice fa fs.length fc, .string s, .int .i64 p, .int .i64 regs, .slice ba bn bc, .slice aa an ac] 88)).alloc (.cells #[.int .i64 x.op, .int .i64 x.dst, .bool x.a.reg, .int .i64 x.a.n, .bool x.b.reg, .int .i64 x.b.n, .int .i64 x.fn, .slice ra x.args.length rc] 70))).trans (HbW.out.mono (by omega))
    have HW0 := hid hW0
    cases bad
    case true =>
      have Hr := hid (show insE fs regs x = 5 by simp only [insE, hop, Hbad.out]; simp)
      clear hW0
      go_wp2_with fail
      go_ret
      exact ⟨ret_int Hr.out.symm, by have h := HW0.out; (repeat (first | exact Below.refl _ _ | exact (h).mono (by first | omega | (simp <;> omega) | (have hh := (h).size; (try simp at hh); omega) | (have hh := (h).size; (try simp at hh); (try simp); omega)) | refine Below.trans ?_ ((h).mono (by first | omega | (simp <;> omega) | (have hh := (h).size; (try simp at hh); omega) | (have hh := (h).size; (try simp at hh); (try simp); omega))) | refine Below.alloc ?_ (by first | omega | (simp <;> omega) | (have hh := (h).size; (try simp at hh); omega) | (have hh := (h).size; (try simp at hh); (try simp); omega)) _ | refine Below.setCell ?_ (by first | omega | (simp <;> omega) | (have hh := (h).size; (try simp at hh); omega) | (have hh := (h).size; (try simp at hh); (try simp); omega)) _ | refine below_drewN ?_ _ | refine Below.drew ?_))⟩
    have hkz' : kz = decide (x.op = 20) := by rw [← Hkz.out, Bool.eq_iff_iff]; simp; omega
    have HC1 : Hid (∀ w', Below W.heap.size W w' → Calls Tryd.prog 124 #[.pointer (some ⟨w.heap.size, 0, none⟩), .pointer (some ⟨w.heap.size + 1, 0, none⟩)] w' fun e w'' => e = .returned (.int .i64 (valE regs x.a)) ∧ Below w'.heap.size w' w'') :=
      fun w' h => ins1_any _ _ _ _ _ _ regs _ _ _ _ _ _ x.a w' h0 h1 _ _ _ _ _ _ _ _ rfl rfl rfl rfl (HC.out.later h) (cell_later' x2 h) (cell_later' x3 h)
    have HC2 : Hid (∀ w', Below W.heap.size W w' → Calls Tryd.prog 125 #[.pointer (some ⟨w.heap.size, 0, none⟩), .pointer (some ⟨w.heap.size + 1, 0, none⟩)] w' fun e w'' => e = .returned (.int .i64 (valE regs x.b)) ∧ Below w'.heap.size w' w'') :=
      fun w' h => ins2_any _ _ _ _ _ _ regs _ _ _ _ _ _ x.b w' h0 h1 _ _ _ _ _ _ _ _ rfl rfl rfl rfl (HC.out.later h) (cell_later' x4 h) (cell_later' x5 h)
    have HC3 : Hid (∀ w', Below W.heap.size W w' → Calls Tryd.prog 126 #[.pointer (some ⟨sb + 1, 0, none⟩), .pointer (some ⟨w.heap.size + 1, 0, none⟩), .pointer (some ⟨w.heap.size, 0, none⟩)] w' fun e w'' => e = .returned (.int .i64 (callE fs regs x)) ∧ Below w'.heap.size w' w'') :=
      fun w' h => ins3_any _ _ _ _ _ _ fs regs _ _ _ _ _ _ x w' h0 h1 _ _ _ _ _ _ _ _ _ rfl rfl rfl (HC.out.later h) (by rw [← hkz']; exact cell_later' s3 h) (cell_later' x6 h) (cell_later' x7 h) ((Hfs.out.later rFunc_mono HW0.out).later rFunc_mono h) ((Has.out.later rVal_mono HW0.out).later rVal_mono h) hfl
    obtain ⟨y0, y1, y2, y3, y4, y5, y6⟩ := HC.out.get7
    simp only [Nat.zero_add] at y1 y2 y3 y4 y5 y6
    have z0 : w.heap.size < W.heap.size := by omega
    clear hW0 hkz'
    have hfin : ∀ d : Bool, d = (D && !(kz && (decide (x.dst ≤ -1) && decide (-1 ≤ x.dst)))) → ((shpD x.op = true ∧ ¬ (x.op = 20 ∧ x.dst = -1)) ↔ d = true) := by
      intro d hd
      rw [hd, HD.out, ← Hkz.out]
      simp
      omega
    have Hfin := hid hfin
    clear hfin
    obtain ⟨ez, hez⟩ : ∃ ez, (decide (x.dst ≤ -1) && decide (-1 ≤ x.dst)) = ez := ⟨_, rfl⟩
    rw [hez] at Hfin
    have hdz : D = true ∨ D = false := by cases D <;> simp
    have hkz : kz = true ∨ kz = false := by cases kz <;> simp
    by_cases hgo : (D && !(kz && ez)) = true
    · have hins : insE fs regs x = if dstE regs x.dst ≠ 0 then 3 else firstE (valE regs x.a) (valE regs x.b) (callE fs regs x) := by
        simp only [insE, hop, Hbad.out, (Hfin.out _ rfl).2 hgo]; simp
      have hgo' : (D = true ∧ kz = false) ∨ (D = true ∧ kz = true ∧ ez = false) := by revert hgo; cases D <;> cases kz <;> cases ez <;> simp
      clear hgo hdz hkz Hfin HD Hkz
      by_cases hd : dstE regs x.dst = 0
      · have Hins := hid (show insE fs regs x = firstE (valE regs x.a) (valE regs x.b) (callE fs regs x) by rw [hins, hd]; simp)
        clear hins
        rcases hgo' with ⟨rfl, rfl⟩ | ⟨rfl, rfl, rfl⟩
        all_goals
          go_wp2_with (first | (go_at_call 122; ((with_reducible refine (dst_any _ _ _ _ _ _ _ _ _ h0 h1).mono ?_); rintro e w2 ⟨rfl, hb2⟩)) | (go_at_call 123; ((with_reducible refine (first_from W _ _ _ _ (valE regs x.a) (valE regs x.b) (callE fs regs x) _ HC1 HC2 HC3 ?_ ?_ ?_ ?_).mono ?_); (repeat (first | exact Below.refl _ _ | exact (hb2).mono (by first | omega | (simp <;> omega) | (have hh := (hb2).size; (try simp at hh); omega) | (have hh := (hb2).size; (try simp at hh); (try simp); omega)) | refine Below.trans ?_ ((hb2).mono (by first | omega | (simp <;> omega) | (have hh := (hb2).size; (try simp at hh); omega) | (have hh := (hb2).size; (try simp at hh); (try simp); omega))) | refine Below.alloc ?_ (by first | omega | (simp <;> omega) | (have hh := (hb2).size; (try simp at hh); omega) | (have hh := (hb2).size; (try simp at hh); (try simp); omega)) _ | refine Below.setCell ?_ (by first | omega | (simp <;> omega) | (have hh := (hb2).size; (try simp at hh); omega) | (have hh := (hb2).size; (try simp at hh); (try simp); omega)) _ | refine below_drewN ?_ _ | refine Below.drew ?_)); simp; simp; simp; rintro e w3 ⟨rfl, hb3⟩)))
          go_ret
          exact ⟨ret_int Hins.out.symm, by have h := HW0.out; (repeat (first | exact Below.refl _ _ | exact (hb3).mono (by first | omega | (simp <;> omega) | (have hh := (hb3).size; (try simp at hh); omega) | (have hh := (hb3).size; (try simp at hh); (try simp); omega) | (have hh := (hb2).size; (try simp at hh); omega) | (have hh := (hb2).size; (try simp at hh); (try simp); omega) | (have hh := (h).size; (try simp at hh); omega) | (have hh := (h).size; (try simp at hh); (try simp); omega)) | refine Below.trans ?_ ((hb3).mono (by first | omega | (simp <;> omega) | (have hh := (hb3).size; (try simp at hh); omega) | (have hh := (hb3).size; (try simp at hh); (try simp); omega) | (have hh := (hb2).size; (try simp at hh); omega) | (have hh := (hb2).size; (try simp at hh); (try simp); omega) | (have hh := (h).size; (try simp at hh); omega) | (have hh := (h).size; (try simp at hh); (try simp); omega))) | exact (hb2).mono (by first | omega | (simp <;> omega) | (have hh := (hb3).size; (try simp at hh); omega) | (have hh := (hb3).size; (try simp at hh); (try simp); omega) | (have hh := (hb2).size; (try simp at hh); omega) | (have hh := (hb2).size; (try simp at hh); (try simp); omega) | (have hh := (h).size; (try simp at hh); omega) | (have hh := (h).size; (try simp at hh); (try simp); omega)) | refine Below.trans ?_ ((hb2).mono (by first | omega | (simp <;> omega) | (have hh := (hb3).size; (try simp at hh); omega) | (have hh := (hb3).size; (try simp at hh); (try simp); omega) | (have hh := (hb2).size; (try simp at hh); omega) | (have hh := (hb2).size; (try simp at hh); (try simp); omega) | (have hh := (h).size; (try simp at hh); omega) | (have hh := (h).size; (try simp at hh); (try simp); omega))) | exact (h).mono (by first | omega | (simp <;> omega) | (have hh := (hb3).size; (try simp at hh); omega) | (have hh := (hb3).size; (try simp at hh); (try simp); omega) | (have hh := (hb2).size; (try simp at hh); omega) | (have hh := (hb2).size; (try simp at hh); (try simp); omega) | (have hh := (h).size; (try simp at hh); omega) | (have hh := (h).size; (try simp at hh); (try simp); omega)) | refine Below.trans ?_ ((h).mono (by first | omega | (simp <;> omega) | (have hh := (hb3).size; (try simp at hh); omega) | (have hh := (hb3).size; (try simp at hh); (try simp); omega) | (have hh := (hb2).size; (try simp at hh); omega) | (have hh := (hb2).size; (try simp at hh); (try simp); omega) | (have hh := (h).size; (try simp at hh); omega) | (have hh := (h).size; (try simp at hh); (try simp); omega))) | refine Below.alloc ?_ (by first | omega | (simp <;> omega) | (have hh := (hb3).size; (try simp at hh); omega) | (have hh := (hb3).size; (try simp at hh); (try simp); omega) | (have hh := (hb2).size; (try simp at hh); omega) | (have hh := (hb2).size; (try simp at hh); (try simp); omega) | (have hh := (h).size; (try simp at hh); omega) | (have hh := (h).size; (try simp at hh); (try simp); omega)) _ | refine Below.setCell ?_ (by first | omega | (simp <;> omega) | (have hh := (hb3).size; (try simp at hh); omega) | (have hh := (hb3).size; (try simp at hh); (try simp); omega) | (have hh := (hb2).size; (try simp at hh); omega) | (have hh := (hb2).size; (try simp at hh); (try simp); omega) | (have hh := (h).size; (try simp at hh); omega) | (have hh := (h).size; (try simp at hh); (try simp); omega)) _ | refine below_drewN ?_ _ | refine Below.drew ?_))⟩
      · have hd3 : dstE regs x.dst = 3 := (dstE_or _ _).resolve_left hd
        have Hins := hid (show insE fs regs x = 3 by rw [hins, hd3]; simp)
        clear hins hd
        rcases hgo' with ⟨rfl, rfl⟩ | ⟨rfl, rfl, rfl⟩
        all_goals
          go_wp2_with (go_at_call 122; ((with_reducible refine (dst_any _ _ _ _ _ _ _ _ _ h0 h1).mono ?_); rintro e w2 ⟨rfl, hb2⟩))
          go_ret
          exact ⟨ret_int Hins.out.symm, by have h := HW0.out; (repeat (first | exact Below.refl _ _ | exact (hb2).mono (by first | omega | (simp <;> omega) | (have hh := (hb2).size; (try simp at hh); omega) | (have hh := (hb2).size; (try simp at hh); (try simp); omega) | (have hh := (h).size; (try simp at hh); omega) | (have hh := (h).size; (try simp at hh); (try simp); omega)) | refine Below.trans ?_ ((hb2).mono (by first | omega | (simp <;> omega) | (have hh := (hb2).size; (try simp at hh); omega) | (have hh := (hb2).size; (try simp at hh); (try simp); omega) | (have hh := (h).size; (try simp at hh); omega) | (have hh := (h).size; (try simp at hh); (try simp); omega))) | exact (h).mono (by first | omega | (simp <;> omega) | (have hh := (hb2).size; (try simp at hh); omega) | (have hh := (hb2).size; (try simp at hh); (try simp); omega) | (have hh := (h).size; (try simp at hh); omega) | (have hh := (h).size; (try simp at hh); (try simp); omega)) | refine Below.trans ?_ ((h).mono (by first | omega | (simp <;> omega) | (have hh := (hb2).size; (try simp at hh); omega) | (have hh := (hb2).size; (try simp at hh); (try simp); omega) | (have hh := (h).size; (try simp at hh); omega) | (have hh := (h).size; (try simp at hh); (try simp); omega))) | refine Below.alloc ?_ (by first | omega | (simp <;> omega) | (have hh := (hb2).size; (try simp at hh); omega) | (have hh := (hb2).size; (try simp at hh); (try simp); omega) | (have hh := (h).size; (try simp at hh); omega) | (have hh := (h).size; (try simp at hh); (try simp); omega)) _ | refine Below.setCell ?_ (by first | omega | (simp <;> omega) | (have hh := (hb2).size; (try simp at hh); omega) | (have hh := (hb2).size; (try simp at hh); (try simp); omega) | (have hh := (h).size; (try simp at hh); omega) | (have hh := (h).size; (try simp at hh); (try simp); omega)) _ | refine below_drewN ?_ _ | refine Below.drew ?_))⟩
    · have hins : insE fs regs x = firstE (valE regs x.a) (valE regs x.b) (callE fs regs x) := by
        have : ¬ (shpD x.op = true ∧ ¬ (x.op = 20 ∧ x.dst = -1)) := fun h => hgo ((Hfin.out _ rfl).1 h)
        simp only [insE, hop, Hbad.out, this]; simp
      have Hins := hid hins
      clear hins
      have hgo' : D = false ∨ (D = true ∧ kz = true ∧ ez = true) := by revert hgo; cases D <;> cases kz <;> cases ez <;> simp
      clear hgo hdz hkz Hfin HD Hkz
      rcases hgo' with rfl | ⟨rfl, rfl, rfl⟩
      all_goals
        go_wp2_with (go_at_call 123; ((with_reducible refine (first_from W _ _ _ _ (valE regs x.a) (valE regs x.b) (callE fs regs x) _ HC1 HC2 HC3 ?_ ?_ ?_ ?_).mono ?_); (repeat (first | exact Below.refl _ _ | refine Below.alloc ?_ (by first | omega | (simp <;> omega)) _ | refine Below.setCell ?_ (by first | omega | (simp <;> omega)) _ | refine below_drewN ?_ _ | refine Below.drew ?_)); simp; simp; simp; rintro e w3 ⟨rfl, hb3⟩))
        go_ret
        exact ⟨ret_int Hins.out.symm, by have h := HW0.out; (repeat (first | exact Below.refl _ _ | exact (hb3).mono (by first | omega | (simp <;> omega) | (have hh := (hb3).size; (try simp at hh); omega) | (have hh := (hb3).size; (try simp at hh); (try simp); omega) | (have hh := (h).size; (try simp at hh); omega) | (have hh := (h).size; (try simp at hh); (try simp); omega)) | refine Below.trans ?_ ((hb3).mono (by first | omega | (simp <;> omega) | (have hh := (hb3).size; (try simp at hh); omega) | (have hh := (hb3).size; (try simp at hh); (try simp); omega) | (have hh := (h).size; (try simp at hh); omega) | (have hh := (h).size; (try simp at hh); (try simp); omega))) | exact (h).mono (by first | omega | (simp <;> omega) | (have hh := (hb3).size; (try simp at hh); omega) | (have hh := (hb3).size; (try simp at hh); (try simp); omega) | (have hh := (h).size; (try simp at hh); omega) | (have hh := (h).size; (try simp at hh); (try simp); omega)) | refine Below.trans ?_ ((h).mono (by first | omega | (simp <;> omega) | (have hh := (hb3).size; (try simp at hh); omega) | (have hh := (hb3).size; (try simp at hh); (try simp); omega) | (have hh := (h).size; (try simp at hh); omega) | (have hh := (h).size; (try simp at hh); (try simp); omega))) | refine Below.alloc ?_ (by first | omega | (simp <;> omega) | (have hh := (hb3).size; (try simp at hh); omega) | (have hh := (hb3).size; (try simp at hh); (try simp); omega) | (have hh := (h).size; (try simp at hh); omega) | (have hh := (h).size; (try simp at hh); (try simp); omega)) _ | refine Below.setCell ?_ (by first | omega | (simp <;> omega) | (have hh := (hb3).size; (try simp at hh); omega) | (have hh := (hb3).size; (try simp at hh); (try simp); omega) | (have hh := (h).size; (try simp at hh); omega) | (have hh := (h).size; (try simp at hh); (try simp); omega)) _ | refine below_drewN ?_ _ | refine Below.drew ?_))⟩

end Go.Proofs.YtaehkcnankijfaaDoor
