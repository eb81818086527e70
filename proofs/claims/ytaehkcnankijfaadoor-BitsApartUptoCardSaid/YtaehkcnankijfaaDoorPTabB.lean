/- bits.makes: sums, differences, products; shifts. bits.makes: shifts. bits.makes, joined. bits.table's two functions: what is known of a value; a register is put. bits.table's second function: a register is put. -/
import Derived.Test.YtaehkcnankijfaaDoorPMakes
import Derived.StillTailTactics
import Derived.Test.YtaehkcnankijfaaDoorPBitsR0
import Derived.Test.YtaehkcnankijfaaDoorPWrites
namespace Go.Proofs.YtaehkcnankijfaaDoor
open Go.RowKit

theorem sl_two (a b : Kn) (W : World) (T : TypeId) {n : Nat} (hn : n = W.heap.size) : SlAt (fun _ => True) (W.alloc (.cells #[.int .i64 (bi a.off), .int .i64 (bi a.on), .int .i64 (bi b.off), .int .i64 (bi b.on)] T)) 2 rKn (.slice (some ⟨n, 0, none⟩) 2 2) [a, b] := by
  subst hn
  refine ⟨_, 2, rfl, Nat.le_refl _, by omega, fun _ => ⟨_, _, rfl, trivial, fun i x hi => ⟨_, rfl, rfl, ?_⟩⟩⟩
  match i, hi with
  | 0, hi => cases hi; intro j v hj; match j, hj with | 0, hj => cases hj; simp | 1, hj => cases hj; simp
  | 1, hi => cases hi; intro j v hj; match j, hj with | 0, hj => cases hj; simp | 1, hj => cases hj; simp
theorem sl_one (a : Kn) (W : World) (T : TypeId) {n : Nat} (hn : n = W.heap.size) : SlAt (fun _ => True) (W.alloc (.cells #[.int .i64 (bi a.off), .int .i64 (bi a.on)] T)) 2 rKn (.slice (some ⟨n, 0, none⟩) 1 1) [a] := by
  subst hn
  refine ⟨_, 1, rfl, Nat.le_refl _, by omega, fun _ => ⟨_, _, rfl, trivial, fun i x hi => ⟨_, rfl, rfl, ?_⟩⟩⟩
  match i, hi with
  | 0, hi => cases hi; intro j v hj; match j, hj with | 0, hj => cases hj; simp | 1, hj => cases hj; simp

theorem low_agg {S : Nat → Prop} (x : BitVec 64) (la : Option Addr) (n lc : Nat) (l : List Kn) (w : World) (hB : Bruijn w) (hl : SlAt S w 2 rKn (.slice la n lc) l) (hn : l.length = n) (hn2 : n ≤ 2) :
    Calls Tryd.prog 133 #[.int .i64 (bi x), .slice la n lc] w fun e w' => ∃ k, k = lowF x (manyF l) ∧ e = .returned (.agg #[.int .i64 (bi k.off), .int .i64 (bi k.on)]) ∧ Below w.heap.size w w' :=
  (low_any x la n lc l w hB hl hn hn2).mono fun _ _ h => ⟨_, rfl, h.1, h.2⟩
theorem many_two (a b : Kn) : manyF [a, b] = min (knownTo a) (knownTo b) := by
  have h := knownTo_le a
  show min (min 64 (knownTo a)) (knownTo b) = _
  omega
theorem many_one (a : Kn) : manyF [a] = knownTo a := by
  have h := knownTo_le a
  show min 64 (knownTo a) = _
  omega
theorem make_2 (a b : Kn) : makeIn 2 a b = lowF (a.on + b.on) (manyF [a, b]) := by rw [many_two]; unfold makeIn; simp
theorem make_3 (a b : Kn) : makeIn 3 a b = lowF (a.on - b.on) (manyF [a, b]) := by rw [many_two]; unfold makeIn; simp
theorem make_4 (a b : Kn) : makeIn 4 a b = lowF (a.on * b.on) (manyF [a, b]) := by rw [many_two]; unfold makeIn; simp
theorem make_16 (a b : Kn) : makeIn 16 a b = lowF (-a.on) (manyF [a]) := by rw [many_one]; unfold makeIn; simp

/-- What low made is stored, and the function is left. -/
theorem makes_end {tmps : Array Value} {n : Nat} (ht : tmps.getD 6 undef = .pointer (some ⟨n, 0, none⟩)) {V w : World} {c0 c1 : Value} (h0 : V.cell? ⟨n, 0, none⟩ = some c0) (h1 : V.cell? ⟨n, 1, none⟩ = some c1) (hn : w.heap.size ≤ n) (hb : Below w.heap.size w V) {k k2 : Kn} (hk : k = k2) :
    bodyPost Tryd.prog Tryd.f92 (fun e w' => e = .returned (knV k2) ∧ Below w.heap.size w w') .ret { tmps := tmps, defers := [] } ((V.setCell ⟨n, 0, none⟩ (.int .i64 (bi k.off))).setCell ⟨n, 1, none⟩ (.int .i64 (bi k.on))) := by
  subst hk
  have h2 : (V.setCell ⟨n, 0, none⟩ (.int .i64 (bi k.off))).cell? ⟨n, 1, none⟩ = some c1 := by rw [cell_set h0, if_neg (by omega)]; exact h1
  refine bodyPost_ret (res_kn (s := 6) rfl ht (by rw [cell_set h2, if_neg (by omega), cell_set h0, if_pos rfl]) (by rw [cell_set h2, if_pos rfl])) rfl ⟨rfl, ?_⟩
  exact (hb.setCell (by simpa using hn) _).setCell (by simpa using hn) _

set_option maxRecDepth 100000 in
set_option maxHeartbeats 2000000 in
theorem makes_2 (dst na nb fn : Int) (ra rb : Bool) (v : Value) (a b : Kn) (w : World) (hB : Bruijn w) (ha : a.both = false) (hb : b.both = false) :
    Calls Tryd.prog 92 #[.agg #[.int .i64 2, .int .i64 dst, .bool ra, .int .i64 na, .bool rb, .int .i64 nb, .int .i64 fn, v], .agg #[.int .i64 (bi a.off), .int .i64 (bi a.on)], .agg #[.int .i64 (bi b.off), .int .i64 (bi b.on)]] w fun e w' => e = .returned (knV (makeIn 2 a b)) ∧ Below w.heap.size w w' := by
  go_enter Tryd.func92, Tryd.ntmps92
  go_wp2_with (first
    | (go_at_call 132; ((with_reducible refine (none_w _ _).mono ?_); rintro e w' ⟨rfl, rfl⟩))
    | (go_at_call 133; refine (low_agg (S := fun _ => True) _ _ 2 _ [a, b] _ (hB.below (by (repeat (first | exact Below.refl _ _ | refine Below.alloc ?_ (by first | omega | (simp <;> omega)) _ | refine Below.setCell ?_ (by first | omega | (simp <;> omega)) _ | refine below_drewN ?_ _ | refine Below.drew ?_)))) (sl_two a b _ _ (by simp)) rfl (by omega)).mono ?_
       rintro e w1 ⟨kk, hk, rfl, hb1⟩
       have Hk := hid hk
       have r0 : w1.cell? ⟨w.heap.size + 1 + 1 + 1, 0, none⟩ = some (.int .i64 0) := (hb1.cell (p := ⟨w.heap.size + 1 + 1 + 1, 0, none⟩) (by simp <;> omega)).trans (by simp [go_sem])
       have r1 : w1.cell? ⟨w.heap.size + 1 + 1 + 1, 1, none⟩ = some (.int .i64 0) := (hb1.cell (p := ⟨w.heap.size + 1 + 1 + 1, 1, none⟩) (by simp <;> omega)).trans (by simp [go_sem])
       have r2 : w1.frozen? ⟨w.heap.size + 1 + 1 + 1, 0, none⟩ = false := (hb1.frozen (p := ⟨w.heap.size + 1 + 1 + 1, 0, none⟩) (by simp <;> omega)).trans (by simp [go_sem])
       have r3 : w1.frozen? ⟨w.heap.size + 1 + 1 + 1, 1, none⟩ = false := (hb1.frozen (p := ⟨w.heap.size + 1 + 1 + 1, 1, none⟩) (by simp <;> omega)).trans (by simp [go_sem])
       have hbw : Below w.heap.size w w1 := by (repeat (first | exact Below.refl _ _ | exact (hb1).mono (by first | omega | (simp <;> omega) | (have hh := (hb1).size; (try simp at hh); omega) | (have hh := (hb1).size; (try simp at hh); (try simp); omega)) | refine Below.trans ?_ ((hb1).mono (by first | omega | (simp <;> omega) | (have hh := (hb1).size; (try simp at hh); omega) | (have hh := (hb1).size; (try simp at hh); (try simp); omega))) | refine Below.alloc ?_ (by first | omega | (simp <;> omega) | (have hh := (hb1).size; (try simp at hh); omega) | (have hh := (hb1).size; (try simp at hh); (try simp); omega)) _ | refine Below.setCell ?_ (by first | omega | (simp <;> omega) | (have hh := (hb1).size; (try simp at hh); omega) | (have hh := (hb1).size; (try simp at hh); (try simp); omega)) _ | refine below_drewN ?_ _ | refine Below.drew ?_))
       have Hbw := hid hbw
       clear hb1 hbw hk))
  refine makes_end ?_ r0 r1 (by omega) Hbw.out (Hk.out.trans (make_2 a b).symm)
  rfl

set_option maxRecDepth 100000 in
set_option maxHeartbeats 2000000 in
theorem makes_3 (dst na nb fn : Int) (ra rb : Bool) (v : Value) (a b : Kn) (w : World) (hB : Bruijn w) (ha : a.both = false) (hb : b.both = false) :
    Calls Tryd.prog 92 #[.agg #[.int .i64 3, .int .i64 dst, .bool ra, .int .i64 na, .bool rb, .int .i64 nb, .int .i64 fn, v], .agg #[.int .i64 (bi a.off), .int .i64 (bi a.on)], .agg #[.int .i64 (bi b.off), .int .i64 (bi b.on)]] w fun e w' => e = .returned (knV (makeIn 3 a b)) ∧ Below w.heap.size w w' := by
  go_enter Tryd.func92, Tryd.ntmps92
  go_wp2_with (first
    | (go_at_call 132; ((with_reducible refine (none_w _ _).mono ?_); rintro e w' ⟨rfl, rfl⟩))
    | (go_at_call 133; refine (low_agg (S := fun _ => True) _ _ 2 _ [a, b] _ (hB.below (by (repeat (first | exact Below.refl _ _ | refine Below.alloc ?_ (by first | omega | (simp <;> omega)) _ | refine Below.setCell ?_ (by first | omega | (simp <;> omega)) _ | refine below_drewN ?_ _ | refine Below.drew ?_)))) (sl_two a b _ _ (by simp)) rfl (by omega)).mono ?_
       rintro e w1 ⟨kk, hk, rfl, hb1⟩
       have Hk := hid hk
       have r0 : w1.cell? ⟨w.heap.size + 1 + 1 + 1, 0, none⟩ = some (.int .i64 0) := (hb1.cell (p := ⟨w.heap.size + 1 + 1 + 1, 0, none⟩) (by simp <;> omega)).trans (by simp [go_sem])
       have r1 : w1.cell? ⟨w.heap.size + 1 + 1 + 1, 1, none⟩ = some (.int .i64 0) := (hb1.cell (p := ⟨w.heap.size + 1 + 1 + 1, 1, none⟩) (by simp <;> omega)).trans (by simp [go_sem])
       have r2 : w1.frozen? ⟨w.heap.size + 1 + 1 + 1, 0, none⟩ = false := (hb1.frozen (p := ⟨w.heap.size + 1 + 1 + 1, 0, none⟩) (by simp <;> omega)).trans (by simp [go_sem])
       have r3 : w1.frozen? ⟨w.heap.size + 1 + 1 + 1, 1, none⟩ = false := (hb1.frozen (p := ⟨w.heap.size + 1 + 1 + 1, 1, none⟩) (by simp <;> omega)).trans (by simp [go_sem])
       have hbw : Below w.heap.size w w1 := by (repeat (first | exact Below.refl _ _ | exact (hb1).mono (by first | omega | (simp <;> omega) | (have hh := (hb1).size; (try simp at hh); omega) | (have hh := (hb1).size; (try simp at hh); (try simp); omega)) | refine Below.trans ?_ ((hb1).mono (by first | omega | (simp <;> omega) | (have hh := (hb1).size; (try simp at hh); omega) | (have hh := (hb1).size; (try simp at hh); (try simp); omega))) | refine Below.alloc ?_ (by first | omega | (simp <;> omega) | (have hh := (hb1).size; (try simp at hh); omega) | (have hh := (hb1).size; (try simp at hh); (try simp); omega)) _ | refine Below.setCell ?_ (by first | omega | (simp <;> omega) | (have hh := (hb1).size; (try simp at hh); omega) | (have hh := (hb1).size; (try simp at hh); (try simp); omega)) _ | refine below_drewN ?_ _ | refine Below.drew ?_))
       have Hbw := hid hbw
       clear hb1 hbw hk))
  refine makes_end ?_ r0 r1 (by omega) Hbw.out (Hk.out.trans (make_3 a b).symm)
  rfl

set_option maxRecDepth 100000 in
set_option maxHeartbeats 2000000 in
theorem makes_4 (dst na nb fn : Int) (ra rb : Bool) (v : Value) (a b : Kn) (w : World) (hB : Bruijn w) (ha : a.both = false) (hb : b.both = false) :
    Calls Tryd.prog 92 #[.agg #[.int .i64 4, .int .i64 dst, .bool ra, .int .i64 na, .bool rb, .int .i64 nb, .int .i64 fn, v], .agg #[.int .i64 (bi a.off), .int .i64 (bi a.on)], .agg #[.int .i64 (bi b.off), .int .i64 (bi b.on)]] w fun e w' => e = .returned (knV (makeIn 4 a b)) ∧ Below w.heap.size w w' := by
  go_enter Tryd.func92, Tryd.ntmps92
  go_wp2_with (first
    | (go_at_call 132; ((with_reducible refine (none_w _ _).mono ?_); rintro e w' ⟨rfl, rfl⟩))
    | (go_at_call 133; refine (low_agg (S := fun _ => True) _ _ 2 _ [a, b] _ (hB.below (by (repeat (first | exact Below.refl _ _ | refine Below.alloc ?_ (by first | omega | (simp <;> omega)) _ | refine Below.setCell ?_ (by first | omega | (simp <;> omega)) _ | refine below_drewN ?_ _ | refine Below.drew ?_)))) (sl_two a b _ _ (by simp)) rfl (by omega)).mono ?_
       rintro e w1 ⟨kk, hk, rfl, hb1⟩
       have Hk := hid hk
       have r0 : w1.cell? ⟨w.heap.size + 1 + 1 + 1, 0, none⟩ = some (.int .i64 0) := (hb1.cell (p := ⟨w.heap.size + 1 + 1 + 1, 0, none⟩) (by simp <;> omega)).trans (by simp [go_sem])
       have r1 : w1.cell? ⟨w.heap.size + 1 + 1 + 1, 1, none⟩ = some (.int .i64 0) := (hb1.cell (p := ⟨w.heap.size + 1 + 1 + 1, 1, none⟩) (by simp <;> omega)).trans (by simp [go_sem])
       have r2 : w1.frozen? ⟨w.heap.size + 1 + 1 + 1, 0, none⟩ = false := (hb1.frozen (p := ⟨w.heap.size + 1 + 1 + 1, 0, none⟩) (by simp <;> omega)).trans (by simp [go_sem])
       have r3 : w1.frozen? ⟨w.heap.size + 1 + 1 + 1, 1, none⟩ = false := (hb1.frozen (p := ⟨w.heap.size + 1 + 1 + 1, 1, none⟩) (by simp <;> omega)).trans (by simp [go_sem])
       have hbw : Below w.heap.size w w1 := by (repeat (first | exact Below.refl _ _ | exact (hb1).mono (by first | omega | (simp <;> omega) | (have hh := (hb1).size; (try simp at hh); omega) | (have hh := (hb1).size; (try simp at hh); (try simp); omega)) | refine Below.trans ?_ ((hb1).mono (by first | omega | (simp <;> omega) | (have hh := (hb1).size; (try simp at hh); omega) | (have hh := (hb1).size; (try simp at hh); (try simp); omega))) | refine Below.alloc ?_ (by first | omega | (simp <;> omega) | (have hh := (hb1).size; (try simp at hh); omega) | (have hh := (hb1).size; (try simp at hh); (try simp); omega)) _ | refine Below.setCell ?_ (by first | omega | (simp <;> omega) | (have hh := (hb1).size; (try simp at hh); omega) | (have hh := (hb1).size; (try simp at hh); (try simp); omega)) _ | refine below_drewN ?_ _ | refine Below.drew ?_))
       have Hbw := hid hbw
       clear hb1 hbw hk))
  refine makes_end ?_ r0 r1 (by omega) Hbw.out (Hk.out.trans (make_4 a b).symm)
  rfl

set_option maxRecDepth 100000 in
set_option maxHeartbeats 2000000 in
theorem makes_16 (dst na nb fn : Int) (ra rb : Bool) (v : Value) (a b : Kn) (w : World) (hB : Bruijn w) (ha : a.both = false) :
    Calls Tryd.prog 92 #[.agg #[.int .i64 16, .int .i64 dst, .bool ra, .int .i64 na, .bool rb, .int .i64 nb, .int .i64 fn, v], .agg #[.int .i64 (bi a.off), .int .i64 (bi a.on)], .agg #[.int .i64 (bi b.off), .int .i64 (bi b.on)]] w fun e w' => e = .returned (knV (makeIn 16 a b)) ∧ Below w.heap.size w w' := by
  go_enter Tryd.func92, Tryd.ntmps92
  go_wp2_with (first
    | (go_at_call 132; ((with_reducible refine (none_w _ _).mono ?_); rintro e w' ⟨rfl, rfl⟩))
    | (go_at_call 133; refine (low_agg (S := fun _ => True) _ _ 1 _ [a] _ (hB.below (by (repeat (first | exact Below.refl _ _ | refine Below.alloc ?_ (by first | omega | (simp <;> omega)) _ | refine Below.setCell ?_ (by first | omega | (simp <;> omega)) _ | refine below_drewN ?_ _ | refine Below.drew ?_)))) (sl_one a _ _ (by simp)) rfl (by omega)).mono ?_
       rintro e w1 ⟨kk, hk, rfl, hb1⟩
       have Hk := hid hk
       have r0 : w1.cell? ⟨w.heap.size + 1 + 1 + 1, 0, none⟩ = some (.int .i64 0) := (hb1.cell (p := ⟨w.heap.size + 1 + 1 + 1, 0, none⟩) (by simp <;> omega)).trans (by simp [go_sem])
       have r1 : w1.cell? ⟨w.heap.size + 1 + 1 + 1, 1, none⟩ = some (.int .i64 0) := (hb1.cell (p := ⟨w.heap.size + 1 + 1 + 1, 1, none⟩) (by simp <;> omega)).trans (by simp [go_sem])
       have r2 : w1.frozen? ⟨w.heap.size + 1 + 1 + 1, 0, none⟩ = false := (hb1.frozen (p := ⟨w.heap.size + 1 + 1 + 1, 0, none⟩) (by simp <;> omega)).trans (by simp [go_sem])
       have r3 : w1.frozen? ⟨w.heap.size + 1 + 1 + 1, 1, none⟩ = false := (hb1.frozen (p := ⟨w.heap.size + 1 + 1 + 1, 1, none⟩) (by simp <;> omega)).trans (by simp [go_sem])
       have hbw : Below w.heap.size w w1 := by (repeat (first | exact Below.refl _ _ | exact (hb1).mono (by first | omega | (simp <;> omega) | (have hh := (hb1).size; (try simp at hh); omega) | (have hh := (hb1).size; (try simp at hh); (try simp); omega)) | refine Below.trans ?_ ((hb1).mono (by first | omega | (simp <;> omega) | (have hh := (hb1).size; (try simp at hh); omega) | (have hh := (hb1).size; (try simp at hh); (try simp); omega))) | refine Below.alloc ?_ (by first | omega | (simp <;> omega) | (have hh := (hb1).size; (try simp at hh); omega) | (have hh := (hb1).size; (try simp at hh); (try simp); omega)) _ | refine Below.setCell ?_ (by first | omega | (simp <;> omega) | (have hh := (hb1).size; (try simp at hh); omega) | (have hh := (hb1).size; (try simp at hh); (try simp); omega)) _ | refine below_drewN ?_ _ | refine Below.drew ?_))
       have Hbw := hid hbw
       clear hb1 hbw hk))
  refine makes_end ?_ r0 r1 (by omega) Hbw.out (Hk.out.trans (make_16 a b).symm)
  rfl


end Go.Proofs.YtaehkcnankijfaaDoor

namespace Go.Proofs.YtaehkcnankijfaaDoor
open Go.RowKit

theorem shl_bi (x : BitVec 64) (n : Nat) : IntKind.i64.wrap (bi x * 2 ^ n) = bi (x <<< n) := by
  rw [wrap_bi]
  congr 1
  rw [show ((2 : Int) ^ n) = ((2 ^ n : Nat) : Int) by norm_cast, BitVec.ofInt_mul]
  unfold bi
  rw [BitVec.ofInt_toInt, BitVec.ofInt_natCast]
  apply BitVec.eq_of_toNat_eq
  rw [BitVec.toNat_mul, BitVec.toNat_ofNat, BitVec.toNat_shiftLeft, Nat.shiftLeft_eq, Nat.mul_mod_mod]
theorem shr_bi (x : BitVec 64) (n : Nat) : bi x / 2 ^ n = bi (x.sshiftRight n) := by
  unfold bi
  rw [BitVec.toInt_sshiftRight, Int.shiftRight_eq_div_pow]
  norm_cast
set_option maxRecDepth 100000 in
theorem mask_lt : ∀ m : Fin 64, IntKind.i64.wrap (IntKind.i64.wrap (2 ^ m.val) - 1) = bi (maskF m.val) := by decide +kernel
theorem mask_i {m : Nat} (h : m < 64) : IntKind.i64.wrap (IntKind.i64.wrap (2 ^ m) - 1) = bi (maskF m) := mask_lt ⟨m, h⟩
theorem make_10 {a b : Kn} (h : sureB b = true) : makeIn 10 a b = ⟨(a.off <<< shX b.on) ||| maskF (shX b.on), a.on <<< shX b.on⟩ := by unfold makeIn; rw [h]; rfl
theorem make_11 {a b : Kn} (h : sureB b = true) : makeIn 11 a b = ⟨a.off.sshiftRight (shX b.on), a.on.sshiftRight (shX b.on)⟩ := by unfold makeIn; rw [h]; rfl
theorem make_10n {a b : Kn} (h : sureB b = false) : makeIn 10 a b = Kn.none := by unfold makeIn; rw [h]; rfl
theorem make_11n {a b : Kn} (h : sureB b = false) : makeIn 11 a b = Kn.none := by unfold makeIn; rw [h]; rfl

set_option maxRecDepth 100000 in
set_option maxHeartbeats 2000000 in
theorem makes_10 (dst na nb fn : Int) (ra rb : Bool) (v : Value) (a b : Kn) (w : World) (ha : a.both = false) (hb : b.both = false) (hs : sureB b = true) :
    Calls Tryd.prog 92 #[.agg #[.int .i64 10, .int .i64 dst, .bool ra, .int .i64 na, .bool rb, .int .i64 nb, .int .i64 fn, v], .agg #[.int .i64 (bi a.off), .int .i64 (bi a.on)], .agg #[.int .i64 (bi b.off), .int .i64 (bi b.on)]] w fun e w' => e = .returned (knV (makeIn 10 a b)) ∧ Below w.heap.size w w' := by
  have hlt := shX_lt b.on
  go_enter Tryd.func92, Tryd.ntmps92
  go_wp2_with (first
    | (go_at_call 132; ((with_reducible refine (none_w _ _).mono ?_); rintro e w' ⟨rfl, rfl⟩))
    | (go_at_call 134; refine (sure_kn _ _).mono ?_
       rintro e w1 ⟨rfl, hb1⟩
       have q0 : w1.cell? ⟨w.heap.size, 0, none⟩ = some (.int .i64 10) := (hb1.cell (p := ⟨w.heap.size, 0, none⟩) (by simp <;> omega)).trans (by simp [go_sem])
       have q1 : w1.cell? ⟨w.heap.size + 1, 0, none⟩ = some (.int .i64 (bi a.off)) := (hb1.cell (p := ⟨w.heap.size + 1, 0, none⟩) (by simp <;> omega)).trans (by simp [go_sem])
       have q2 : w1.cell? ⟨w.heap.size + 1, 1, none⟩ = some (.int .i64 (bi a.on)) := (hb1.cell (p := ⟨w.heap.size + 1, 1, none⟩) (by simp <;> omega)).trans (by simp [go_sem])
       have r0 : w1.cell? ⟨w.heap.size + 1 + 1 + 1, 0, none⟩ = some (.int .i64 0) := (hb1.cell (p := ⟨w.heap.size + 1 + 1 + 1, 0, none⟩) (by simp <;> omega)).trans (by simp [go_sem])
       have r1 : w1.cell? ⟨w.heap.size + 1 + 1 + 1, 1, none⟩ = some (.int .i64 0) := (hb1.cell (p := ⟨w.heap.size + 1 + 1 + 1, 1, none⟩) (by simp <;> omega)).trans (by simp [go_sem])
       have r2 : w1.frozen? ⟨w.heap.size + 1 + 1 + 1, 0, none⟩ = false := (hb1.frozen (p := ⟨w.heap.size + 1 + 1 + 1, 0, none⟩) (by simp <;> omega)).trans (by simp [go_sem])
       have r3 : w1.frozen? ⟨w.heap.size + 1 + 1 + 1, 1, none⟩ = false := (hb1.frozen (p := ⟨w.heap.size + 1 + 1 + 1, 1, none⟩) (by simp <;> omega)).trans (by simp [go_sem])
       have hbw : Below w.heap.size w w1 := by (repeat (first | exact Below.refl _ _ | exact (hb1).mono (by first | omega | (simp <;> omega) | (have hh := (hb1).size; (try simp at hh); omega) | (have hh := (hb1).size; (try simp at hh); (try simp); omega)) | refine Below.trans ?_ ((hb1).mono (by first | omega | (simp <;> omega) | (have hh := (hb1).size; (try simp at hh); omega) | (have hh := (hb1).size; (try simp at hh); (try simp); omega))) | refine Below.alloc ?_ (by first | omega | (simp <;> omega) | (have hh := (hb1).size; (try simp at hh); omega) | (have hh := (hb1).size; (try simp at hh); (try simp); omega)) _ | refine Below.setCell ?_ (by first | omega | (simp <;> omega) | (have hh := (hb1).size; (try simp at hh); omega) | (have hh := (hb1).size; (try simp at hh); (try simp); omega)) _ | refine below_drewN ?_ _ | refine Below.drew ?_))
       have Hbw := hid hbw
       clear hb1 hbw))
  refine wp_region_still_tail 13 (by kernel_rfl) (by kernel_rfl) ?_
  simp only [List.take_succ_cons, List.take_zero, List.drop_succ_cons, List.drop_zero]
  repeat still_step
  try refine wpStill_nil ?_
  rw [shl_bi, shl_bi, mask_i hlt, bits_or_bv]
  obtain ⟨kk, hk⟩ : ∃ kk, kk = makeIn 10 a b := ⟨_, rfl⟩
  have e0 : (a.off <<< shX b.on ||| maskF (shX b.on)) = kk.off := by rw [hk, make_10 hs]
  have e1 : a.on <<< shX b.on = kk.on := by rw [hk, make_10 hs]
  rw [e0, e1]
  clear e0 e1
  obtain ⟨w2, hw2⟩ : ∃ w2 : World, w2 = { heap := w1.heap, tape := w1.tape, drawn := w1.drawn + 1, os := w1.os, output := w1.output } := ⟨_, rfl⟩
  have r0 : w2.cell? ⟨w.heap.size + 1 + 1 + 1, 0, none⟩ = some (.int .i64 0) := by rw [hw2]; exact r0
  have r1 : w2.cell? ⟨w.heap.size + 1 + 1 + 1, 1, none⟩ = some (.int .i64 0) := by rw [hw2]; exact r1
  have r2 : w2.frozen? ⟨w.heap.size + 1 + 1 + 1, 0, none⟩ = false := by rw [hw2]; exact r2
  have r3 : w2.frozen? ⟨w.heap.size + 1 + 1 + 1, 1, none⟩ = false := by rw [hw2]; exact r3
  have Hbw2 : Hid (Below w.heap.size w w2) := by rw [hw2]; exact Hbw.out.drew
  rw [← hw2]
  clear hw2 q0 q1 q2
  have Hk := hid hk
  clear hk
  go_wp2_with fail
  refine makes_end ?_ r0 r1 (by omega) Hbw2.out Hk.out
  rfl

set_option maxRecDepth 100000 in
set_option maxHeartbeats 2000000 in
theorem makes_11 (dst na nb fn : Int) (ra rb : Bool) (v : Value) (a b : Kn) (w : World) (ha : a.both = false) (hb : b.both = false) (hs : sureB b = true) :
    Calls Tryd.prog 92 #[.agg #[.int .i64 11, .int .i64 dst, .bool ra, .int .i64 na, .bool rb, .int .i64 nb, .int .i64 fn, v], .agg #[.int .i64 (bi a.off), .int .i64 (bi a.on)], .agg #[.int .i64 (bi b.off), .int .i64 (bi b.on)]] w fun e w' => e = .returned (knV (makeIn 11 a b)) ∧ Below w.heap.size w w' := by
  have hlt := shX_lt b.on
  go_enter Tryd.func92, Tryd.ntmps92
  go_wp2_with (first
    | (go_at_call 132; ((with_reducible refine (none_w _ _).mono ?_); rintro e w' ⟨rfl, rfl⟩))
    | (go_at_call 134; refine (sure_kn _ _).mono ?_
       rintro e w1 ⟨rfl, hb1⟩
       have q0 : w1.cell? ⟨w.heap.size, 0, none⟩ = some (.int .i64 11) := (hb1.cell (p := ⟨w.heap.size, 0, none⟩) (by simp <;> omega)).trans (by simp [go_sem])
       have q1 : w1.cell? ⟨w.heap.size + 1, 0, none⟩ = some (.int .i64 (bi a.off)) := (hb1.cell (p := ⟨w.heap.size + 1, 0, none⟩) (by simp <;> omega)).trans (by simp [go_sem])
       have q2 : w1.cell? ⟨w.heap.size + 1, 1, none⟩ = some (.int .i64 (bi a.on)) := (hb1.cell (p := ⟨w.heap.size + 1, 1, none⟩) (by simp <;> omega)).trans (by simp [go_sem])
       have r0 : w1.cell? ⟨w.heap.size + 1 + 1 + 1, 0, none⟩ = some (.int .i64 0) := (hb1.cell (p := ⟨w.heap.size + 1 + 1 + 1, 0, none⟩) (by simp <;> omega)).trans (by simp [go_sem])
       have r1 : w1.cell? ⟨w.heap.size + 1 + 1 + 1, 1, none⟩ = some (.int .i64 0) := (hb1.cell (p := ⟨w.heap.size + 1 + 1 + 1, 1, none⟩) (by simp <;> omega)).trans (by simp [go_sem])
       have r2 : w1.frozen? ⟨w.heap.size + 1 + 1 + 1, 0, none⟩ = false := (hb1.frozen (p := ⟨w.heap.size + 1 + 1 + 1, 0, none⟩) (by simp <;> omega)).trans (by simp [go_sem])
       have r3 : w1.frozen? ⟨w.heap.size + 1 + 1 + 1, 1, none⟩ = false := (hb1.frozen (p := ⟨w.heap.size + 1 + 1 + 1, 1, none⟩) (by simp <;> omega)).trans (by simp [go_sem])
       have hbw : Below w.heap.size w w1 := by (repeat (first | exact Below.refl _ _ | exact (hb1).mono (by first | omega | (simp <;> omega) | (have hh := (hb1).size; (try simp at hh); omega) | (have hh := (hb1).size; (try simp at hh); (try simp); omega)) | refine Below.trans ?_ ((hb1).mono (by first | omega | (simp <;> omega) | (have hh := (hb1).size; (try simp at hh); omega) | (have hh := (hb1).size; (try simp at hh); (try simp); omega))) | refine Below.alloc ?_ (by first | omega | (simp <;> omega) | (have hh := (hb1).size; (try simp at hh); omega) | (have hh := (hb1).size; (try simp at hh); (try simp); omega)) _ | refine Below.setCell ?_ (by first | omega | (simp <;> omega) | (have hh := (hb1).size; (try simp at hh); omega) | (have hh := (hb1).size; (try simp at hh); (try simp); omega)) _ | refine below_drewN ?_ _ | refine Below.drew ?_))
       have Hbw := hid hbw
       clear hb1 hbw))
  refine wp_region_still_tail 9 (by kernel_rfl) (by kernel_rfl) ?_
  simp only [List.take_succ_cons, List.take_zero, List.drop_succ_cons, List.drop_zero]
  repeat still_step
  try refine wpStill_nil ?_
  rw [shr_bi, shr_bi]
  obtain ⟨kk, hk⟩ : ∃ kk, kk = makeIn 11 a b := ⟨_, rfl⟩
  have e0 : a.off.sshiftRight (shX b.on) = kk.off := by rw [hk, make_11 hs]
  have e1 : a.on.sshiftRight (shX b.on) = kk.on := by rw [hk, make_11 hs]
  rw [e0, e1]
  clear e0 e1
  obtain ⟨w2, hw2⟩ : ∃ w2 : World, w2 = { heap := w1.heap, tape := w1.tape, drawn := w1.drawn + 1, os := w1.os, output := w1.output } := ⟨_, rfl⟩
  have r0 : w2.cell? ⟨w.heap.size + 1 + 1 + 1, 0, none⟩ = some (.int .i64 0) := by rw [hw2]; exact r0
  have r1 : w2.cell? ⟨w.heap.size + 1 + 1 + 1, 1, none⟩ = some (.int .i64 0) := by rw [hw2]; exact r1
  have r2 : w2.frozen? ⟨w.heap.size + 1 + 1 + 1, 0, none⟩ = false := by rw [hw2]; exact r2
  have r3 : w2.frozen? ⟨w.heap.size + 1 + 1 + 1, 1, none⟩ = false := by rw [hw2]; exact r3
  have Hbw2 : Hid (Below w.heap.size w w2) := by rw [hw2]; exact Hbw.out.drew
  rw [← hw2]
  clear hw2 q0 q1 q2
  have Hk := hid hk
  clear hk
  go_wp2_with fail
  refine makes_end ?_ r0 r1 (by omega) Hbw2.out Hk.out
  rfl

set_option maxRecDepth 100000 in
set_option maxHeartbeats 2000000 in
theorem makes_10n (dst na nb fn : Int) (ra rb : Bool) (v : Value) (a b : Kn) (w : World) (ha : a.both = false) (hb : b.both = false) (hs : sureB b = false) :
    Calls Tryd.prog 92 #[.agg #[.int .i64 10, .int .i64 dst, .bool ra, .int .i64 na, .bool rb, .int .i64 nb, .int .i64 fn, v], .agg #[.int .i64 (bi a.off), .int .i64 (bi a.on)], .agg #[.int .i64 (bi b.off), .int .i64 (bi b.on)]] w fun e w' => e = .returned (knV (makeIn 10 a b)) ∧ Below w.heap.size w w' := by
  have hlt := shX_lt b.on
  go_enter Tryd.func92, Tryd.ntmps92
  go_wp2_with (first
    | (go_at_call 132; ((with_reducible refine (none_w _ _).mono ?_); rintro e w' ⟨rfl, rfl⟩))
    | (go_at_call 134; refine (sure_kn _ _).mono ?_
       rintro e w1 ⟨rfl, hb1⟩
       have q0 : w1.cell? ⟨w.heap.size, 0, none⟩ = some (.int .i64 10) := (hb1.cell (p := ⟨w.heap.size, 0, none⟩) (by simp <;> omega)).trans (by simp [go_sem])
       have q1 : w1.cell? ⟨w.heap.size + 1, 0, none⟩ = some (.int .i64 (bi a.off)) := (hb1.cell (p := ⟨w.heap.size + 1, 0, none⟩) (by simp <;> omega)).trans (by simp [go_sem])
       have q2 : w1.cell? ⟨w.heap.size + 1, 1, none⟩ = some (.int .i64 (bi a.on)) := (hb1.cell (p := ⟨w.heap.size + 1, 1, none⟩) (by simp <;> omega)).trans (by simp [go_sem])
       have r0 : w1.cell? ⟨w.heap.size + 1 + 1 + 1, 0, none⟩ = some (.int .i64 0) := (hb1.cell (p := ⟨w.heap.size + 1 + 1 + 1, 0, none⟩) (by simp <;> omega)).trans (by simp [go_sem])
       have r1 : w1.cell? ⟨w.heap.size + 1 + 1 + 1, 1, none⟩ = some (.int .i64 0) := (hb1.cell (p := ⟨w.heap.size + 1 + 1 + 1, 1, none⟩) (by simp <;> omega)).trans (by simp [go_sem])
       have r2 : w1.frozen? ⟨w.heap.size + 1 + 1 + 1, 0, none⟩ = false := (hb1.frozen (p := ⟨w.heap.size + 1 + 1 + 1, 0, none⟩) (by simp <;> omega)).trans (by simp [go_sem])
       have r3 : w1.frozen? ⟨w.heap.size + 1 + 1 + 1, 1, none⟩ = false := (hb1.frozen (p := ⟨w.heap.size + 1 + 1 + 1, 1, none⟩) (by simp <;> omega)).trans (by simp [go_sem])
       have hbw : Below w.heap.size w w1 := by (repeat (first | exact Below.refl _ _ | exact (hb1).mono (by first | omega | (simp <;> omega) | (have hh := (hb1).size; (try simp at hh); omega) | (have hh := (hb1).size; (try simp at hh); (try simp); omega)) | refine Below.trans ?_ ((hb1).mono (by first | omega | (simp <;> omega) | (have hh := (hb1).size; (try simp at hh); omega) | (have hh := (hb1).size; (try simp at hh); (try simp); omega))) | refine Below.alloc ?_ (by first | omega | (simp <;> omega) | (have hh := (hb1).size; (try simp at hh); omega) | (have hh := (hb1).size; (try simp at hh); (try simp); omega)) _ | refine Below.setCell ?_ (by first | omega | (simp <;> omega) | (have hh := (hb1).size; (try simp at hh); omega) | (have hh := (hb1).size; (try simp at hh); (try simp); omega)) _ | refine below_drewN ?_ _ | refine Below.drew ?_))
       have Hbw := hid hbw
       clear hb1 hbw))
  refine makes_end ?_ r0 r1 (by omega) Hbw.out (k := Kn.none) (make_10n hs).symm
  rfl

set_option maxRecDepth 100000 in
set_option maxHeartbeats 2000000 in
theorem makes_11n (dst na nb fn : Int) (ra rb : Bool) (v : Value) (a b : Kn) (w : World) (ha : a.both = false) (hb : b.both = false) (hs : sureB b = false) :
    Calls Tryd.prog 92 #[.agg #[.int .i64 11, .int .i64 dst, .bool ra, .int .i64 na, .bool rb, .int .i64 nb, .int .i64 fn, v], .agg #[.int .i64 (bi a.off), .int .i64 (bi a.on)], .agg #[.int .i64 (bi b.off), .int .i64 (bi b.on)]] w fun e w' => e = .returned (knV (makeIn 11 a b)) ∧ Below w.heap.size w w' := by
  have hlt := shX_lt b.on
  go_enter Tryd.func92, Tryd.ntmps92
  go_wp2_with (first
    | (go_at_call 132; ((with_reducible refine (none_w _ _).mono ?_); rintro e w' ⟨rfl, rfl⟩))
    | (go_at_call 134; refine (sure_kn _ _).mono ?_
       rintro e w1 ⟨rfl, hb1⟩
       have q0 : w1.cell? ⟨w.heap.size, 0, none⟩ = some (.int .i64 11) := (hb1.cell (p := ⟨w.heap.size, 0, none⟩) (by simp <;> omega)).trans (by simp [go_sem])
       have q1 : w1.cell? ⟨w.heap.size + 1, 0, none⟩ = some (.int .i64 (bi a.off)) := (hb1.cell (p := ⟨w.heap.size + 1, 0, none⟩) (by simp <;> omega)).trans (by simp [go_sem])
       have q2 : w1.cell? ⟨w.heap.size + 1, 1, none⟩ = some (.int .i64 (bi a.on)) := (hb1.cell (p := ⟨w.heap.size + 1, 1, none⟩) (by simp <;> omega)).trans (by simp [go_sem])
       have r0 : w1.cell? ⟨w.heap.size + 1 + 1 + 1, 0, none⟩ = some (.int .i64 0) := (hb1.cell (p := ⟨w.heap.size + 1 + 1 + 1, 0, none⟩) (by simp <;> omega)).trans (by simp [go_sem])
       have r1 : w1.cell? ⟨w.heap.size + 1 + 1 + 1, 1, none⟩ = some (.int .i64 0) := (hb1.cell (p := ⟨w.heap.size + 1 + 1 + 1, 1, none⟩) (by simp <;> omega)).trans (by simp [go_sem])
       have r2 : w1.frozen? ⟨w.heap.size + 1 + 1 + 1, 0, none⟩ = false := (hb1.frozen (p := ⟨w.heap.size + 1 + 1 + 1, 0, none⟩) (by simp <;> omega)).trans (by simp [go_sem])
       have r3 : w1.frozen? ⟨w.heap.size + 1 + 1 + 1, 1, none⟩ = false := (hb1.frozen (p := ⟨w.heap.size + 1 + 1 + 1, 1, none⟩) (by simp <;> omega)).trans (by simp [go_sem])
       have hbw : Below w.heap.size w w1 := by (repeat (first | exact Below.refl _ _ | exact (hb1).mono (by first | omega | (simp <;> omega) | (have hh := (hb1).size; (try simp at hh); omega) | (have hh := (hb1).size; (try simp at hh); (try simp); omega)) | refine Below.trans ?_ ((hb1).mono (by first | omega | (simp <;> omega) | (have hh := (hb1).size; (try simp at hh); omega) | (have hh := (hb1).size; (try simp at hh); (try simp); omega))) | refine Below.alloc ?_ (by first | omega | (simp <;> omega) | (have hh := (hb1).size; (try simp at hh); omega) | (have hh := (hb1).size; (try simp at hh); (try simp); omega)) _ | refine Below.setCell ?_ (by first | omega | (simp <;> omega) | (have hh := (hb1).size; (try simp at hh); omega) | (have hh := (hb1).size; (try simp at hh); (try simp); omega)) _ | refine below_drewN ?_ _ | refine Below.drew ?_))
       have Hbw := hid hbw
       clear hb1 hbw))
  refine makes_end ?_ r0 r1 (by omega) Hbw.out (k := Kn.none) (make_11n hs).symm
  rfl

end Go.Proofs.YtaehkcnankijfaaDoor

namespace Go.Proofs.YtaehkcnankijfaaDoor
open Go.RowKit

set_option maxRecDepth 100000 in
theorem makes_any (op dst na nb fn : Int) (ra rb : Bool) (v : Value) (a b : Kn) (w : World) (hB : Bruijn w) :
    Calls Tryd.prog 92 #[.agg #[.int .i64 op, .int .i64 dst, .bool ra, .int .i64 na, .bool rb, .int .i64 nb, .int .i64 fn, v], .agg #[.int .i64 (bi a.off), .int .i64 (bi a.on)], .agg #[.int .i64 (bi b.off), .int .i64 (bi b.on)]] w fun e w' => e = .returned (knV (makesF op a b)) ∧ Below w.heap.size w w' := by
  by_cases h17 : 17 < op
  · have e : makesF op a b = Kn.none := by unfold makesF; rw [if_pos h17]
    rw [e]
    exact makes_more op dst na nb fn ra rb v a b w h17
  have hop : op ≤ 17 := by omega
  cases ha : a.both with
  | true =>
    have e : makesF op a b = Kn.top := by unfold makesF; rw [if_neg h17, if_pos (by rw [ha]; rfl)]
    rw [e]
    exact makes_top op dst na nb fn ra rb v a b w hop ha
  | false =>
    cases hb : (!loneB op && b.both) with
    | true =>
      have e : makesF op a b = Kn.top := by unfold makesF; rw [if_neg h17, if_pos (by rw [ha, hb]; rfl)]
      rw [e]
      rw [Bool.and_eq_true] at hb
      have hl : ¬ (op = 1 ∨ op = 16 ∨ op = 17) := by
        have h := hb.1
        unfold loneB at h
        simpa using h
      exact makes_top2 op dst na nb fn ra rb v a b w hop (fun h => hl (.inl h)) (fun h => hl (.inr (.inl h))) (fun h => hl (.inr (.inr h))) ha hb.2
    | false =>
      have e : makesF op a b = makeIn op a b := by unfold makesF; rw [if_neg h17, if_neg (by rw [ha, hb]; decide)]
      rw [e]
      clear e
      by_cases h1 : op = 1
      · subst h1; exact makes_1 dst na nb fn ra rb v a b w ha
      by_cases h2 : op = 16
      · subst h2; exact makes_16 dst na nb fn ra rb v a b w hB ha
      by_cases h3 : op = 17
      · subst h3; exact makes_17 dst na nb fn ra rb v a b w ha
      have hl : loneB op = false := by unfold loneB; simp; omega
      rw [hl] at hb
      have hb : b.both = false := by simpa using hb
      by_cases h0 : op ≤ 0
      · have e : makeIn op a b = Kn.none := by
          unfold makeIn
          rw [if_neg (by omega), if_neg (by omega), if_neg (by omega), if_neg (by omega), if_neg (by omega), if_neg (by omega), if_neg (by omega), if_neg (by omega), if_neg (by omega), if_neg (by omega), if_neg (by omega), if_neg (by omega)]
        rw [e]
        exact makes_0 op dst na nb fn ra rb v a b w h0 ha hb
      have hs : op = 2 ∨ op = 3 ∨ op = 4 ∨ op = 5 ∨ op = 6 ∨ op = 7 ∨ op = 8 ∨ op = 9 ∨ op = 10 ∨ op = 11 ∨ op = 12 ∨ op = 13 ∨ op = 14 ∨ op = 15 := by omega
      clear h17 hop h1 h2 h3 hl h0
      rcases hs with rfl | rfl | rfl | rfl | rfl | rfl | rfl | rfl | rfl | rfl | rfl | rfl | rfl | rfl
      · exact makes_2 dst na nb fn ra rb v a b w hB ha hb
      · exact makes_3 dst na nb fn ra rb v a b w hB ha hb
      · exact makes_4 dst na nb fn ra rb v a b w hB ha hb
      · exact makes_5 dst na nb fn ra rb v a b w ha hb
      · exact makes_6 dst na nb fn ra rb v a b w ha hb
      · exact makes_7 dst na nb fn ra rb v a b w ha hb
      · exact makes_8 dst na nb fn ra rb v a b w ha hb
      · exact makes_9 dst na nb fn ra rb v a b w ha hb
      · cases hs : sureB b with
        | true => exact makes_10 dst na nb fn ra rb v a b w ha hb hs
        | false => exact makes_10n dst na nb fn ra rb v a b w ha hb hs
      · cases hs : sureB b with
        | true => exact makes_11 dst na nb fn ra rb v a b w ha hb hs
        | false => exact makes_11n dst na nb fn ra rb v a b w ha hb hs
      · exact makes_12 dst na nb fn ra rb v a b w ha hb
      · exact makes_13 dst na nb fn ra rb v a b w ha hb
      · exact makes_14 dst na nb fn ra rb v a b w ha hb
      · exact makes_15 dst na nb fn ra rb v a b w ha hb

end Go.Proofs.YtaehkcnankijfaaDoor

namespace Go.Proofs.YtaehkcnankijfaaDoor
open Go.RowKit

@[go_sem ↓] theorem run_neq_known (a b : Kn) (w : World) :
    (binOp .neq 109 (.agg #[.int .i64 (bi a.off), .int .i64 (bi a.on)]) (.agg #[.int .i64 (bi b.off), .int .i64 (bi b.on)])).run Tryd.prog w = .ok (.bool (decide (a ≠ b))) w := by
  have e : decide (a ≠ b) = ((decide (bi a.off < bi b.off) || decide (bi b.off < bi a.off)) || (decide (bi a.on < bi b.on) || decide (bi b.on < bi a.on))) := by
    rw [bi_other, bi_other, Bool.eq_iff_iff]
    obtain ⟨a1, a2⟩ := a
    obtain ⟨b1, b2⟩ := b
    simp only [decide_eq_true_eq, Bool.or_eq_true, ne_eq, Kn.mk.injEq, Classical.not_and_iff_not_or_not]
  rw [e]
  simp [binOp, Op.equal, Op.maxDepth, go_sem, Tryd.underlying109]
  repeat' split
  all_goals
    refine congrArg (fun b => Result.ok (Value.bool b) w) ?_
    rw [Bool.eq_iff_iff]
    simp
    omega

/-- The cells of a table of known bits. -/
def rowK (t : Tb) : Array Value := rowP (t.map fun k => (bi k.off, bi k.on))
theorem rowK_at {t : Tb} {r : Nat} (hr : r < t.length) : (rowK t)[r * 2]? = some (.int .i64 (bi (tbAt t r).off)) ∧ (rowK t)[r * 2 + 1]? = some (.int .i64 (bi (tbAt t r).on)) := by
  unfold rowK
  have h := rowP_at (t := t.map fun k => (bi k.off, bi k.on)) (r := r) (by simpa using hr)
  rw [h.1, h.2, List.getElem_map, tbAt_lt hr]
  exact ⟨rfl, rfl⟩
theorem rowK_set {t : Tb} {r : Nat} (hr : r < t.length) (k : Kn) : ((rowK t).setIfInBounds (r * 2) (.int .i64 (bi k.off))).setIfInBounds (r * 2 + 1) (.int .i64 (bi k.on)) = rowK (t.set r k) := by
  unfold rowK
  rw [rowP_set (by simpa using hr), List.map_set]
/-- The table in memory, and the flag; all else of an earlier world is kept. -/
structure TbSt (W0 W : World) (RB AB : Nat) (t : Tb) (c : Bool) : Prop where
  size : W0.heap.size ≤ W.heap.size
  keep : ∀ b, b < W0.heap.size → b ≠ RB → b ≠ AB → W.heap[b]? = W0.heap[b]?
  env : W.os = W0.os ∧ W.tape = W0.tape ∧ W.output = W0.output
  row : W.heap[RB]? = some (.cells (rowK t) 109 (0, 0))
  flag : W.heap[AB]? = some (.cells #[.bool c] 4 (0, 0))
  ne : RB ≠ AB
section
variable {W0 W W' : World} {RB AB : Nat} {t : Tb} {c : Bool}
theorem TbSt.ltR (h : TbSt W0 W RB AB t c) : RB < W.heap.size := (Array.getElem?_eq_some_iff.1 h.row).1
theorem TbSt.ltA (h : TbSt W0 W RB AB t c) : AB < W.heap.size := (Array.getElem?_eq_some_iff.1 h.flag).1
theorem TbSt.later (h : TbSt W0 W RB AB t c) (hb : Below W.heap.size W W') : TbSt W0 W' RB AB t c := by
  have hz := h.size
  exact ⟨Nat.le_trans hz hb.size, fun b h1 h2 h3 => (hb.block b (by omega)).trans (h.keep b h1 h2 h3), ⟨hb.os.trans h.env.1, hb.tape.trans h.env.2.1, hb.output.trans h.env.2.2⟩, (hb.block RB h.ltR).trans h.row, (hb.block AB h.ltA).trans h.flag, h.ne⟩
theorem TbSt.anew (h : TbSt W0 W RB AB t c) : TbSt W W RB AB t c := ⟨Nat.le_refl _, fun _ _ _ _ => rfl, ⟨rfl, rfl, rfl⟩, h.row, h.flag, h.ne⟩
theorem TbSt.trans {t' : Tb} {c' : Bool} (h : TbSt W0 W RB AB t c) (k : TbSt W W' RB AB t' c') : TbSt W0 W' RB AB t' c' := by
  have hz := h.size
  exact ⟨Nat.le_trans hz k.size, fun b h1 h2 h3 => (k.keep b (by omega) h2 h3).trans (h.keep b h1 h2 h3), ⟨k.env.1.trans h.env.1, k.env.2.1.trans h.env.2.1, k.env.2.2.trans h.env.2.2⟩, k.row, k.flag, k.ne⟩
theorem TbSt.cell (h : TbSt W0 W RB AB t c) {b o : Nat} {v : Value} (hc : W0.cell? ⟨b, o, none⟩ = some v) (h1 : b ≠ RB) (h2 : b ≠ AB) : W.cell? ⟨b, o, none⟩ = some v := by
  rw [World.cell?_of_block (w := W0) (a := ⟨b, o, none⟩) (h.keep b (cell_lt hc) h1 h2)]; exact hc
theorem TbSt.sl {α : Type} {r : Rp α} (hr : r.Mono) {S : Nat → Prop} {sz : Nat} {v : Value} {l : List α} (h : TbSt W0 W RB AB t c) (hS : ∀ b, S b → b ≠ RB ∧ b ≠ AB) (hs : SlAt S W0 sz r v l) : SlAt S W sz r v l :=
  hs.mono hr (fun _ h => h) (stays_at fun b hb hl => h.keep b hl (hS b hb).1 (hS b hb).2)
theorem TbSt.at0 (h : TbSt W0 W RB AB t c) {r : Nat} (hr : r < t.length) : W.cell? ⟨RB, r * 2, none⟩ = some (.int .i64 (bi (tbAt t r).off)) := by rw [cell_row h.row]; exact (rowK_at hr).1
theorem TbSt.at1 (h : TbSt W0 W RB AB t c) {r : Nat} (hr : r < t.length) : W.cell? ⟨RB, r * 2 + 1, none⟩ = some (.int .i64 (bi (tbAt t r).on)) := by rw [cell_row h.row]; exact (rowK_at hr).2
theorem TbSt.fz (h : TbSt W0 W RB AB t c) (o : Nat) : W.frozen? ⟨RB, o, none⟩ = false := by simp [World.frozen?, h.row]
theorem TbSt.fzA (h : TbSt W0 W RB AB t c) (o : Nat) : W.frozen? ⟨AB, o, none⟩ = false := by simp [World.frozen?, h.flag]
theorem TbSt.atA (h : TbSt W0 W RB AB t c) : W.cell? ⟨AB, 0, none⟩ = some (.bool c) := by simp [World.cell?, h.flag]
theorem TbSt.below {w : World} (h : TbSt W0 W RB AB t c) (hb : Below w.heap.size w W0) (h1 : w.heap.size ≤ RB) (h2 : w.heap.size ≤ AB) : Below w.heap.size w W := by
  have hz := hb.size
  exact ⟨h.env.1.trans hb.os, h.env.2.1.trans hb.tape, h.env.2.2.trans hb.output, Nat.le_trans hz h.size, fun k hk => (h.keep k (by omega) (by omega) (by omega)).trans (hb.block k hk)⟩
theorem TbSt.put (h : TbSt W0 W RB AB t c) {r : Nat} (hr : r < t.length) (k : Kn) : TbSt W0 ((W.setCell ⟨RB, r * 2, none⟩ (.int .i64 (bi k.off))).setCell ⟨RB, r * 2 + 1, none⟩ (.int .i64 (bi k.on))) RB AB (t.set r k) c := by
  have hl := h.ne
  refine ⟨by simpa [World.setCell] using h.size, fun b h1 h2 h3 => ?_, h.env, ?_, ?_, hl⟩
  · rw [Below.heap_setCell _ _ _ _ (by dsimp only; exact h2), Below.heap_setCell _ _ _ _ (by dsimp only; exact h2)]; exact h.keep b h1 h2 h3
  · rw [heap_set_row (heap_set_row h.row _) _, rowK_set hr]
  · rw [Below.heap_setCell _ _ _ _ (by dsimp only; omega), Below.heap_setCell _ _ _ _ (by dsimp only; omega)]; exact h.flag
theorem TbSt.setA (h : TbSt W0 W RB AB t c) (c' : Bool) : TbSt W0 (W.setCell ⟨AB, 0, none⟩ (.bool c')) RB AB t c' := by
  have hl := h.ne
  refine ⟨by simpa [World.setCell] using h.size, fun b h1 h2 h3 => ?_, h.env, ?_, ?_, hl⟩
  · rw [Below.heap_setCell _ _ _ _ (by dsimp only; exact h3)]; exact h.keep b h1 h2 h3
  · rw [Below.heap_setCell _ _ _ _ (by dsimp only; omega)]; exact h.row
  · rw [heap_set_row h.flag]; rfl
/-- A flag anew. -/
theorem TbSt.flagNew (h : TbSt W0 W RB AB t c) (hA : W0.heap.size ≤ AB) (c' : Bool) : TbSt W0 (W.alloc (.cells #[.bool c'] 4)) RB W.heap.size t c' := by
  have hz := h.size
  have hR := h.ltR
  refine ⟨by simp; omega, fun b h1 h2 h3 => ?_, h.env, ?_, heap_alloc_new _ _, by omega⟩
  · rw [Below.heap_alloc _ _ _ (by omega)]; exact h.keep b h1 h2 (by omega)
  · rw [Below.heap_alloc _ _ _ hR]; exact h.row
end

set_option maxHeartbeats 1000000 in
theorem tval_any (OB RB n cap : Nat) (t : Tb) (r : Bool) (m : Int) (W : World) (hbox : W.cell? ⟨OB, 0, none⟩ = some (.slice (some ⟨RB, 0, none⟩) n cap)) (hrow : W.heap[RB]? = some (.cells (rowK t) 109 (0, 0))) (hl : t.length = n) (_hn : n ≤ 1048576) (hm : I64 m) (hv : r = true → 0 ≤ m ∧ m < (n : Int)) :
    Calls Tryd.prog 88 #[.agg #[.bool r, .int .i64 m], .pointer (some ⟨OB, 0, none⟩)] W fun e w' => ∃ k : Kn, k = valK t ⟨r, m⟩ ∧ e = .returned (.agg #[.int .i64 (bi k.off), .int .i64 (bi k.on)]) ∧ Below W.heap.size W w' := by
  cases r with
  | true =>
    obtain ⟨h0, h1⟩ := hv rfl
    obtain ⟨q, rfl⟩ := Int.eq_ofNat_of_zero_le h0
    have hq : q < t.length := by omega
    have c0 : W.cell? ⟨RB, q * 2, none⟩ = some (.int .i64 (bi (tbAt t q).off)) := by rw [cell_row hrow]; exact (rowK_at hq).1
    have c1 : W.cell? ⟨RB, q * 2 + 1, none⟩ = some (.int .i64 (bi (tbAt t q).on)) := by rw [cell_row hrow]; exact (rowK_at hq).2
    have zR : RB < W.heap.size := cell_lt c0
    have zO : OB < W.heap.size := cell_lt hbox
    have Hk : Hid (valK t ⟨true, (q : Int)⟩ = tbAt t q) := by show _ = _; unfold valK; simp
    obtain ⟨k, hk⟩ : ∃ k, k = tbAt t q := ⟨_, rfl⟩
    rw [← hk] at c0 c1 Hk
    have hqn : q < n := by omega
    clear hv hrow hl hq hk h0 hm
    go_enter Tryd.func88, Tryd.ntmps88
    go_wp2_with fail
    refine bodyPost_ret (res_kn (s := 3) rfl rfl (c := bi k.off) (a := bi k.on) ?_ ?_) rfl ⟨k, Hk.out.symm, rfl, ?_⟩
    · simp [go_sem] <;> rfl
    · simp [go_sem] <;> rfl
    · (repeat (first | exact Below.refl _ _ | refine Below.alloc ?_ (by first | omega | (simp <;> omega)) _ | refine Below.setCell ?_ (by first | omega | (simp <;> omega)) _ | refine below_drewN ?_ _ | refine Below.drew ?_))
  | false =>
    have Hk : Hid (valK t ⟨false, m⟩ = Kn.num (bvOf m)) := by show _ = _; unfold valK; simp
    have Hm : Hid (bi (bvOf m) = m) := bi_of hm
    have zO : OB < W.heap.size := cell_lt hbox
    obtain ⟨x, hx⟩ : ∃ x, x = bvOf m := ⟨_, rfl⟩
    rw [← hx] at Hk Hm
    have e := Hm.out
    rw [← e]
    rw [← e] at Hk
    obtain ⟨k, hk⟩ : ∃ k, k = Kn.num x := ⟨_, rfl⟩
    have Hk2 := hid hk
    clear hv hrow hl hx e Hm hk
    go_enter Tryd.func88, Tryd.ntmps88
    go_wp2_with fail
    refine (number_any x _).mono ?_
    rintro e w1 ⟨rfl, hb1⟩
    have e1 : knV (Kn.num x) = .agg #[.int .i64 (bi k.off), .int .i64 (bi k.on)] := by rw [Hk2.out]; rfl
    rw [e1]
    clear e1
    have r0 : w1.cell? ⟨W.heap.size + 1, 0, none⟩ = some (.int .i64 0) := (hb1.cell (p := ⟨W.heap.size + 1, 0, none⟩) (by simp <;> omega)).trans (by simp [go_sem])
    have r1 : w1.cell? ⟨W.heap.size + 1, 1, none⟩ = some (.int .i64 0) := (hb1.cell (p := ⟨W.heap.size + 1, 1, none⟩) (by simp <;> omega)).trans (by simp [go_sem])
    have r2 : w1.frozen? ⟨W.heap.size + 1, 0, none⟩ = false := (hb1.frozen (p := ⟨W.heap.size + 1, 0, none⟩) (by simp <;> omega)).trans (by simp [go_sem])
    have r3 : w1.frozen? ⟨W.heap.size + 1, 1, none⟩ = false := (hb1.frozen (p := ⟨W.heap.size + 1, 1, none⟩) (by simp <;> omega)).trans (by simp [go_sem])
    have hbw : Below W.heap.size W w1 := by (repeat (first | exact Below.refl _ _ | exact (hb1).mono (by first | omega | (simp <;> omega) | (have hh := (hb1).size; (try simp at hh); omega) | (have hh := (hb1).size; (try simp at hh); (try simp); omega)) | refine Below.trans ?_ ((hb1).mono (by first | omega | (simp <;> omega) | (have hh := (hb1).size; (try simp at hh); omega) | (have hh := (hb1).size; (try simp at hh); (try simp); omega))) | refine Below.alloc ?_ (by first | omega | (simp <;> omega) | (have hh := (hb1).size; (try simp at hh); omega) | (have hh := (hb1).size; (try simp at hh); (try simp); omega)) _ | refine Below.setCell ?_ (by first | omega | (simp <;> omega) | (have hh := (hb1).size; (try simp at hh); omega) | (have hh := (hb1).size; (try simp at hh); (try simp); omega)) _ | refine below_drewN ?_ _ | refine Below.drew ?_))
    have Hbw := hid hbw
    clear hb1 hbw
    go_wp2_with fail
    have q := set_two (w := w1) (u := .int .i64 (bi k.off)) (v := .int .i64 (bi k.on)) r0 r1
    refine bodyPost_ret (res_kn (s := 3) rfl rfl (c := bi k.off) (a := bi k.on) q.1 q.2) rfl ⟨k, by rw [Hk2.out, Hk.out], rfl, ?_⟩
    exact (Hbw.out.setCell (by simp) _).setCell (by simp) _

end Go.Proofs.YtaehkcnankijfaaDoor

namespace Go.Proofs.YtaehkcnankijfaaDoor
open Go.RowKit

set_option maxRecDepth 100000 in
set_option maxHeartbeats 2000000 in
theorem put_any (W0 W : World) (OB RB AB n cap : Nat) (t : Tb) (c : Bool) (d : Nat) (k : Kn) (hst : TbSt W0 W RB AB t c) (hbox : W.cell? ⟨OB, 0, none⟩ = some (.slice (some ⟨RB, 0, none⟩) n cap)) (_hOR : OB ≠ RB) (_hOA : OB ≠ AB) (hl : t.length = n) (_hn : n ≤ 1048576) (hd : d < n) :
    Calls Tryd.prog 90 #[.int .i64 (d : Int), .agg #[.int .i64 (bi k.off), .int .i64 (bi k.on)], .pointer (some ⟨OB, 0, none⟩), .pointer (some ⟨AB, 0, none⟩)] W fun e W' => (∃ u, e = .returned u) ∧ TbSt W0 W' RB AB (putF t d k) (decide (k.meet (tbAt t d) ≠ tbAt t d) || c) := by
  have Hst := hid hst
  have hdt : d < t.length := by omega
  have c0 := hst.at0 hdt
  have c1 := hst.at1 hdt
  have zR : RB < W.heap.size := cell_lt c0
  have zO : OB < W.heap.size := cell_lt hbox
  have zA : AB < W.heap.size := cell_lt hst.atA
  have hRA := hst.ne
  obtain ⟨x, hx⟩ : ∃ x, x = tbAt t d := ⟨_, rfl⟩
  have Hx := hid hx
  have Hdt := hid hdt
  rw [← hx] at c0 c1
  rw [← hx]
  clear hst hx hl hdt
  go_enter Tryd.func90, Tryd.ntmps90
  go_wp2_with fail
  obtain ⟨W1, hW1⟩ : ∃ W1, W1 = W.alloc (.cells #[.int .i64 (bi k.off), .int .i64 (bi k.on)] 109) := ⟨_, rfl⟩
  have hbW : Below W.heap.size W W1 := by rw [hW1]; (repeat (first | exact Below.refl _ _ | refine Below.alloc ?_ (by first | omega | (simp <;> omega)) _ | refine Below.setCell ?_ (by first | omega | (simp <;> omega)) _ | refine below_drewN ?_ _ | refine Below.drew ?_))
  have b0 : W1.cell? ⟨W.heap.size, 0, none⟩ = some (.int .i64 (bi k.off)) := by rw [hW1]; simp
  have b1 : W1.cell? ⟨W.heap.size, 1, none⟩ = some (.int .i64 (bi k.on)) := by rw [hW1]; simp
  have e0 : W1.frozen? ⟨W.heap.size, 0, none⟩ = false := by rw [hW1]; simp
  have e1 : W1.frozen? ⟨W.heap.size, 1, none⟩ = false := by rw [hW1]; simp
  have c0 := cell_later' c0 hbW
  have c1 := cell_later' c1 hbW
  have hbox := cell_later' hbox hbW
  have i0 : (0 : Int) ≤ (d : Int) := by omega
  have i1 : (d : Int) < (n : Int) := by omega
  have HbW := hid hbW
  rw [← hW1]
  clear hW1 hbW
  go_still_tail 5, (by kernel_rfl)
  change wpList _ _ _ _ _ W1.drew
  have hb0 : Below W.heap.size W W1.drew := HbW.out.drew
  have c0 : W1.drew.cell? _ = _ := c0
  have c1 : W1.drew.cell? _ = _ := c1
  have b0 : W1.drew.cell? _ = _ := b0
  have b1 : W1.drew.cell? _ = _ := b1
  have e0 : W1.drew.frozen? _ = _ := e0
  have e1 : W1.drew.frozen? _ = _ := e1
  have hbox : W1.drew.cell? _ = _ := hbox
  generalize W1.drew = w1 at hb0 b0 b1 e0 e1 c0 c1 hbox ⊢
  go_wp2_with fail
  refine (meet_kn k x w1).mono ?_
  rintro e w2 ⟨rfl, hb2⟩
  obtain ⟨m, hm⟩ : ∃ m, m = k.meet x := ⟨_, rfl⟩
  have em : knV (k.meet x) = .agg #[.int .i64 (bi m.off), .int .i64 (bi m.on)] := by rw [hm]; rfl
  rw [em]
  have Hm := hid hm
  have zB : W.heap.size < w1.heap.size := cell_lt b0
  have b0 := cell_later' b0 hb2
  have b1 := cell_later' b1 hb2
  have e0 := (hb2.frozen (p := ⟨W.heap.size, 0, none⟩) zB).trans e0
  have e1 := (hb2.frozen (p := ⟨W.heap.size, 1, none⟩) zB).trans e1
  have hb3 := hb0.trans (hb2.mono hb0.size)
  have c0 := cell_later' c0 hb2
  have c1 := cell_later' c1 hb2
  have cb := cell_later' hbox hb2
  have Hst2 := hid (Hst.out.later hb3)
  have f0 := Hst2.out.fz (d * 2)
  have f1 := Hst2.out.fz (d * 2 + 1)
  have fA := Hst2.out.fzA 0
  have zB2 : W.heap.size < w2.heap.size := cell_lt b0
  obtain ⟨BX, hBX⟩ : ∃ BX, BX = W.heap.size := ⟨_, rfl⟩
  rw [← hBX] at b0 b1 e0 e1 zB2 ⊢
  have hBR : BX ≠ RB := by omega
  have hBA : BX ≠ AB := by omega
  have hBO : BX ≠ OB := by omega
  have HBX := hid hBX
  have Hb23 := hid hb3
  have zR' : RB < W.heap.size := zR
  have zO' : OB < W.heap.size := zO
  clear em hm hbox hb3 hb2 hb0 hBX
  go_wp2_with fail
  have hbx : CellsAt w2 BX 0 [.int .i64 (bi k.off), .int .i64 (bi k.on)] := .cons b0 (.cons b1 (.nil _ _ _))
  have h3 := set2 hbx (u0 := .int .i64 (bi m.off)) (u1 := .int .i64 (bi m.on))
  obtain ⟨w3, hw3⟩ : ∃ w3, w3 = (w2.setCell ⟨BX, 0, none⟩ (.int .i64 (bi m.off))).setCell ⟨BX, 1, none⟩ (.int .i64 (bi m.on)) := ⟨_, rfl⟩
  have hs3 : Below W.heap.size w2 w3 := by
    rw [hw3]
    exact ((Below.refl _ _).setCell (by dsimp only; exact Nat.le_of_eq HBX.out.symm) _).setCell (by dsimp only; exact Nat.le_of_eq HBX.out.symm) _
  rw [← hw3] at h3 ⊢
  obtain ⟨b0, b1⟩ := h3.get2
  rw [Nat.zero_add] at b1
  have c0 : w3.cell? ⟨RB, d * 2, none⟩ = _ := ((below_cells hs3).1 RB (d * 2) zR').trans c0
  have c1 : w3.cell? ⟨RB, d * 2 + 1, none⟩ = _ := ((below_cells hs3).1 RB (d * 2 + 1) zR').trans c1
  have cb : w3.cell? ⟨OB, 0, none⟩ = _ := ((below_cells hs3).1 OB 0 zO').trans cb
  have Hst3 : Hid (TbSt W0 w3 RB AB t c) := Hst.out.later ((Hb23.out).trans hs3)
  clear hw3 hbx h3 hs3 e0 e1 Hst2 f0 f1 fA
  have f0 := Hst3.out.fz (d * 2)
  have f1 := Hst3.out.fz (d * 2 + 1)
  have fA := Hst3.out.fzA 0
  have zB3 : BX < w3.heap.size := cell_lt b0
  have zR3 : RB < w3.heap.size := cell_lt c0
  have zA3 : AB < w3.heap.size := Hst3.out.ltA
  by_cases hmx : m = x
  · have q0 : decide (m ≠ x) = false := decide_eq_false (fun h => h hmx)
    have Hr : Hid (TbSt W0 w3 RB AB (putF t d k) c) := by
      have e : putF t d k = t := putF_same (by rw [← Hx.out, ← Hm.out]; exact hmx) Hdt.out
      show TbSt _ _ _ _ _ _
      rw [e]; exact Hst3.out
    clear hmx
    go_quiet (fail)
    go_wp2_with fail
    go_end0
    exact ⟨⟨_, rfl⟩, by rw [← Hm.out, q0, Bool.false_or]; exact (Hr.out.later (by (repeat (first | exact Below.refl _ _ | refine Below.alloc ?_ (by first | omega | (simp <;> omega)) _ | refine Below.setCell ?_ (by first | omega | (simp <;> omega)) _ | refine below_drewN ?_ _ | refine Below.drew ?_))))⟩
  · have q0 : decide (m ≠ x) = true := decide_eq_true hmx
    clear hmx
    have cA := Hst3.out.atA
    go_quiet (fail)
    go_wp2_with fail
    go_end0
    refine ⟨⟨_, rfl⟩, ?_⟩
    rw [← Hm.out, q0, Bool.true_or]
    unfold putF
    rw [← Hx.out, ← Hm.out]
    exact ((Hst3.out.later (below_drewN (Below.refl _ _) nq)).put Hdt.out m).setA true

end Go.Proofs.YtaehkcnankijfaaDoor
