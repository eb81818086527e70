/- math/bits.TrailingZeros64; bits.low. bits.makes. -/
import Derived.Test.YtaehkcnankijfaaDoorPRowB
import Derived.Shelf.Spec.TrailingZeros
namespace Go.Proofs.YtaehkcnankijfaaDoor
open Go.RowKit

/-- The table that the count of zeros looks things up in. -/
def Bruijn (w : World) : Prop := TabAt 1 Lib.deBruijn64tab w
theorem Bruijn.below {w w' : World} (h : Bruijn w) (hb : Below w.heap.size w w') : Bruijn w' := fun j hj => cell_later' (h j hj) hb

theorem tz_unique {x : BitVec 64} {k : Nat} (hk : k < 64) (h0 : ∀ i, i < k → x.getLsbD i = false) (h1 : x.getLsbD k = true) : tzF x = k := by
  obtain ⟨h2, h3, h4⟩ := tzF_spec x
  rcases Nat.lt_trichotomy (tzF x) k with h | h | h
  · rw [h0 _ h] at h4; have := h4 (by omega); cases this
  · exact h
  · rw [h3 k h] at h1; cases h1
theorem ctz_tz (x : BitVec 64) : Lib.ctz 64 x.toNat = tzF x := by
  by_cases hx : x = 0#64
  · subst hx
    have e : Lib.ctz 64 (0#64).toNat = 64 := rfl
    rw [e]
    obtain ⟨h1, -, h3⟩ := tzF_spec 0#64
    rcases Nat.lt_or_ge (tzF 0#64) 64 with h | h
    · have := h3 h; rw [BitVec.getLsbD_zero] at this; cases this
    · omega
  · have hx0 : x.toNat ≠ 0 := fun e => hx (BitVec.eq_of_toNat_eq (by rw [e]; rfl))
    have hlt : x.toNat < 2 ^ 64 := x.isLt
    obtain ⟨m, hm, hk⟩ := Lib.ctzFrom_spec 64 x.toNat (by omega) hlt
    have ec : Lib.ctz 64 x.toNat = Lib.ctzFrom 64 x.toNat := by unfold Lib.ctz; rw [if_neg hx0]
    rw [ec]
    obtain ⟨k, hke⟩ : ∃ k, k = Lib.ctzFrom 64 x.toNat := ⟨_, rfl⟩
    rw [← hke] at hm hk ⊢
    refine (tz_unique hk (fun i hi => ?_) ?_).symm
    · unfold BitVec.getLsbD
      rw [hm, Nat.testBit_two_pow_mul]
      simp; omega
    · unfold BitVec.getLsbD
      rw [hm, Nat.testBit_two_pow_mul]
      simp [Nat.testBit_zero]

set_option maxHeartbeats 1000000 in
theorem tz64_some (x k idx : Nat) (w : World) (hx0 : ((x : Int) == 0) = false)
    (key : IntKind.u64.wrap (bits BinOp.and IntKind.u64 (x : Int) (IntKind.u64.wrap (-(x : Int))) * 285870213051353865) / 288230376151711744 = (idx : Int))
    (hi : idx < 64) (hk : k < 64) (hcell : w.cell? ⟨1, idx, none⟩ = some (.int .u8 k)) :
    Calls Tryd.prog 153 #[.int .u64 x] w fun e w' => e = .returned (.int .i64 k) ∧ w' = w := by
  have hx1 : 0 < x := by simp at hx0; omega
  clear hx0
  go_enter Tryd.func153, Tryd.ntmps153
  go_wp2_with (simp only [key])
  go_ret
  exact ⟨rfl, rfl⟩
set_option maxHeartbeats 1000000 in
theorem tz64_none (w : World) : Calls Tryd.prog 153 #[.int .u64 0] w fun e w' => e = .returned (.int .i64 64) ∧ w' = w := by
  go_enter Tryd.func153, Tryd.ntmps153
  go_wp2_with fail
  go_ret
  exact ⟨rfl, rfl⟩
theorem tz64_any (x : BitVec 64) (w : World) (hB : Bruijn w) : Calls Tryd.prog 153 #[.int .u64 (x.toNat : Int)] w fun e w' => e = .returned (.int .i64 (tzF x : Nat)) ∧ w' = w := by
  rw [← ctz_tz]
  have hlt : x.toNat < 18446744073709551616 := x.isLt
  by_cases hx0 : x.toNat = 0
  · rw [hx0]; exact tz64_none w
  · obtain ⟨hlow, hk⟩ := Lib.lowest_bit 64 x.toNat hx0 hlt
    obtain ⟨hi, htab⟩ := Lib.deBruijn64_at _ hk
    have hcell := hB _ hi
    rw [htab] at hcell
    exact tz64_some x.toNat _ _ w (by simp; omega) (tz64_key x.toNat _ hlt hx0 hlow) hi hk hcell

/-- A number of 64 bits, as uint64 has it. -/
def bn (x : BitVec 64) : Nat := x.toNat
@[go_sem] theorem wrap_u64_bi (x : BitVec 64) : IntKind.u64.wrap (bi x) = (bn x : Int) := by
  unfold bi bn
  rw [BitVec.toInt_eq_toNat_bmod, IntKind.wrap_u64, Int.bmod]
  have := x.isLt
  split <;> omega
@[go_sem] theorem bits_not_bn (x : BitVec 64) : bits .xor .u64 IntKind.u64.max (bn x : Int) = (bn (~~~x) : Int) := by
  show IntKind.u64.wrap ((BitVec.ofInt 64 18446744073709551615 ^^^ BitVec.ofInt 64 (x.toNat : Int)).toNat : Int) = _
  rw [ofInt_nat, show BitVec.ofInt 64 18446744073709551615 = BitVec.allOnes 64 by decide, BitVec.allOnes_xor, IntKind.wrap_u64]
  unfold bn
  have := (~~~x).isLt
  omega

theorem tzb_any (x : BitVec 64) (w : World) (hB : Bruijn w) : Calls Tryd.prog 153 #[.int .u64 (bn x : Int)] w fun e w' => e = .returned (.int .i64 (tzF x : Nat)) ∧ w' = w := tz64_any x w hB

def rKn : Rp Kn := fun _ _ cs k => cs = [.int .i64 (bi k.off), .int .i64 (bi k.on)]
theorem rKn_mono : rKn.Mono := ⟨fun _ _ _ _ _ _ _ _ h => h⟩
def manyF (l : List Kn) : Nat := l.foldl (fun m k => min m (knownTo k)) 64

theorem manyF_take (l : List Kn) (k : Nat) (h : k < l.length) : manyF (l.take (k + 1)) = min (manyF (l.take k)) (tzF (~~~(l[k].off ||| l[k].on))) := by
  unfold manyF
  rw [List.take_succ_eq_append_getElem h, List.foldl_append]
  rfl
theorem manyF_le (l : List Kn) : manyF l ≤ 64 := by
  unfold manyF
  suffices h : ∀ (l : List Kn) m, m ≤ 64 → l.foldl (fun m k => min m (knownTo k)) m ≤ 64 from h l 64 (Nat.le_refl _)
  intro l
  induction l with
  | nil => exact fun m h => h
  | cons x t ih => exact fun m h => ih _ (by show min m (knownTo x) ≤ 64; omega)

set_option maxRecDepth 100000 in
theorem mask_le : ∀ m : Fin 65, wrap64 (IntKind.u64.wrap (IntKind.u64.wrap (2 ^ m.val) - 1)) = bi (maskF m.val) := by decide +kernel
theorem mask_key {m : Nat} (h : m ≤ 64) : wrap64 (IntKind.u64.wrap (IntKind.u64.wrap (2 ^ m) - 1)) = bi (maskF m) := mask_le ⟨m, by omega⟩

set_option maxRecDepth 100000 in
set_option maxHeartbeats 2000000 in
theorem low_any {S : Nat → Prop} (x : BitVec 64) (la : Option Addr) (n lc : Nat) (l : List Kn) (w : World) (hB : Bruijn w) (hl : SlAt S w 2 rKn (.slice la n lc) l) (hn : l.length = n) (hn2 : n ≤ 2) :
    Calls Tryd.prog 133 #[.int .i64 (bi x), .slice la n lc] w fun e w' => e = .returned (knV (lowF x (manyF l))) ∧ Below w.heap.size w w' := by
  have HB := hid hB
  have Hl := hid hl
  have Hn := hid hn
  clear hB hl hn
  go_enter Tryd.func133, Tryd.ntmps133
  go_wp2_with fail
  go_loopw [5, 11] (fun m i wr => ∃ k : Nat, k ≤ n ∧ i = .int .i64 k ∧ m = .int .i64 (manyF (l.take k) : Nat) ∧ Below (w.heap.size + 1) (w.alloc (Obj.cells #[.int .i64 0, .int .i64 0] 109)) wr)
    (fun _ i _ => n - (intOf i).toNat)
  case atStart => exact ⟨0, Nat.zero_le _, rfl, rfl, Below.refl _ _⟩
  case round =>
    obtain ⟨k, hk, rfl, rfl, hbl⟩ := hrel
    by_cases hlt : k < n
    · have hlt' : k < l.length := by have := Hn.out; omega
      have hbl2 := hid hbl
      have hn2 := ((Below.refl w.heap.size w).alloc (Nat.le_refl _) _).trans (hbl.mono (by simp))
      obtain ⟨b, off, cs, rfl, hS, hx, hcl, hcs⟩ := (Hl.out.later rKn_mono hn2).get hlt'
      obtain rfl : cs = _ := hx
      obtain ⟨c0, c1⟩ := hcs.get2
      have hB2 := hid (HB.out.below hn2)
      have hm := manyF_take l k hlt'
      have hsz := hbl.size
      simp at hsz
      clear hbl hn2 hcs hcl
      go_wp2_with (go_at_call 153; ((with_reducible refine (tzb_any _ _ (hB2.out.below (by (repeat (first | exact Below.refl _ _ | refine Below.alloc ?_ (by first | omega | (simp <;> omega)) _ | refine Below.setCell ?_ (by first | omega | (simp <;> omega)) _ | refine below_drewN ?_ _ | refine Below.drew ?_))))).mono ?_); rintro e w' ⟨rfl, rfl⟩))
      go_roundw
      case rel => exact ⟨k + 1, by omega, by go_num, by rw [hm]; go_num, by have h := hbl2.out; (repeat (first | exact Below.refl _ _ | exact (h).mono (by first | omega | (simp <;> omega) | (have hh := (h).size; (try simp at hh); omega) | (have hh := (h).size; (try simp at hh); (try simp); omega)) | refine Below.trans ?_ ((h).mono (by first | omega | (simp <;> omega) | (have hh := (h).size; (try simp at hh); omega) | (have hh := (h).size; (try simp at hh); (try simp); omega))) | refine Below.alloc ?_ (by first | omega | (simp <;> omega) | (have hh := (h).size; (try simp at hh); omega) | (have hh := (h).size; (try simp at hh); (try simp); omega)) _ | refine Below.setCell ?_ (by first | omega | (simp <;> omega) | (have hh := (h).size; (try simp at hh); omega) | (have hh := (h).size; (try simp at hh); (try simp); omega)) _ | refine below_drewN ?_ _ | refine Below.drew ?_))⟩
      case measure => simp [intOf]; omega
    · obtain rfl : k = n := by omega
      have hc0 : wr.cell? ⟨w.heap.size, 0, none⟩ = some (.int .i64 0) := ((below_cells hbl).1 _ 0 (Nat.lt_succ_self _)).trans (by simp)
      have hc1 : wr.cell? ⟨w.heap.size, 1, none⟩ = some (.int .i64 0) := ((below_cells hbl).1 _ 1 (Nat.lt_succ_self _)).trans (by simp)
      have hf0 : wr.frozen? ⟨w.heap.size, 0, none⟩ = false := ((below_cells hbl).2 _ 0 (Nat.lt_succ_self _)).trans (by simp)
      have hf1 : wr.frozen? ⟨w.heap.size, 1, none⟩ = false := ((below_cells hbl).2 _ 1 (Nat.lt_succ_self _)).trans (by simp)
      have hbl2 := hid hbl
      rw [← Hn.out, List.take_length]
      have hsz := hbl.size
      simp at hsz
      clear hbl
      obtain ⟨m, hm⟩ : ∃ m, m = manyF l := ⟨_, rfl⟩
      have hm64 : m ≤ 64 := by rw [hm]; exact manyF_le l
      have Hm := hid hm
      have Hbl := hid hbl2.out
      clear hm hbl2
      rw [← Hm.out]
      go_wp2_with fail
      rw [mask_key hm64, bits_and_bv, bits_and_bv]
      refine bodyPost_ret (res_kn (s := 4) rfl rfl (by rw [cell_set (w := wr.setCell _ _) (x := .int .i64 0) (by rw [cell_set hc0]; simpa using hc1)]; simp; rw [cell_set hc0, if_pos rfl]) (by rw [cell_set (w := wr.setCell _ _) (x := .int .i64 0) (by rw [cell_set hc0]; simpa using hc1)]; simp; rfl)) rfl ⟨by rw [Hm.out]; rfl, ?_⟩
      have h := Hbl.out
      (repeat (first | exact Below.refl _ _ | exact (h).mono (by first | omega | (simp <;> omega) | (have hh := (h).size; (try simp at hh); omega) | (have hh := (h).size; (try simp at hh); (try simp); omega)) | refine Below.trans ?_ ((h).mono (by first | omega | (simp <;> omega) | (have hh := (h).size; (try simp at hh); omega) | (have hh := (h).size; (try simp at hh); (try simp); omega))) | refine Below.alloc ?_ (by first | omega | (simp <;> omega) | (have hh := (h).size; (try simp at hh); omega) | (have hh := (h).size; (try simp at hh); (try simp); omega)) _ | refine Below.setCell ?_ (by first | omega | (simp <;> omega) | (have hh := (h).size; (try simp at hh); omega) | (have hh := (h).size; (try simp at hh); (try simp); omega)) _ | refine below_drewN ?_ _ | refine Below.drew ?_))

end Go.Proofs.YtaehkcnankijfaaDoor

namespace Go.Proofs.YtaehkcnankijfaaDoor
open Go.RowKit

set_option maxHeartbeats 1000000 in
theorem none_w (k : Kn) (w : World) :
    Calls Tryd.prog 132 #[.agg #[.int .i64 (bi k.off), .int .i64 (bi k.on)]] w fun e w' => e = .returned (.bool k.both) ∧ w' = w.alloc (.cells #[.int .i64 (bi k.off), .int .i64 (bi k.on)] 109) := by
  go_enter Tryd.func132, Tryd.ntmps132
  go_wp2_with fail
  go_ret
  refine ⟨?_, rfl⟩
  show Ending.returned (.bool (decide (bi (k.off &&& k.on) < 0) || decide (0 < bi (k.off &&& k.on)))) = _
  congr 2
  unfold Kn.both
  have h0 : bi 0#64 = 0 := rfl
  by_cases h : k.off &&& k.on = 0#64
  · rw [h, h0]; simp
  · have : bi (k.off &&& k.on) ≠ 0 := fun e => h (bi_inj (e.trans h0.symm))
    rw [decide_eq_true (p := _ ≠ _) h, Bool.or_eq_true, decide_eq_true_eq, decide_eq_true_eq]
    omega

theorem wrap64_bi (n : Int) : wrap64 n = bi (BitVec.ofInt 64 n) := by
  rw [← wrap_bi, IntKind.wrap_i64]; unfold wrap64; omega
@[go_sem] theorem add_bi (x y : BitVec 64) : wrap64 (bi x + bi y) = bi (x + y) := by
  rw [wrap64_bi]; unfold bi; rw [BitVec.ofInt_add, BitVec.ofInt_toInt, BitVec.ofInt_toInt]
@[go_sem] theorem mul_bi (x y : BitVec 64) : wrap64 (bi x * bi y) = bi (x * y) := by
  rw [wrap64_bi]; unfold bi; rw [BitVec.ofInt_mul, BitVec.ofInt_toInt, BitVec.ofInt_toInt]
@[go_sem] theorem neg_bi (x : BitVec 64) : wrap64 (-bi x) = bi (-x) := by
  rw [wrap64_bi]; unfold bi; rw [BitVec.ofInt_neg, BitVec.ofInt_toInt]
@[go_sem] theorem sub_bi (x y : BitVec 64) : wrap64 (bi x - bi y) = bi (x - y) := by
  rw [wrap64_bi]; unfold bi; rw [Int.sub_eq_add_neg, BitVec.ofInt_add, BitVec.ofInt_neg, BitVec.ofInt_toInt, BitVec.ofInt_toInt, BitVec.sub_eq_add_neg]
/-- By how much a shift shifts. -/
def shX (x : BitVec 64) : Nat := x.toNat % 64
@[go_sem] theorem sh_bi (x : BitVec 64) : bits .and .i64 (bi x) 63 = (shX x : Int) := by
  rw [show (63 : Int) = bi 63#64 from rfl, bits_and_bv]
  unfold bi shX
  have h : (x &&& 63#64).toNat = x.toNat % 64 := by
    rw [BitVec.toNat_and]
    exact Nat.and_two_pow_sub_one_eq_mod x.toNat 6
  rw [BitVec.toInt_eq_toNat_of_lt (by rw [h]; omega), h]
theorem shX_lt (x : BitVec 64) : shX x < 64 := Nat.mod_lt _ (by omega)

set_option maxRecDepth 100000 in
set_option maxHeartbeats 2000000 in
theorem makes_more (op dst na nb fn : Int) (ra rb : Bool) (v : Value) (a b : Kn) (w : World) (hop : 17 < op) :
    Calls Tryd.prog 92 #[.agg #[.int .i64 op, .int .i64 dst, .bool ra, .int .i64 na, .bool rb, .int .i64 nb, .int .i64 fn, v], .agg #[.int .i64 (bi a.off), .int .i64 (bi a.on)], .agg #[.int .i64 (bi b.off), .int .i64 (bi b.on)]] w fun e w' => e = .returned (knV (Kn.none)) ∧ Below w.heap.size w w' := by
  go_enter Tryd.func92, Tryd.ntmps92
  go_wp2_with fail
  all_goals
    refine bodyPost_ret (res_kn (s := 6) rfl rfl ?_ ?_) rfl ⟨rfl, ?_⟩
    · simp [go_sem] <;> rfl
    · simp [go_sem] <;> rfl
    · (repeat (first | exact Below.refl _ _ | refine Below.alloc ?_ (by first | omega | (simp <;> omega)) _ | refine Below.setCell ?_ (by first | omega | (simp <;> omega)) _ | refine below_drewN ?_ _ | refine Below.drew ?_))

set_option maxRecDepth 100000 in
set_option maxHeartbeats 2000000 in
theorem makes_top (op dst na nb fn : Int) (ra rb : Bool) (v : Value) (a b : Kn) (w : World) (hop : op ≤ 17) (hb : a.both = true) :
    Calls Tryd.prog 92 #[.agg #[.int .i64 op, .int .i64 dst, .bool ra, .int .i64 na, .bool rb, .int .i64 nb, .int .i64 fn, v], .agg #[.int .i64 (bi a.off), .int .i64 (bi a.on)], .agg #[.int .i64 (bi b.off), .int .i64 (bi b.on)]] w fun e w' => e = .returned (knV (Kn.top)) ∧ Below w.heap.size w w' := by
  go_enter Tryd.func92, Tryd.ntmps92
  go_wp2_with (go_at_call 132; ((with_reducible refine (none_w _ _).mono ?_); rintro e w' ⟨rfl, rfl⟩))
  all_goals
    refine bodyPost_ret (res_kn (s := 6) rfl rfl ?_ ?_) rfl ⟨rfl, ?_⟩
    · simp [go_sem] <;> rfl
    · simp [go_sem] <;> rfl
    · (repeat (first | exact Below.refl _ _ | refine Below.alloc ?_ (by first | omega | (simp <;> omega)) _ | refine Below.setCell ?_ (by first | omega | (simp <;> omega)) _ | refine below_drewN ?_ _ | refine Below.drew ?_))

set_option maxRecDepth 100000 in
set_option maxHeartbeats 2000000 in
theorem makes_top2 (op dst na nb fn : Int) (ra rb : Bool) (v : Value) (a b : Kn) (w : World) (hop : op ≤ 17) (h1 : op ≠ 1) (h2 : op ≠ 16) (h3 : op ≠ 17) (ha : a.both = false) (hb : b.both = true) :
    Calls Tryd.prog 92 #[.agg #[.int .i64 op, .int .i64 dst, .bool ra, .int .i64 na, .bool rb, .int .i64 nb, .int .i64 fn, v], .agg #[.int .i64 (bi a.off), .int .i64 (bi a.on)], .agg #[.int .i64 (bi b.off), .int .i64 (bi b.on)]] w fun e w' => e = .returned (knV (Kn.top)) ∧ Below w.heap.size w w' := by
  go_enter Tryd.func92, Tryd.ntmps92
  go_wp2_with (go_at_call 132; ((with_reducible refine (none_w _ _).mono ?_); rintro e w' ⟨rfl, rfl⟩))
  all_goals
    refine bodyPost_ret (res_kn (s := 6) rfl rfl ?_ ?_) rfl ⟨rfl, ?_⟩
    · simp [go_sem] <;> rfl
    · simp [go_sem] <;> rfl
    · (repeat (first | exact Below.refl _ _ | refine Below.alloc ?_ (by first | omega | (simp <;> omega)) _ | refine Below.setCell ?_ (by first | omega | (simp <;> omega)) _ | refine below_drewN ?_ _ | refine Below.drew ?_))

set_option maxRecDepth 100000 in
set_option maxHeartbeats 2000000 in
theorem makes_1 (dst na nb fn : Int) (ra rb : Bool) (v : Value) (a b : Kn) (w : World) (ha : a.both = false) :
    Calls Tryd.prog 92 #[.agg #[.int .i64 1, .int .i64 dst, .bool ra, .int .i64 na, .bool rb, .int .i64 nb, .int .i64 fn, v], .agg #[.int .i64 (bi a.off), .int .i64 (bi a.on)], .agg #[.int .i64 (bi b.off), .int .i64 (bi b.on)]] w fun e w' => e = .returned (knV (makeIn 1 a b)) ∧ Below w.heap.size w w' := by
  go_enter Tryd.func92, Tryd.ntmps92
  go_wp2_with (go_at_call 132; ((with_reducible refine (none_w _ _).mono ?_); rintro e w' ⟨rfl, rfl⟩))
  all_goals
    refine bodyPost_ret (res_kn (s := 6) rfl rfl ?_ ?_) rfl ⟨rfl, ?_⟩
    · simp [go_sem] <;> rfl
    · simp [go_sem] <;> rfl
    · (repeat (first | exact Below.refl _ _ | refine Below.alloc ?_ (by first | omega | (simp <;> omega)) _ | refine Below.setCell ?_ (by first | omega | (simp <;> omega)) _ | refine below_drewN ?_ _ | refine Below.drew ?_))

set_option maxRecDepth 100000 in
set_option maxHeartbeats 2000000 in
theorem makes_17 (dst na nb fn : Int) (ra rb : Bool) (v : Value) (a b : Kn) (w : World) (ha : a.both = false) :
    Calls Tryd.prog 92 #[.agg #[.int .i64 17, .int .i64 dst, .bool ra, .int .i64 na, .bool rb, .int .i64 nb, .int .i64 fn, v], .agg #[.int .i64 (bi a.off), .int .i64 (bi a.on)], .agg #[.int .i64 (bi b.off), .int .i64 (bi b.on)]] w fun e w' => e = .returned (knV (makeIn 17 a b)) ∧ Below w.heap.size w w' := by
  go_enter Tryd.func92, Tryd.ntmps92
  go_wp2_with (go_at_call 132; ((with_reducible refine (none_w _ _).mono ?_); rintro e w' ⟨rfl, rfl⟩))
  all_goals
    refine bodyPost_ret (res_kn (s := 6) rfl rfl ?_ ?_) rfl ⟨rfl, ?_⟩
    · simp [go_sem] <;> rfl
    · simp [go_sem] <;> rfl
    · (repeat (first | exact Below.refl _ _ | refine Below.alloc ?_ (by first | omega | (simp <;> omega)) _ | refine Below.setCell ?_ (by first | omega | (simp <;> omega)) _ | refine below_drewN ?_ _ | refine Below.drew ?_))

set_option maxRecDepth 100000 in
set_option maxHeartbeats 2000000 in
theorem makes_7 (dst na nb fn : Int) (ra rb : Bool) (v : Value) (a b : Kn) (w : World) (ha : a.both = false) (hb : b.both = false) :
    Calls Tryd.prog 92 #[.agg #[.int .i64 7, .int .i64 dst, .bool ra, .int .i64 na, .bool rb, .int .i64 nb, .int .i64 fn, v], .agg #[.int .i64 (bi a.off), .int .i64 (bi a.on)], .agg #[.int .i64 (bi b.off), .int .i64 (bi b.on)]] w fun e w' => e = .returned (knV (makeIn 7 a b)) ∧ Below w.heap.size w w' := by
  go_enter Tryd.func92, Tryd.ntmps92
  go_wp2_with (go_at_call 132; ((with_reducible refine (none_w _ _).mono ?_); rintro e w' ⟨rfl, rfl⟩))
  all_goals
    refine bodyPost_ret (res_kn (s := 6) rfl rfl ?_ ?_) rfl ⟨rfl, ?_⟩
    · simp [go_sem] <;> rfl
    · simp [go_sem] <;> rfl
    · (repeat (first | exact Below.refl _ _ | refine Below.alloc ?_ (by first | omega | (simp <;> omega)) _ | refine Below.setCell ?_ (by first | omega | (simp <;> omega)) _ | refine below_drewN ?_ _ | refine Below.drew ?_))

set_option maxRecDepth 100000 in
set_option maxHeartbeats 2000000 in
theorem makes_8 (dst na nb fn : Int) (ra rb : Bool) (v : Value) (a b : Kn) (w : World) (ha : a.both = false) (hb : b.both = false) :
    Calls Tryd.prog 92 #[.agg #[.int .i64 8, .int .i64 dst, .bool ra, .int .i64 na, .bool rb, .int .i64 nb, .int .i64 fn, v], .agg #[.int .i64 (bi a.off), .int .i64 (bi a.on)], .agg #[.int .i64 (bi b.off), .int .i64 (bi b.on)]] w fun e w' => e = .returned (knV (makeIn 8 a b)) ∧ Below w.heap.size w w' := by
  go_enter Tryd.func92, Tryd.ntmps92
  go_wp2_with (go_at_call 132; ((with_reducible refine (none_w _ _).mono ?_); rintro e w' ⟨rfl, rfl⟩))
  all_goals
    refine bodyPost_ret (res_kn (s := 6) rfl rfl ?_ ?_) rfl ⟨rfl, ?_⟩
    · simp [go_sem] <;> rfl
    · simp [go_sem] <;> rfl
    · (repeat (first | exact Below.refl _ _ | refine Below.alloc ?_ (by first | omega | (simp <;> omega)) _ | refine Below.setCell ?_ (by first | omega | (simp <;> omega)) _ | refine below_drewN ?_ _ | refine Below.drew ?_))

set_option maxRecDepth 100000 in
set_option maxHeartbeats 2000000 in
theorem makes_9 (dst na nb fn : Int) (ra rb : Bool) (v : Value) (a b : Kn) (w : World) (ha : a.both = false) (hb : b.both = false) :
    Calls Tryd.prog 92 #[.agg #[.int .i64 9, .int .i64 dst, .bool ra, .int .i64 na, .bool rb, .int .i64 nb, .int .i64 fn, v], .agg #[.int .i64 (bi a.off), .int .i64 (bi a.on)], .agg #[.int .i64 (bi b.off), .int .i64 (bi b.on)]] w fun e w' => e = .returned (knV (makeIn 9 a b)) ∧ Below w.heap.size w w' := by
  go_enter Tryd.func92, Tryd.ntmps92
  go_wp2_with (go_at_call 132; ((with_reducible refine (none_w _ _).mono ?_); rintro e w' ⟨rfl, rfl⟩))
  all_goals
    refine bodyPost_ret (res_kn (s := 6) rfl rfl ?_ ?_) rfl ⟨rfl, ?_⟩
    · simp [go_sem] <;> rfl
    · simp [go_sem] <;> rfl
    · (repeat (first | exact Below.refl _ _ | refine Below.alloc ?_ (by first | omega | (simp <;> omega)) _ | refine Below.setCell ?_ (by first | omega | (simp <;> omega)) _ | refine below_drewN ?_ _ | refine Below.drew ?_))

set_option maxRecDepth 100000 in
set_option maxHeartbeats 2000000 in
theorem makes_12 (dst na nb fn : Int) (ra rb : Bool) (v : Value) (a b : Kn) (w : World) (ha : a.both = false) (hb : b.both = false) :
    Calls Tryd.prog 92 #[.agg #[.int .i64 12, .int .i64 dst, .bool ra, .int .i64 na, .bool rb, .int .i64 nb, .int .i64 fn, v], .agg #[.int .i64 (bi a.off), .int .i64 (bi a.on)], .agg #[.int .i64 (bi b.off), .int .i64 (bi b.on)]] w fun e w' => e = .returned (knV (makeIn 12 a b)) ∧ Below w.heap.size w w' := by
  go_enter Tryd.func92, Tryd.ntmps92
  go_wp2_with (go_at_call 132; ((with_reducible refine (none_w _ _).mono ?_); rintro e w' ⟨rfl, rfl⟩))
  all_goals
    refine bodyPost_ret (res_kn (s := 6) rfl rfl ?_ ?_) rfl ⟨rfl, ?_⟩
    · simp [go_sem] <;> rfl
    · simp [go_sem] <;> rfl
    · (repeat (first | exact Below.refl _ _ | refine Below.alloc ?_ (by first | omega | (simp <;> omega)) _ | refine Below.setCell ?_ (by first | omega | (simp <;> omega)) _ | refine below_drewN ?_ _ | refine Below.drew ?_))

set_option maxRecDepth 100000 in
set_option maxHeartbeats 2000000 in
theorem makes_13 (dst na nb fn : Int) (ra rb : Bool) (v : Value) (a b : Kn) (w : World) (ha : a.both = false) (hb : b.both = false) :
    Calls Tryd.prog 92 #[.agg #[.int .i64 13, .int .i64 dst, .bool ra, .int .i64 na, .bool rb, .int .i64 nb, .int .i64 fn, v], .agg #[.int .i64 (bi a.off), .int .i64 (bi a.on)], .agg #[.int .i64 (bi b.off), .int .i64 (bi b.on)]] w fun e w' => e = .returned (knV (makeIn 13 a b)) ∧ Below w.heap.size w w' := by
  go_enter Tryd.func92, Tryd.ntmps92
  go_wp2_with (go_at_call 132; ((with_reducible refine (none_w _ _).mono ?_); rintro e w' ⟨rfl, rfl⟩))
  all_goals
    refine bodyPost_ret (res_kn (s := 6) rfl rfl ?_ ?_) rfl ⟨rfl, ?_⟩
    · simp [go_sem] <;> rfl
    · simp [go_sem] <;> rfl
    · (repeat (first | exact Below.refl _ _ | refine Below.alloc ?_ (by first | omega | (simp <;> omega)) _ | refine Below.setCell ?_ (by first | omega | (simp <;> omega)) _ | refine below_drewN ?_ _ | refine Below.drew ?_))

set_option maxRecDepth 100000 in
set_option maxHeartbeats 2000000 in
theorem makes_14 (dst na nb fn : Int) (ra rb : Bool) (v : Value) (a b : Kn) (w : World) (ha : a.both = false) (hb : b.both = false) :
    Calls Tryd.prog 92 #[.agg #[.int .i64 14, .int .i64 dst, .bool ra, .int .i64 na, .bool rb, .int .i64 nb, .int .i64 fn, v], .agg #[.int .i64 (bi a.off), .int .i64 (bi a.on)], .agg #[.int .i64 (bi b.off), .int .i64 (bi b.on)]] w fun e w' => e = .returned (knV (makeIn 14 a b)) ∧ Below w.heap.size w w' := by
  go_enter Tryd.func92, Tryd.ntmps92
  go_wp2_with (go_at_call 132; ((with_reducible refine (none_w _ _).mono ?_); rintro e w' ⟨rfl, rfl⟩))
  all_goals
    refine bodyPost_ret (res_kn (s := 6) rfl rfl ?_ ?_) rfl ⟨rfl, ?_⟩
    · simp [go_sem] <;> rfl
    · simp [go_sem] <;> rfl
    · (repeat (first | exact Below.refl _ _ | refine Below.alloc ?_ (by first | omega | (simp <;> omega)) _ | refine Below.setCell ?_ (by first | omega | (simp <;> omega)) _ | refine below_drewN ?_ _ | refine Below.drew ?_))

set_option maxRecDepth 100000 in
set_option maxHeartbeats 2000000 in
theorem makes_15 (dst na nb fn : Int) (ra rb : Bool) (v : Value) (a b : Kn) (w : World) (ha : a.both = false) (hb : b.both = false) :
    Calls Tryd.prog 92 #[.agg #[.int .i64 15, .int .i64 dst, .bool ra, .int .i64 na, .bool rb, .int .i64 nb, .int .i64 fn, v], .agg #[.int .i64 (bi a.off), .int .i64 (bi a.on)], .agg #[.int .i64 (bi b.off), .int .i64 (bi b.on)]] w fun e w' => e = .returned (knV (makeIn 15 a b)) ∧ Below w.heap.size w w' := by
  go_enter Tryd.func92, Tryd.ntmps92
  go_wp2_with (go_at_call 132; ((with_reducible refine (none_w _ _).mono ?_); rintro e w' ⟨rfl, rfl⟩))
  all_goals
    refine bodyPost_ret (res_kn (s := 6) rfl rfl ?_ ?_) rfl ⟨rfl, ?_⟩
    · simp [go_sem] <;> rfl
    · simp [go_sem] <;> rfl
    · (repeat (first | exact Below.refl _ _ | refine Below.alloc ?_ (by first | omega | (simp <;> omega)) _ | refine Below.setCell ?_ (by first | omega | (simp <;> omega)) _ | refine below_drewN ?_ _ | refine Below.drew ?_))

set_option maxRecDepth 100000 in
set_option maxHeartbeats 2000000 in
theorem makes_5 (dst na nb fn : Int) (ra rb : Bool) (v : Value) (a b : Kn) (w : World) (ha : a.both = false) (hb : b.both = false) :
    Calls Tryd.prog 92 #[.agg #[.int .i64 5, .int .i64 dst, .bool ra, .int .i64 na, .bool rb, .int .i64 nb, .int .i64 fn, v], .agg #[.int .i64 (bi a.off), .int .i64 (bi a.on)], .agg #[.int .i64 (bi b.off), .int .i64 (bi b.on)]] w fun e w' => e = .returned (knV (makeIn 5 a b)) ∧ Below w.heap.size w w' := by
  go_enter Tryd.func92, Tryd.ntmps92
  go_wp2_with (go_at_call 132; ((with_reducible refine (none_w _ _).mono ?_); rintro e w' ⟨rfl, rfl⟩))
  all_goals
    refine bodyPost_ret (res_kn (s := 6) rfl rfl ?_ ?_) rfl ⟨rfl, ?_⟩
    · simp [go_sem] <;> rfl
    · simp [go_sem] <;> rfl
    · (repeat (first | exact Below.refl _ _ | refine Below.alloc ?_ (by first | omega | (simp <;> omega)) _ | refine Below.setCell ?_ (by first | omega | (simp <;> omega)) _ | refine below_drewN ?_ _ | refine Below.drew ?_))

set_option maxRecDepth 100000 in
set_option maxHeartbeats 2000000 in
theorem makes_6 (dst na nb fn : Int) (ra rb : Bool) (v : Value) (a b : Kn) (w : World) (ha : a.both = false) (hb : b.both = false) :
    Calls Tryd.prog 92 #[.agg #[.int .i64 6, .int .i64 dst, .bool ra, .int .i64 na, .bool rb, .int .i64 nb, .int .i64 fn, v], .agg #[.int .i64 (bi a.off), .int .i64 (bi a.on)], .agg #[.int .i64 (bi b.off), .int .i64 (bi b.on)]] w fun e w' => e = .returned (knV (makeIn 6 a b)) ∧ Below w.heap.size w w' := by
  go_enter Tryd.func92, Tryd.ntmps92
  go_wp2_with (go_at_call 132; ((with_reducible refine (none_w _ _).mono ?_); rintro e w' ⟨rfl, rfl⟩))
  all_goals
    refine bodyPost_ret (res_kn (s := 6) rfl rfl ?_ ?_) rfl ⟨rfl, ?_⟩
    · simp [go_sem] <;> rfl
    · simp [go_sem] <;> rfl
    · (repeat (first | exact Below.refl _ _ | refine Below.alloc ?_ (by first | omega | (simp <;> omega)) _ | refine Below.setCell ?_ (by first | omega | (simp <;> omega)) _ | refine below_drewN ?_ _ | refine Below.drew ?_))

set_option maxRecDepth 100000 in
set_option maxHeartbeats 2000000 in
theorem makes_0 (op dst na nb fn : Int) (ra rb : Bool) (v : Value) (a b : Kn) (w : World) (hop : op ≤ 0) (ha : a.both = false) (hb : b.both = false) :
    Calls Tryd.prog 92 #[.agg #[.int .i64 op, .int .i64 dst, .bool ra, .int .i64 na, .bool rb, .int .i64 nb, .int .i64 fn, v], .agg #[.int .i64 (bi a.off), .int .i64 (bi a.on)], .agg #[.int .i64 (bi b.off), .int .i64 (bi b.on)]] w fun e w' => e = .returned (knV (Kn.none)) ∧ Below w.heap.size w w' := by
  go_enter Tryd.func92, Tryd.ntmps92
  go_wp2_with (go_at_call 132; ((with_reducible refine (none_w _ _).mono ?_); rintro e w' ⟨rfl, rfl⟩))
  all_goals
    refine bodyPost_ret (res_kn (s := 6) rfl rfl ?_ ?_) rfl ⟨rfl, ?_⟩
    · simp [go_sem] <;> rfl
    · simp [go_sem] <;> rfl
    · (repeat (first | exact Below.refl _ _ | refine Below.alloc ?_ (by first | omega | (simp <;> omega)) _ | refine Below.setCell ?_ (by first | omega | (simp <;> omega)) _ | refine below_drewN ?_ _ | refine Below.drew ?_))


end Go.Proofs.YtaehkcnankijfaaDoor
