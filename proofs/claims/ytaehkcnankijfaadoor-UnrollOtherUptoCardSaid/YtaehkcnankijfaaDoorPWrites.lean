/- slices.Repeat of a list of one pair of numbers (ssa.written). ssa.checker.writes: all registers that a function writes. -/
import Derived.Test.YtaehkcnankijfaaDoorPStill
import Derived.Test.YtaehkcnankijfaaDoorPWrite
import Derived.Test.YtaehkcnankijfaaDoorPVals
import Derived.Test.YtaehkcnankijfaaDoorPCopy
namespace Go.Proofs.YtaehkcnankijfaaDoor
open Go.RowKit Go.Lib

theorem infoWrR : (Tryd.prog.info? 157).map (fun i => (i.zero, i.size, i.bytes)) = some (some (.agg #[.int .i64 0, .int .i64 0]), 2, 16) := by kernel_rfl
theorem infoWrS : (Tryd.prog.info? 157).map (·.size) = some 2 := by kernel_rfl

/-- copy where an element has several cells. -/
theorem run_copy_rowN {P : Program} (w : World) (dT sT ty elem : TypeId) (sz g o dLen dCap : Nat) (a : Addr) (sLen sCap : Nat) (cur : Array Value) (t : TypeId) (cs : List Value) (n : Nat)
    (hu : P.underlying dT = some (.slice elem)) (hs : (P.info? elem).map (·.size) = some sz)
    (hg : w.heap[g]? = some (.cells cur t (0, 0))) (hn : n = Nat.min sLen dLen) (hcs : cs.length = n * sz)
    (hsrc : ∀ j v, cs[j]? = some v → w.cell? (a.add j) = some v) (hfit : o + cs.length ≤ cur.size) (h1 : ∀ v ∈ cs, v.oneCell' = true) :
    (Builtin.copy_ #[dT, sT] ty #[.slice (some ⟨g, o, none⟩) dLen dCap, .slice (some a) sLen sCap]).run P w =
      .ok (goInt n) (w.setRow g (cur.toList.take o ++ cs ++ cur.toList.drop (o + cs.length)).toArray) := by
  have hl := run_loadCells_list (P := P) w a cs hsrc
  have hst := run_storeCells_at P g o t cs 0 cur w hg (by simpa using hfit) h1
  rw [hcs] at hl
  cases hq : P.info? elem with
  | none => simp [hq] at hs
  | some i =>
    have hi : i.size = sz := by simpa [hq] using hs
    simp [Builtin.copy_, run_underlying hu, Builtin.lenOf, Builtin.firstCells, sizeOf, typeInfo, hq, hi, ← hn, hl, hst]
theorem run_copy_noneN {P : Program} (w : World) (dT sT ty elem : TypeId) (sz : Nat) (d a : Option Addr) (dLen dCap sLen sCap : Nat) (hu : P.underlying dT = some (.slice elem)) (hs : (P.info? elem).map (·.size) = some sz) (hn : Nat.min sLen dLen = 0) :
    (Builtin.copy_ #[dT, sT] ty #[.slice d dLen dCap, .slice a sLen sCap]).run P w = .ok (goInt 0) w := by
  cases hq : P.info? elem with
  | none => simp [hq] at hs
  | some i =>
    have hl : ∀ (x : Addr), (loadCells x 0).run P w = .ok #[] w := fun x => by simpa using run_loadCells_list (P := P) w x [] (by simp)
    cases d <;> cases a <;> simp [Builtin.copy_, run_underlying hu, Builtin.lenOf, Builtin.firstCells, sizeOf, typeInfo, hq, hn, storeCells, hl]
theorem wpList_copy_spliceN {P : Program} {w : World} {ops : Array Oper} {rest : List Oper} {o : Oper} {a : Act} {Q : Exit → Act → World → Prop} (hgd : o.guard = none) (d s : Operand) (dT sT : TypeId)
    (ho : o.op = .call { callee := .builtin .copy, args := #[d, s], argTypes := #[dT, sT] }) (elem : TypeId) (hu : P.underlying dT = some (.slice elem)) (sz : Nat) (hsz : (P.info? elem).map (·.size) = some sz)
    (dp sp : Option Addr) (dLen dCap sLen sCap : Nat) (hd : a.eval d = .slice dp dLen dCap) (hs : a.eval s = .slice sp sLen sCap)
    (g off : Nat) (cur : List Value) (t : TypeId) (hg : w.heap[g]? = some (.cells cur.toArray t (0, 0))) (n : Nat) (hn : n = Nat.min sLen dLen) (cs : List Value) (hcs : cs.length = n * sz)
    (hpos : 0 < n → dp = some ⟨g, off, none⟩ ∧ ∃ ad, sp = some ad ∧ ∀ j v, cs[j]? = some v → w.cell? (ad.add j) = some v)
    (hfit : off + cs.length ≤ cur.length) (h1 : ∀ v ∈ cs, v.oneCell' = true) (B : Nat) (w0 : World) (hb : Below B w0 w) (hBg : B ≤ g)
    (h : ∀ w', Hid (w'.heap[g]? = some (.cells (splice cur off cs).toArray t (0, 0))) → Below B w0 w' → wpList P ops Q rest (a.put o.dst (goInt n)) w') :
    wpList P ops Q (o :: rest) a w := by
  refine wpList_plain hgd fun K hK => ?_
  by_cases h0 : n = 0
  · subst h0
    obtain rfl : cs = [] := List.eq_nil_of_length_eq_zero (by rw [hcs, Nat.zero_mul])
    have hrun := run_copy_noneN (P := P) w dT sT o.type elem sz dp sp dLen dCap sLen sCap hu hsz hn.symm
    unfold Oper.wp
    simp [execOp, ho, resolve, invoke, builtin, hd, hs, hrun, Result.andThen]
    exact hK _ _ (h w (show _ = _ by simpa [splice] using hg) hb)
  · obtain ⟨rfl, ad, rfl, hsrc⟩ := hpos (by omega)
    have hrun := run_copy_rowN (P := P) w dT sT o.type elem sz g off dLen dCap ad sLen sCap cur.toArray t cs n hu hsz hg hn hcs hsrc (by simpa using hfit) h1
    unfold Oper.wp
    simp [execOp, ho, resolve, invoke, builtin, hd, hs, hrun, Result.andThen]
    exact hK _ _ (h _ (show _ = _ by simpa [splice] using setRow_heap w g _ _ t _ hg) (below_setRow hb hBg _))
theorem step_copy_spliceN {P : Program} {ops : Array Oper} {o : Oper} {a : Act} {w : World} {K : Act → World → Prop} {Q : Exit → Act → World → Prop} {E : Prop} (hgd : o.guard = none) (d s : Operand) (dT sT : TypeId)
    (ho : o.op = .call { callee := .builtin .copy, args := #[d, s], argTypes := #[dT, sT] }) (elem : TypeId) (hu : P.underlying dT = some (.slice elem)) (sz : Nat) (hsz : (P.info? elem).map (·.size) = some sz)
    (dp sp : Option Addr) (dLen dCap sLen sCap : Nat) (hd : a.eval d = .slice dp dLen dCap) (hs : a.eval s = .slice sp sLen sCap)
    (g off : Nat) (cur : List Value) (t : TypeId) (hg : w.heap[g]? = some (.cells cur.toArray t (0, 0))) (n : Nat) (hn : n = Nat.min sLen dLen) (cs : List Value) (hcs : cs.length = n * sz)
    (hpos : 0 < n → dp = some ⟨g, off, none⟩ ∧ ∃ ad, sp = some ad ∧ ∀ j v, cs[j]? = some v → w.cell? (ad.add j) = some v)
    (hfit : off + cs.length ≤ cur.length) (h1 : ∀ v ∈ cs, v.oneCell' = true) (B : Nat) (w0 : World) (hb : RowKit.Below B w0 w) (hBg : B ≤ g)
    (h : ∀ w', RowKit.Hid (w'.heap[g]? = some (.cells (splice cur off cs).toArray t (0, 0))) → RowKit.Below B w0 w' → K (a.put o.dst (goInt n)) w') :
    if Region.wanted o (yielded ops a.tmps) = true then Oper.wp P o a w K Q else E := by
  have hw : Region.wanted o (yielded ops a.tmps) = true := by simp [Region.wanted, hgd]
  rw [if_pos hw]
  by_cases h0 : n = 0
  · subst h0
    obtain rfl : cs = [] := List.eq_nil_of_length_eq_zero (by rw [hcs, Nat.zero_mul])
    have hrun := run_copy_noneN (P := P) w dT sT o.type elem sz dp sp dLen dCap sLen sCap hu hsz hn.symm
    unfold Oper.wp
    simp [execOp, ho, resolve, invoke, builtin, hd, hs, hrun, Result.andThen]
    exact h w (show _ = _ by simpa [splice] using hg) hb
  · obtain ⟨rfl, ad, rfl, hsrc⟩ := hpos (by omega)
    have hrun := run_copy_rowN (P := P) w dT sT o.type elem sz g off dLen dCap ad sLen sCap cur.toArray t cs n hu hsz hg hn hcs hsrc (by simpa using hfit) h1
    unfold Oper.wp
    simp [execOp, ho, resolve, invoke, builtin, hd, hs, hrun, Result.andThen]
    exact h _ (show _ = _ by simpa [splice] using setRow_heap w g _ _ t _ hg) (below_setRow hb hBg _)

/-- So many pairs. -/
def pairs (n : Nat) (x y : Value) : List Value := (List.replicate n [x, y]).flatten
theorem pairs_len (n : Nat) (x y : Value) : (pairs n x y).length = n * 2 := by
  unfold pairs
  induction n with
  | zero => rfl
  | succ n ih => rw [List.replicate_succ, List.flatten_cons, List.length_append, ih]; simp; omega
theorem pairs_add (m n : Nat) (x y : Value) : pairs (m + n) x y = pairs m x y ++ pairs n x y := by
  unfold pairs
  rw [← List.replicate_append_replicate, List.flatten_append]
theorem pairs_mem {n : Nat} {x y v : Value} (h : v ∈ pairs n x y) : v = x ∨ v = y := by
  unfold pairs at h
  obtain ⟨l, hl, hv⟩ := List.mem_flatten.1 h
  rw [List.eq_of_mem_replicate hl] at hv
  simpa using hv
theorem pairs_at {x y : Value} : ∀ {n i : Nat}, i < n → (pairs n x y)[i * 2]? = some x ∧ (pairs n x y)[i * 2 + 1]? = some y := by
  intro n
  induction n with
  | zero => intro i hi; omega
  | succ n ih =>
    intro i hi
    have e : pairs (n + 1) x y = x :: y :: pairs n x y := by unfold pairs; rw [List.replicate_succ]; rfl
    rw [e]
    cases i with
    | zero => exact ⟨rfl, rfl⟩
    | succ i =>
      rw [show (i + 1) * 2 = i * 2 + 2 by omega, show i * 2 + 2 + 1 = i * 2 + 1 + 2 by omega]
      exact ih (by omega)
theorem pairs_pre {m n : Nat} (h : m ≤ n) {x y : Value} {j : Nat} (hj : j < m * 2) : (pairs n x y)[j]? = (pairs m x y)[j]? := by
  obtain ⟨k, rfl⟩ : ∃ k, n = m + k := ⟨n - m, by omega⟩
  rw [pairs_add, List.getElem?_append_left (by rw [pairs_len]; exact hj)]
theorem splice_pairs {x y z u : Value} {m n c : Nat} (h : m + c ≤ n) : splice (pairs m x y ++ pairs (n - m) z u) (m * 2) (pairs c x y) = pairs (m + c) x y ++ pairs (n - (m + c)) z u := by
  unfold splice
  have h1 : (pairs m x y ++ pairs (n - m) z u).take (m * 2) = pairs m x y := by
    rw [List.take_append_of_le_length (by rw [pairs_len]; exact Nat.le_refl _), List.take_of_length_le (by rw [pairs_len]; exact Nat.le_refl _)]
  have h2 : (pairs m x y ++ pairs (n - m) z u).drop (m * 2 + (pairs c x y).length) = pairs (n - (m + c)) z u := by
    rw [pairs_len, show n - m = c + (n - (m + c)) by omega, pairs_add, ← List.append_assoc]
    have e : (pairs m x y ++ pairs c z u).length = m * 2 + c * 2 := by rw [List.length_append, pairs_len, pairs_len]
    rw [List.drop_append_of_le_length (by rw [e]; exact Nat.le_refl _), List.drop_of_length_le (by rw [e]; exact Nat.le_refl _)]
    rfl
  rw [h1, h2, pairs_add, List.append_assoc]
theorem madeCells_pairs (x y : Value) (n : Nat) : madeCells #[x, y] (n * 2) = (pairs n x y).toArray := by
  apply Array.ext
  · simp [madeCells, pairs_len]
  · intro i h1 h2
    rw [size_madeCells] at h1
    obtain ⟨k, hk⟩ : ∃ k, k = i / 2 := ⟨_, rfl⟩
    have hkn : k < n := by omega
    obtain ⟨p0, p1⟩ := pairs_at (x := x) (y := y) hkn
    have e : (pairs n x y).toArray[i]? = some ((pairs n x y).toArray[i]) := Array.getElem?_eq_getElem h2
    rw [List.getElem?_toArray] at e
    by_cases hm : i = k * 2
    · clear hk
      subst hm
      rw [p0] at e
      rw [← Option.some.inj e]
      simp [madeCells, Nat.mul_mod_left]
    · have hm2 : i = k * 2 + 1 := by omega
      clear hk hm
      subst hm2
      rw [p1] at e
      rw [← Option.some.inj e]
      simp [madeCells, Nat.add_mod, Nat.mul_mod_left]
/-- make of so many things of two cells. -/
theorem run_make_pairs {P : Program} (t e : TypeId) (z0 z1 : Value) (bytes : Nat) (ht : P.underlying t = some (.slice e)) (hinfo : (P.info? e).map (fun i => (i.zero, i.size, i.bytes)) = some (some (.agg #[z0, z1]), 2, bytes)) (h0 : (Value.agg #[z0, z1]).cells = #[z0, z1]) (kl kc : IntKind) (n : Nat) (hb : (bytes : Int) * n ≤ 281474976710656) (h63 : (n : Int) ≤ 9223372036854775807) (w : World) :
    (Instr.makeSlice t (.int kl (n : Int)) (.int kc (n : Int))).run P w = .ok (.slice (some ⟨w.heap.size, 0, none⟩) n n) (w.alloc (.cells (pairs n z0 z1).toArray e)) := by
  cases hq : P.info? e with
  | none => simp [hq] at hinfo
  | some i =>
    rw [hq] at hinfo
    simp only [Option.map_some, Option.some.injEq, Prod.mk.injEq] at hinfo
    obtain ⟨hz, hs, hby⟩ := hinfo
    have h := run_make (P := P) w t e i _ ht hq hz kl kc (n : Int) (n : Int) (by omega) (Int.le_refl _) (by rw [hby]; exact hb) h63
    rw [h0, hs, Int.toNat_natCast, madeCells_pairs] at h
    exact h

set_option maxRecDepth 100000 in
set_option maxHeartbeats 1000000 in
theorem repeatWritten_any (ad : Addr) (c : Nat) (x y : Int) (n : Nat) (hn : n ≤ 1048576) (w : World) (hx : w.cell? (ad.add 0) = some (.int .i64 x)) (hy : w.cell? (ad.add 1) = some (.int .i64 y)) :
    Calls Tryd.prog 94 #[.slice (some ad) 1 c, .int .i64 (n : Int)] w fun e w' =>
      ∃ g, e = .returned (.slice (some ⟨g, 0, none⟩) n n) ∧ w.heap.size ≤ g ∧ w'.heap[g]? = some (.cells (pairs n (.int .i64 x) (.int .i64 y)).toArray 157 (0, 0)) ∧ Below w.heap.size w w' := by
  have hmk := run_make_pairs (P := Tryd.prog) 154 157 (.int .i64 0) (.int .i64 0) 16 Tryd.underlying154 infoWrR rfl .i64 .i64 n (by omega) (by omega)
  have Hx := hid hx
  have Hy := hid hy
  have hwu : IntKind.u64.wrap (n : Int) = (n : Int) := by rw [IntKind.wrap_u64]; omega
  have hq1 : decide ((n : Int) < 0) = false := decide_eq_false (by omega)
  have hq2 : decide (9223372036854775807 < (n : Int)) = false := decide_eq_false (by omega)
  clear hx hy
  go_enter Tryd.func94, Tryd.ntmps94
  have hzx : (ad.add 0).block < w.heap.size := World.block_lt_of_cell? w _ Hx.out
  have hzy : (ad.add 1).block < w.heap.size := World.block_lt_of_cell? w _ Hy.out
  go_wp2_with (first
    | (go_at_call 127; (with_reducible refine (mulOne_any n hn w).mono ?_); rintro e w' ⟨rfl, rfl⟩)
    | (with_reducible refine wpList_copy_spliceN rfl (.tmp 31) (.tmp 32) 154 154 rfl 157 Tryd.underlying154 2 infoWrS _ _ n n 1 c rfl rfl w.heap.size 0 (pairs n (.int .i64 0) (.int .i64 0)) 157 ?_ (min 1 n) rfl (pairs (min 1 n) (.int .i64 x) (.int .i64 y)) (pairs_len _ _ _) ?_ ?_ ?_ w.heap.size w ?_ (Nat.le_refl _) ?_
       · exact heap_alloc_new _ _
       · intro h0
         refine ⟨rfl, ad, rfl, fun j v hj => ?_⟩
         rw [show min 1 n = 1 by omega] at hj
         match j, hj with
         | 0, hj => cases hj; exact ((Below.alloc (Below.refl w.heap.size w) (Nat.le_refl _) _).cell hzx).trans Hx.out
         | 1, hj => cases hj; exact ((Below.alloc (Below.refl w.heap.size w) (Nat.le_refl _) _).cell hzy).trans Hy.out
         | j + 2, hj => cases hj
       · rw [pairs_len, pairs_len]; omega
       · intro v hv; rcases pairs_mem hv with rfl | rfl <;> rfl
       · (repeat (first | exact Below.refl _ _ | refine Below.alloc ?_ (by first | omega | (simp <;> omega)) _ | refine Below.setCell ?_ (by first | omega | (simp <;> omega)) _ | refine below_drewN ?_ _ | refine Below.drew ?_))
       intro w2 hg2 hb2
       have Hg2 : Hid (w2.heap[w.heap.size]? = some (.cells (pairs (min 1 n) (.int .i64 x) (.int .i64 y) ++ pairs (n - min 1 n) (.int .i64 0) (.int .i64 0)).toArray 157 (0, 0))) := by
         have h := splice_pairs (x := .int .i64 x) (y := .int .i64 y) (z := .int .i64 0) (u := .int .i64 0) (m := 0) (n := n) (c := min 1 n) (by omega)
         rw [Nat.zero_mul, Nat.zero_add, Nat.sub_zero, show pairs 0 (Value.int .i64 x) (Value.int .i64 y) = [] from rfl, List.nil_append] at h
         have h2 := hg2.out
         rw [h] at h2
         exact h2
       have Hb2 := hid hb2
       clear hg2 hb2 hzx hzy))
  clear hmk
  go_loopw [8] (fun i wr => ∃ m : Nat, m ≤ n ∧ min 1 n ≤ m ∧ i = .int .i64 (m : Int) ∧ Hid (wr.heap[w.heap.size]? = some (.cells (pairs m (.int .i64 x) (.int .i64 y) ++ pairs (n - m) (.int .i64 0) (.int .i64 0)).toArray 157 (0, 0))) ∧ Hid (Below w.heap.size w wr)) (fun i _ => n - (intOf i).toNat)
  case atStart => exact ⟨min 1 n, by omega, Nat.le_refl _, by first | rfl | simp [goInt], Hg2, Hb2⟩
  case round =>
    obtain ⟨m, hm, hm1, rfl, HG, HB⟩ := hrel
    by_cases hlt : m < n
    · have hm0 : 0 < m := by omega
      have hne : ¬ n = m := by omega
      have hnm : ((n : Int) - (m : Int)).toNat = n - m := by omega
      obtain ⟨d, hd⟩ : ∃ d, d = min m (n - m) := ⟨_, rfl⟩
      have hd0 : 0 < d := by omega
      have hd1 : d ≤ n - m := by omega
      have hd2 : m + d ≤ n := by omega
      have hd3 : d ≤ m := by omega
      have Hd := hid hd
      have hwr : IntKind.i64.wrap ((m : Int) + (d : Int)) = ((m + d : Nat) : Int) := by rw [IntWalk.i64_in _ (by omega)]; simp
      clear hd
      clear hm1
      go_wp2_with fail
      go_region_law
        (refine step_copy_spliceN (by rfl) (.tmp 41) (.tmp 44) 154 154 (by rfl) 157 Tryd.underlying154 2 infoWrS (some ⟨w.heap.size, m * 2, none⟩) (some ⟨w.heap.size, 0, none⟩) (n - m) (n - m) m n ?_ ?_ w.heap.size (m * 2) (pairs m (.int .i64 x) (.int .i64 y) ++ pairs (n - m) (.int .i64 0) (.int .i64 0)) 157 HG.out d Hd.out (pairs d (.int .i64 x) (.int .i64 y)) (pairs_len _ _ _) ?_ ?_ ?_ w.heap.size w ?_ (Nat.le_refl _) ?_
         · simp [go_sem]
         · simp [go_sem]
         · intro _
           refine ⟨rfl, ⟨w.heap.size, 0, none⟩, rfl, fun j v hj => ?_⟩
           have hj1 : j < d * 2 := by
             have := (List.getElem?_eq_some_iff.1 hj).1
             rwa [pairs_len] at this
           rw [show (⟨w.heap.size, 0, none⟩ : Addr).add j = ⟨w.heap.size, j, none⟩ by unfold Addr.add; split <;> simp_all]
           refine (cell_row (w := _) HG.out).trans ?_
           rw [List.getElem?_toArray, List.getElem?_append_left (by rw [pairs_len]; omega), pairs_pre hd3 hj1]
           exact hj
         · rw [List.length_append, pairs_len, pairs_len, pairs_len]; omega
         · intro v hv; rcases pairs_mem hv with rfl | rfl <;> rfl
         · exact HB.out.drew
         intro w2 hg2 hb2
         have Hg3 : Hid (w2.heap[w.heap.size]? = some (.cells (pairs (m + d) (.int .i64 x) (.int .i64 y) ++ pairs (n - (m + d)) (.int .i64 0) (.int .i64 0)).toArray 157 (0, 0))) := by
           have h2 := hg2.out
           have h3 := splice_pairs (x := .int .i64 x) (y := .int .i64 y) (z := .int .i64 0) (u := .int .i64 0) (m := m) (n := n) (c := d) hd2
           rw [h3] at h2
           exact h2
         have Hb3 := hid hb2
         clear hg2 hb2)
      all_goals
        go_simp
        (try go_wp2_with fail)
        go_roundw
        case rel => exact ⟨m + d, hd2, by omega, by first | rfl | go_num, Hg3, Hb3⟩
        case measure => simp [intOf]; omega
    · obtain rfl : m = n := by omega
      have HG2 : Hid (wr.heap[w.heap.size]? = some (.cells (pairs m (.int .i64 x) (.int .i64 y)).toArray 157 (0, 0))) := by
        have h := HG.out
        rw [Nat.sub_self, show pairs 0 (Value.int .i64 0) (Value.int .i64 0) = [] from rfl, List.append_nil] at h
        exact h
      go_wp2_with fail
      go_ret
      exact ⟨w.heap.size, rfl, Nat.le_refl _, HG2.out, HB.out⟩

end Go.Proofs.YtaehkcnankijfaaDoor

namespace Go.Proofs.YtaehkcnankijfaaDoor
open Go.RowKit

/-- The cells of a table of places. -/
def rowP (t : List (Int × Int)) : Array Value := (t.flatMap fun p => [Value.int .i64 p.1, Value.int .i64 p.2]).toArray
theorem flat2_get : ∀ (t : List (Int × Int)) (i : Nat), (t.flatMap fun p => [Value.int .i64 p.1, Value.int .i64 p.2])[i]? = (t[i / 2]?).map fun p => if i % 2 = 0 then Value.int .i64 p.1 else Value.int .i64 p.2
  | [], i => by simp
  | p :: t, 0 => rfl
  | p :: t, 1 => rfl
  | p :: t, i + 2 => by
    have h := flat2_get t i
    rw [List.flatMap_cons, show (i + 2) / 2 = i / 2 + 1 by omega, List.getElem?_cons_succ, show (i + 2) % 2 = i % 2 by omega, ← h]
    rfl
theorem rowP_get (t : List (Int × Int)) (i : Nat) : (rowP t)[i]? = (t[i / 2]?).map fun p => if i % 2 = 0 then Value.int .i64 p.1 else Value.int .i64 p.2 := by
  unfold rowP
  rw [List.getElem?_toArray, flat2_get]
theorem rowP_at {t : List (Int × Int)} {r : Nat} (hr : r < t.length) : (rowP t)[r * 2]? = some (.int .i64 t[r].1) ∧ (rowP t)[r * 2 + 1]? = some (.int .i64 t[r].2) := by
  rw [rowP_get, rowP_get, show r * 2 / 2 = r by omega, show (r * 2 + 1) / 2 = r by omega, List.getElem?_eq_getElem hr]
  refine ⟨?_, ?_⟩
  · rw [show r * 2 % 2 = 0 by omega]; rfl
  · rw [show (r * 2 + 1) % 2 = 1 by omega]; rfl
theorem rowP_size (t : List (Int × Int)) : (rowP t).size = t.length * 2 := by
  unfold rowP
  rw [List.size_toArray]
  induction t with
  | nil => rfl
  | cons p t ih => rw [List.flatMap_cons, List.length_append, ih, List.length_cons]; simp; omega
theorem rowP_set {t : List (Int × Int)} {r : Nat} (hr : r < t.length) (b a : Int) : ((rowP t).setIfInBounds (r * 2) (.int .i64 b)).setIfInBounds (r * 2 + 1) (.int .i64 a) = rowP (t.set r (b, a)) := by
  apply Array.ext_getElem?
  intro i
  have hz := rowP_size t
  rw [Array.getElem?_setIfInBounds, Array.getElem?_setIfInBounds, rowP_get, rowP_get, List.getElem?_set]
  by_cases h1 : r * 2 + 1 = i
  · subst h1
    rw [if_pos rfl, if_pos (by simp [hz]; omega), if_pos (by omega), if_pos hr]
    rw [show (r * 2 + 1) % 2 = 1 by omega]; rfl
  · rw [if_neg h1]
    by_cases h2 : r * 2 = i
    · subst h2
      rw [if_pos rfl, if_pos (by omega), if_pos (by omega), if_pos hr]
      rw [show r * 2 % 2 = 0 by omega]; rfl
    · rw [if_neg h2, if_neg (by omega)]
theorem rowP_rep (n : Nat) (x y : Int) : rowP (List.replicate n (x, y)) = (pairs n (.int .i64 x) (.int .i64 y)).toArray := by
  unfold rowP pairs
  congr 1
  induction n with
  | zero => rfl
  | succ n ih => rw [List.replicate_succ, List.replicate_succ, List.flatMap_cons, List.flatten_cons, ih]

/-- The table of places in memory; all else is kept. -/
structure WrSt (w W : World) (RB : Nat) (t : List (Int × Int)) : Prop where
  grown : w.grownBy W (some RB)
  row : W.heap[RB]? = some (.cells (rowP t) 157 (0, 0))
section
variable {w W W' : World} {RB : Nat} {t : List (Int × Int)}
theorem WrSt.cell (h : WrSt w W RB t) {b o : Nat} {v : Value} (hc : w.cell? ⟨b, o, none⟩ = some v) (hb : b ≠ RB) : W.cell? ⟨b, o, none⟩ = some v := h.grown.cell (a := ⟨b, o, none⟩) hc (fun e => hb (Option.some.inj e))
theorem WrSt.sl {α : Type} {r : Rp α} (hr : r.Mono) {S : Nat → Prop} {sz : Nat} {v : Value} {l : List α} (h : WrSt w W RB t) (hS : ∀ b, S b → b ≠ RB) (hs : SlAt S w sz r v l) : SlAt S W sz r v l :=
  hs.mono hr (fun _ h => h) (stays_at fun b hb hl => h.grown.block b hl (fun e => hS b hb (Option.some.inj e)))
theorem WrSt.grow (h : WrSt w W RB t) (hb : Below W.heap.size W W') : WrSt w W' RB t := by
  have hR := (Array.getElem?_eq_some_iff.1 h.row).1
  exact ⟨h.grown.trans ⟨hb.os, hb.tape, hb.output, hb.size, fun b h1 _ => hb.block b h1⟩, (hb.block RB hR).trans h.row⟩
theorem WrSt.at0 (h : WrSt w W RB t) {r : Nat} (hr : r < t.length) : W.cell? ⟨RB, r * 2, none⟩ = some (.int .i64 t[r].1) := by rw [cell_row h.row]; exact (rowP_at hr).1
theorem WrSt.at1 (h : WrSt w W RB t) {r : Nat} (hr : r < t.length) : W.cell? ⟨RB, r * 2 + 1, none⟩ = some (.int .i64 t[r].2) := by rw [cell_row h.row]; exact (rowP_at hr).2
theorem WrSt.fz (h : WrSt w W RB t) (o : Nat) : W.frozen? ⟨RB, o, none⟩ = false := by simp [World.frozen?, h.row]
theorem grownBy_set (W : World) (b o : Nat) (v : Value) : W.grownBy (W.setCell ⟨b, o, none⟩ v) (some b) :=
  ⟨rfl, rfl, rfl, by simp [World.setCell], fun k _ hk => Below.heap_setCell _ _ _ _ (fun e => hk (by rw [e]))⟩
end
theorem getD_pair {t : List (Int × Int)} {r : Nat} (hr : r < t.length) : t.getD r (-1, -1) = t[r] := by rw [List.getD_eq_getElem?_getD, List.getElem?_eq_getElem hr]; rfl

/-- A write, as a step of the table. -/
theorem write_st {w W : World} {CB RB n cap : Nat} {s : WSt} (h : WrSt w W RB s.1) (hc : w.cell? ⟨CB, 5, none⟩ = some (.slice (some ⟨RB, 0, none⟩) n cap)) (hCR : CB ≠ RB) (hl : s.1.length = n) (hn : n ≤ 1048576) {r : Nat} (hr : r < n) (b a : Int) :
    Calls Tryd.prog 141 #[.pointer (some ⟨CB, 0, none⟩), .int .i64 (r : Int), .int .i64 b, .int .i64 a] W fun e W' =>
      e = .returned (.bool (!decide (0 ≤ (s.1.getD r (-1, -1)).1))) ∧ WrSt w W' RB (wrF s (r : Int) b a).1 ∧ W.grownBy W' (some RB) := by
  have hr' : r < s.1.length := by omega
  refine (write_any CB RB n cap r b a _ _ W (h.cell hc hCR) (h.at0 hr') (h.at1 hr') (h.fz _) (h.fz _) hr hn).mono ?_
  rintro e W' ⟨rfl, rfl⟩
  rw [getD_pair hr']
  refine ⟨rfl, ?_⟩
  unfold wrF
  rw [Int.toNat_natCast, getD_pair hr']
  by_cases hx : 0 ≤ s.1[r].1
  · rw [if_pos hx, if_pos hx]
    exact ⟨h, World.grownBy.refl _ _⟩
  · rw [if_neg hx, if_neg hx]
    have hg := (grownBy_set W RB (r * 2) (.int .i64 b)).trans (grownBy_set _ RB (r * 2 + 1) (.int .i64 a))
    exact ⟨⟨h.grown.trans hg, by rw [heap_set_row (heap_set_row h.row _) _, rowP_set hr']⟩, hg⟩
theorem wrF_2 (s : WSt) (r : Nat) (b a : Int) : (wrF s (r : Int) b a).2 = ((!decide (0 ≤ (s.1.getD r (-1, -1)).1)) && s.2) := by
  unfold wrF
  rw [Int.toNat_natCast]
  by_cases hx : 0 ≤ (s.1.getD r (-1, -1)).1
  · rw [if_pos hx, decide_eq_true hx]; rfl
  · rw [if_neg hx, decide_eq_false hx]; simp

set_option maxRecDepth 100000 in
set_option maxHeartbeats 4000000 in
theorem writes_any {S : Nat → Prop} (CB RB cap : Nat) (ba : Option Addr) (bc : Nat) (f : DFunc) (w : World) (hf : FnOk f) (hS : ∀ b, S b → b ≠ RB) (hb : SlAt S w 6 rBlock (.slice ba f.blocks.length bc) f.blocks)
    (c1 : w.cell? ⟨CB, 1, none⟩ = some (.int .i64 f.params)) (c3 : w.cell? ⟨CB, 3, none⟩ = some (.slice ba f.blocks.length bc)) (c5 : w.cell? ⟨CB, 5, none⟩ = some (.slice (some ⟨RB, 0, none⟩) f.regs.toNat cap)) (hCR : CB ≠ RB)
    (hrow : w.heap[RB]? = some (.cells (rowP (List.replicate f.regs.toNat (-1, -1))) 157 (0, 0))) :
    Calls Tryd.prog 96 #[.pointer (some ⟨CB, 0, none⟩)] w fun e w' => e = .returned (.bool (writesF f).2) ∧ WrSt w w' RB (writesF f).1 := by
  have Hf := hid hf
  have HS := hid hS
  have Hb := hid hb
  have C3 := hid c3
  have C5 := hid c5
  have zC : CB < w.heap.size := cell_lt c1
  obtain ⟨n, hn⟩ : ∃ n, n = f.regs.toNat := ⟨_, rfl⟩
  rw [← hn] at C5 hrow
  have hpr := hf.pr
  obtain ⟨P, hP⟩ := Int.eq_ofNat_of_zero_le hpr.1
  have hn2 : n ≤ 100 := by omega
  have hPn : P ≤ n := by omega
  rw [hP] at c1
  have Hn := hid hn
  have HP := hid hP
  have h0 : WrSt w w RB (List.replicate n (-1, -1)) := ⟨World.grownBy.refl _ _, hrow⟩
  have H0 := hid h0
  clear hf hS hb c3 c5 hn hpr hP hrow h0
  go_enter Tryd.func96, Tryd.ntmps96
  go_wp2_with fail
  go_loopw [3, 16] (fun s3 s16 wr => ∃ (k : Nat) (s : WSt), k ≤ P ∧ s3 = .bool s.2 ∧ s16 = .int .i64 k ∧ s = wrPars k (List.replicate n (-1, -1), true) ∧ WrSt w wr RB s.1) (fun _ s16 _ => P - (intOf s16).toNat)
  case atStart => exact ⟨0, (List.replicate n (-1, -1), true), Nat.zero_le _, rfl, rfl, rfl, H0.out⟩
  case round =>
    obtain ⟨k, s, hk, rfl, rfl, hs, hst⟩ := hrel
    have Hst := hid hst
    have hsl : s.1.length = n := by rw [hs, wrPars_len, List.length_replicate]
    by_cases hkP : k < P
    · have hcall := write_st hst C5.out hCR hsl (by omega) (r := k) (by omega) 0 (-1)
      have Hcall := hid hcall
      obtain ⟨q, hq⟩ : ∃ q, q = (!decide (0 ≤ (s.1.getD k (-1, -1)).1)) := ⟨_, rfl⟩
      have Hnx : Hid ((wrF s (k : Int) 0 (-1)).2 = (q && s.2)) := by show _ = _; rw [wrF_2, hq]
      have Hs : Hid (wrPars (k + 1) (List.replicate n (-1, -1), true) = wrF s (k : Int) 0 (-1)) := by show _ = _; rw [wrPars, hs]
      rw [← hq] at Hcall
      obtain ⟨s1, s2⟩ := s
      clear hst hs hsl hcall hq
      cases q with
      | true =>
        go_wp2_with (first | (go_at_call 141; refine (Hcall.out).mono ?_; rintro e w3 ⟨rfl, hst3, -⟩; have Hst3 := hid hst3; clear hst3))
        go_roundw
        case rel => exact ⟨k + 1, wrF (s1, s2) (k : Int) 0 (-1), by omega, by rw [Hnx.out]; rfl, by go_num, Hs.out.symm, Hst3.out⟩
        case measure => simp [intOf]; omega
      | false =>
        go_wp2_with (first | (go_at_call 141; refine (Hcall.out).mono ?_; rintro e w3 ⟨rfl, hst3, -⟩; have Hst3 := hid hst3; clear hst3))
        go_roundw
        case rel => exact ⟨k + 1, wrF (s1, s2) (k : Int) 0 (-1), by omega, by rw [Hnx.out]; rfl, by go_num, Hs.out.symm, Hst3.out⟩
        case measure => simp [intOf]; omega
    · have hkP' : k = P := by omega
      have Hs : Hid (wrBlocks f.blocks f.blocks.length s = writesF f) := by
        show _ = _
        unfold writesF
        rw [hs, hkP', HP.out, Int.toNat_natCast, Hn.out]
      have c3 := Hst.out.cell C3.out hCR
      have zC2 : CB < wr.heap.size := cell_lt c3
      have Hsl := hid hsl
      obtain ⟨bs, hbs⟩ : ∃ bs, bs = f.blocks := ⟨_, rfl⟩
      rw [← hbs] at Hs Hb c3
      have hbl : bs.length ≤ 40 := by rw [hbs]; exact Hf.out.len.2
      have Hbs := hid hbs
      obtain ⟨S0, hS0⟩ : ∃ S0, S0 = s := ⟨_, rfl⟩
      rw [← hS0] at Hs
      have HS0 := hid hS0
      clear hst hs hsl hkP' hS0 hbs C3
      go_wp2_with fail
      clear c3
      go_loopw [3, 32] (fun s3 s32 wr => ∃ (i : Nat) (s : WSt), i ≤ bs.length ∧ s3 = .bool s.2 ∧ s32 = .int .i64 i ∧ s = wrBlocks bs i S0 ∧ WrSt w wr RB s.1 ∧ s.1.length = n) (fun _ s32 _ => bs.length - (intOf s32).toNat)
      case atStart => exact ⟨0, s, Nat.zero_le _, rfl, rfl, HS0.out.symm, Hst.out, Hsl.out⟩
      case round =>
        clear Hst Hsl HS0
        obtain ⟨i, s, hi, rfl, rfl, hs, hst, hsl⟩ := hrel
        have Hst := hid hst
        have Hsl := hid hsl
        by_cases hib : i < bs.length
        · obtain ⟨xb, xoff, cs, rfl, hxS, hx, -, hcs⟩ := Hb.out.get hib
          obtain ⟨pa, pc, la, lc, ta, tc, rfl, hph, hli, -, hpm, hlm, -, -, -⟩ := hx.opens
          obtain ⟨d0, d1, d2, d3, d4, d5⟩ := hcs.get6
          have d0 := hst.cell d0 (HS.out _ hxS)
          have d1 := hst.cell d1 (HS.out _ hxS)
          have d2 := hst.cell d2 (HS.out _ hxS)
          have d3 := hst.cell d3 (HS.out _ hxS)
          have d4 := hst.cell d4 (HS.out _ hxS)
          have d5 := hst.cell d5 (HS.out _ hxS)
          have zx : xb < wr.heap.size := cell_lt d0
          obtain ⟨x, hxe⟩ : ∃ x, x = bs[i] := ⟨_, rfl⟩
          rw [← hxe] at hph hli hpm hlm d0 d1 d2 d3 d4 d5
          have Hph := hid hph
          have Hli := hid hli
          have hxi : f.blocks[i]? = some x := by rw [← Hbs.out, hxe, List.getElem?_eq_getElem hib]
          have Hxi := hid hxi
          have Hs : Hid (wrBlocks bs (i + 1) S0 = wrList i x.list x.list.length (wrPhis i x.phis x.phis.length s)) := by
            show _ = _
            rw [wrBlocks, ← hs, List.getD_eq_getElem?_getD, List.getElem?_eq_getElem hib, ← hxe]; rfl
          have hwl : WrSt w (wr.alloc (.cells #[.slice pa x.phis.length pc, .slice la x.list.length lc, .int .i64 x.fin.kind, .bool x.fin.on.reg, .int .i64 x.fin.on.n, .slice ta x.fin.to.length tc] 47)) RB s.1 := hst.grow (by (repeat (first | exact Below.refl _ _ | refine Below.alloc ?_ (by first | omega | (simp <;> omega)) _ | refine Below.setCell ?_ (by first | omega | (simp <;> omega)) _ | refine below_drewN ?_ _ | refine Below.drew ?_)))
          clear hst hs hsl hcs hx hph hli hxe hxi
          go_wp2_with fail
          clear d0 d1 d2 d3 d4 d5
          obtain ⟨W1, hW1⟩ : ∃ W1, W1 = wr.alloc (.cells #[.slice pa x.phis.length pc, .slice la x.list.length lc, .int .i64 x.fin.kind, .bool x.fin.on.reg, .int .i64 x.fin.on.n, .slice ta x.fin.to.length tc] 47) := ⟨_, rfl⟩
          rw [← hW1] at hwl ⊢
          have e1 : W1.cell? ⟨wr.heap.size, 1, none⟩ = some (.slice la x.list.length lc) := by rw [hW1]; simp
          have hBR : wr.heap.size ≠ RB := fun e => by
            have := (Array.getElem?_eq_some_iff.1 Hst.out.row).1
            omega
          obtain ⟨BX, hBX⟩ : ∃ BX, BX = wr.heap.size := ⟨_, rfl⟩
          rw [← hBX] at e1 hBR ⊢
          have E1 := hid e1
          have Hwl := hid hwl
          obtain ⟨s0, hs0⟩ : ∃ s0, s0 = s := ⟨_, rfl⟩
          rw [← hs0] at Hs
          have Hs0 := hid hs0
          clear hW1 e1 hwl hs0 hBX
          go_loopw [3, 40] (fun s3 s40 wi => ∃ (j : Nat) (s' : WSt), j ≤ x.phis.length ∧ s3 = .bool s'.2 ∧ s40 = .int .i64 j ∧ s' = wrPhis i x.phis j s0 ∧ WrSt w wi RB s'.1 ∧ s'.1.length = n ∧ W1.grownBy wi (some RB)) (fun _ s40 _ => x.phis.length - (intOf s40).toNat)
          case atStart => exact ⟨0, s, Nat.zero_le _, rfl, rfl, Hs0.out.symm, Hwl.out, Hsl.out, World.grownBy.refl _ _⟩
          case round =>
            clear Hst Hsl Hwl Hs0
            obtain ⟨j, s, hj, rfl, rfl, hs, hst, hsl, hgr⟩ := hrel
            have Hst := hid hst
            have Hsl := hid hsl
            have Hgr := hid hgr
            by_cases hjp : j < x.phis.length
            · obtain ⟨pb, poff, cs, rfl, hpS, hp, -, hcs⟩ := Hph.out.get hjp
              obtain ⟨fa, fc, rfl, -, -, -⟩ := hp.opens
              obtain ⟨d0, d1⟩ := hcs.get2
              have d0 := hst.cell d0 (HS.out _ hpS)
              have d1 := hst.cell d1 (HS.out _ hpS)
              have zp : pb < wr.heap.size := cell_lt d0
              obtain ⟨y, hy⟩ : ∃ y, y = x.phis[j] := ⟨_, rfl⟩
              rw [← hy] at d0 d1
              have hyd := (Hf.out.phi i x Hxi.out y (by rw [hy]; exact List.getElem_mem _)).1
              obtain ⟨q, hq⟩ := Int.eq_ofNat_of_zero_le hyd.1
              rw [hq] at d0
              have hqn : q < n := by rw [Hn.out]; omega
              have hst2 : WrSt w (wr.alloc (.cells #[.int .i64 (q : Int), .slice fa y.src.length fc] 72)) RB s.1 := hst.grow (by (repeat (first | exact Below.refl _ _ | refine Below.alloc ?_ (by first | omega | (simp <;> omega)) _ | refine Below.setCell ?_ (by first | omega | (simp <;> omega)) _ | refine below_drewN ?_ _ | refine Below.drew ?_)))
              have hgr2 : W1.grownBy (wr.alloc (.cells #[.int .i64 (q : Int), .slice fa y.src.length fc] 72)) (some RB) := hgr.trans (World.grownBy_alloc _ _ _)
              have Hgr2 := hid hgr2
              have hcall := write_st hst2 C5.out hCR hsl (by omega) hqn (i : Int) (-1)
              have Hcall := hid hcall
              obtain ⟨o, ho⟩ : ∃ o, o = (!decide (0 ≤ (s.1.getD q (-1, -1)).1)) := ⟨_, rfl⟩
              have Hnx : Hid ((wrF s (q : Int) i (-1)).2 = (o && s.2)) := by show _ = _; rw [wrF_2, ho]
              have Hs2 : Hid (wrPhis i x.phis (j + 1) s0 = wrF s (q : Int) i (-1)) := by
                show _ = _
                rw [wrPhis, ← hs, List.getD_eq_getElem?_getD, List.getElem?_eq_getElem hjp, ← hy, ← hq]; rfl
              have Hln : Hid ((wrF s (q : Int) i (-1)).1.length = n) := by show _ = _; rw [wrF_len, hsl]
              rw [← ho] at Hcall
              obtain ⟨s1, s2⟩ := s
              clear hst hs hsl hgr hcall ho hst2 hgr2 hq hy hyd hcs hp
              cases o with
              | true =>
                go_wp2_with (first | (go_at_call 141; refine (Hcall.out).mono ?_; rintro e w3 ⟨rfl, hst3, hgr3⟩; have Hst3 := hid hst3; have Hgr3 := hid hgr3; clear hst3 hgr3))
                go_roundw
                case rel => exact ⟨j + 1, wrF (s1, s2) (q : Int) i (-1), by omega, by rw [Hnx.out]; rfl, by go_num, Hs2.out.symm, Hst3.out, Hln.out, Hgr2.out.trans Hgr3.out⟩
                case measure => simp [intOf]; omega
              | false =>
                go_wp2_with (first | (go_at_call 141; refine (Hcall.out).mono ?_; rintro e w3 ⟨rfl, hst3, hgr3⟩; have Hst3 := hid hst3; have Hgr3 := hid hgr3; clear hst3 hgr3))
                go_roundw
                case rel => exact ⟨j + 1, wrF (s1, s2) (q : Int) i (-1), by omega, by rw [Hnx.out]; rfl, by go_num, Hs2.out.symm, Hst3.out, Hln.out, Hgr2.out.trans Hgr3.out⟩
                case measure => simp [intOf]; omega
            · have hjp' : j = x.phis.length := by omega
              have e1 := hgr.cell (a := ⟨BX, 1, none⟩) E1.out (fun e => hBR (Option.some.inj e))
              have zB : BX < wr.heap.size := cell_lt e1
              have Hs2 : Hid (wrBlocks bs (i + 1) S0 = wrList i x.list x.list.length s) := by show _ = _; rw [Hs.out, hs, hjp']
              obtain ⟨s0', hs0'⟩ : ∃ s0', s0' = s := ⟨_, rfl⟩
              rw [← hs0'] at Hs2
              have Hs0' := hid hs0'
              clear hst hs hsl hgr hjp' hs0'
              go_wp2_with fail
              clear e1
              go_loopw [3, 56] (fun s3 s56 wi => ∃ (j : Nat) (s' : WSt), j ≤ x.list.length ∧ s3 = .bool s'.2 ∧ s56 = .int .i64 j ∧ s' = wrList i x.list j s0' ∧ WrSt w wi RB s'.1 ∧ s'.1.length = n) (fun _ s56 _ => x.list.length - (intOf s56).toNat)
              case atStart => exact ⟨0, s, Nat.zero_le _, rfl, rfl, Hs0'.out.symm, Hst.out, Hsl.out⟩
              case round =>
                clear Hst Hsl Hs0'
                obtain ⟨j', s, hj', rfl, rfl, hs, hst, hsl⟩ := hrel
                have Hst := hid hst
                have Hsl := hid hsl
                by_cases hjl : j' < x.list.length
                · obtain ⟨pb, poff, cs, rfl, hpS, hp, -, hcs⟩ := Hli.out.get hjl
                  obtain ⟨fa, fc, rfl, -, -, -⟩ := hp.opens
                  obtain ⟨d0, d1, d2, d3, d4, d5, d6, d7⟩ := hcs.get8
                  have d0 := hst.cell d0 (HS.out _ hpS)
                  have d1 := hst.cell d1 (HS.out _ hpS)
                  have d2 := hst.cell d2 (HS.out _ hpS)
                  have d3 := hst.cell d3 (HS.out _ hpS)
                  have d4 := hst.cell d4 (HS.out _ hpS)
                  have d5 := hst.cell d5 (HS.out _ hpS)
                  have d6 := hst.cell d6 (HS.out _ hpS)
                  have d7 := hst.cell d7 (HS.out _ hpS)
                  have zp : pb < wr.heap.size := cell_lt d0
                  obtain ⟨y, hy⟩ : ∃ y, y = x.list[j'] := ⟨_, rfl⟩
                  rw [← hy] at d0 d1 d2 d3 d4 d5 d6 d7
                  have hyd := (Hf.out.ins i x Hxi.out y (by rw [hy]; exact List.getElem_mem _)).dst
                  obtain ⟨W2, hW2⟩ : ∃ W2, W2 = wr.alloc (.cells #[.int .i64 y.op, .int .i64 y.dst, .bool y.a.reg, .int .i64 y.a.n, .bool y.b.reg, .int .i64 y.b.n, .int .i64 y.fn, .slice fa y.args.length fc] 70) := ⟨_, rfl⟩
                  have hst2 : WrSt w W2 RB s.1 := by rw [hW2]; exact hst.grow (by (repeat (first | exact Below.refl _ _ | refine Below.alloc ?_ (by first | omega | (simp <;> omega)) _ | refine Below.setCell ?_ (by first | omega | (simp <;> omega)) _ | refine below_drewN ?_ _ | refine Below.drew ?_)))
                  have Hst2 := hid hst2
                  have Hs2 : Hid (wrList i x.list (j' + 1) s0' = wrOne i j' y s) := by
                    show _ = _
                    rw [wrList, ← hs, List.getD_eq_getElem?_getD, List.getElem?_eq_getElem hjl, ← hy]; rfl
                  by_cases hd0 : y.dst < 0
                  · have q1 : decide (y.dst < 0) = true := decide_eq_true hd0
                    have Hs3 : Hid (wrOne i j' y s = s) := by show _ = _; unfold wrOne; rw [if_pos hd0]
                    have hst3 := hst2
                    rw [hW2] at hst3
                    have Hst3 := hid hst3
                    obtain ⟨s1, s2⟩ := s
                    clear hst hs hsl hst2 hst3 hy hcs hp hW2 hyd
                    go_wp2_with fail
                    go_roundw
                    case rel => exact ⟨j' + 1, (s1, s2), by omega, rfl, by go_num, (Hs2.out.trans Hs3.out).symm, Hst3.out, Hsl.out⟩
                    case measure => simp [intOf]; omega
                  · have q1 : decide (y.dst < 0) = false := decide_eq_false hd0
                    obtain ⟨q, hq⟩ := Int.eq_ofNat_of_zero_le (by omega : 0 ≤ y.dst)
                    have hqn : q < n := by rw [Hn.out]; omega
                    have hcall := write_st hst2 C5.out hCR hsl (by omega) hqn (i : Int) (j' : Int)
                    rw [hW2, hq] at hcall
                    have Hcall := hid hcall
                    obtain ⟨o, ho⟩ : ∃ o, o = (!decide (0 ≤ (s.1.getD q (-1, -1)).1)) := ⟨_, rfl⟩
                    have Hnx : Hid ((wrF s (q : Int) i j').2 = (o && s.2)) := by show _ = _; rw [wrF_2, ho]
                    have Hs3 : Hid (wrOne i j' y s = wrF s (q : Int) i j') := by show _ = _; unfold wrOne; rw [if_neg hd0, hq]
                    have Hln : Hid ((wrF s (q : Int) i j').1.length = n) := by show _ = _; rw [wrF_len, hsl]
                    rw [← ho] at Hcall
                    rw [hq] at d1 q1
                    obtain ⟨s1, s2⟩ := s
                    clear hst hs hsl hcall ho hst2 hq hy hyd hcs hp hW2 hd0
                    cases o with
                    | true =>
                      go_wp2_with (first | (go_at_call 141; refine (Hcall.out).mono ?_; rintro e w3 ⟨rfl, hst3, hgr3⟩; have Hst3 := hid hst3; have Hgr3 := hid hgr3; clear hst3 hgr3))
                      go_roundw
                      case rel => exact ⟨j' + 1, wrF (s1, s2) (q : Int) i j', by omega, by rw [Hnx.out]; rfl, by go_num, (Hs2.out.trans Hs3.out).symm, Hst3.out, Hln.out⟩
                      case measure => simp [intOf]; omega
                    | false =>
                      go_wp2_with (first | (go_at_call 141; refine (Hcall.out).mono ?_; rintro e w3 ⟨rfl, hst3, hgr3⟩; have Hst3 := hid hst3; have Hgr3 := hid hgr3; clear hst3 hgr3))
                      go_roundw
                      case rel => exact ⟨j' + 1, wrF (s1, s2) (q : Int) i j', by omega, by rw [Hnx.out]; rfl, by go_num, (Hs2.out.trans Hs3.out).symm, Hst3.out, Hln.out⟩
                      case measure => simp [intOf]; omega
                · have hjl' : j' = x.list.length := by omega
                  have Hs3 : Hid (wrBlocks bs (i + 1) S0 = s) := by show _ = _; rw [Hs2.out, hs, hjl']
                  clear hst hs hsl hjl'
                  go_wp2_with fail
                  go_roundw
                  case rel => exact ⟨i + 1, s, by omega, rfl, by go_num, Hs3.out.symm, Hst.out, Hsl.out⟩
                  case measure => simp [intOf]; omega
        · have hib' : i = bs.length := by omega
          have Hfin : Hid (writesF f = s) := by show _ = _; rw [← Hs.out, hs, hib']
          clear hst hs hsl hib'
          go_wp2_with fail
          go_ret
          rw [Hfin.out]
          exact ⟨rfl, Hst.out⟩

end Go.Proofs.YtaehkcnankijfaaDoor
