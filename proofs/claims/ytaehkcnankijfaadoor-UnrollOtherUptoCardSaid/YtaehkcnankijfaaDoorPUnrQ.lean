/- How many rounds a loop of one block takes, in plain Lean; and that in static single assignment the merges of a block write different registers. No program in sight. slices.Index and slices.Contains of ints; a map from registers to numbers in memory; the value of unroll.rounds. Two rows of the call's own that tell what is known of registers: their numbers, and whether they are known. -/
import Derived.Test.YtaehkcnankijfaaDoorPTwo
import Derived.Test.YtaehkcnankijfaaDoorPRefA
import Derived.Maps.OwnSet
import Derived.Maps.OwnOps
import Derived.Test.YtaehkcnankijfaaDoorPCopy
import Derived.Test.YtaehkcnankijfaaDoorPTurnT
import Derived.Test.YtaehkcnankijfaaDoorPStill
import Derived.Test.YtaehkcnankijfaaDoorPLay
namespace Go.Proofs.YtaehkcnankijfaaDoor

/-- What is known of registers. -/
abbrev Km := Nat → Option (BitVec 64)
def valM' (m : Km) (v : DVal) : Option (BitVec 64) := if v.reg = true then m v.n.toNat else some (bvOf v.n)
def putM (m : Km) (d : Nat) (x : BitVec 64) : Km := fun r => if r = d then some x else m r
def noKm : Km := fun _ => none
/-- A merge, seen from one side. -/
def phiStep (k : Nat) (m nx : Km) (p : DPhi) : Km := match valM' m (p.src.getD k ⟨false, 0⟩) with | some x => putM nx p.dst.toNat x | none => nx
def phiM (k : Nat) (m : Km) (l : List DPhi) : Km := l.foldl (phiStep k m) noKm
def twoM (op : Int) : Option (BitVec 64) → Option (BitVec 64) → Option (BitVec 64)
  | some a, some b => twoF op a b
  | _, _ => none
def insStep (m : Km) (y : DIns) : Km := if 17 < y.op then m else match twoM y.op (valM' m y.a) (valM' m y.b) with | some v => putM m y.dst.toNat v | none => m
def insM (m : Km) (l : List DIns) : Km := l.foldl insStep m
def kmNext (x : DBlock) (k : Nat) (m : Km) : Km := insM (phiM k m x.phis) x.list
/-- Where the end goes on, the number being known. -/
def goTo (x : DBlock) (on : BitVec 64) : Int := if bi on = 0 then x.fin.to.getD 1 0 else x.fin.to.getD 0 0
def rndF (x : DBlock) (b : Int) (back : Nat) : Nat → Nat → Nat → Km → Int
  | 0, _, _, _ => 0
  | f + 1, n, k, m =>
    match valM' (kmNext x k m) x.fin.on with
    | none => 0
    | some on => if goTo x on ≠ b then (n : Int) else rndF x b back f (n + 1) back (kmNext x k m)
/-- How many rounds a loop of one block takes; 0: that is not known, or too many. -/
def roundsF (x : DBlock) (b : Int) (before : Nat) : Int := rndF x b (1 - before) 8 1 before noKm
/-- Which source of the merges is the one from without. -/
def selfF (bs : List DBlock) (b : Nat) : Option Nat :=
  match bs[b]? with
  | none => none
  | some x => if x.fin.kind = 3 ∧ (x.fin.to.getD 0 0 = (b : Int) ∨ x.fin.to.getD 1 0 = (b : Int)) ∧ (predsOf bs 0 b).length = 2 then some (if (predsOf bs 0 b).getD 0 0 = (b : Int) then 1 else 0) else none
def unrF (bs : List DBlock) (b : Nat) : Int := match bs[b]?, selfF bs b with
  | some x, some k => roundsF x (b : Int) k
  | _, _ => 0

theorem rndF_range (x : DBlock) (b : Int) (back : Nat) : ∀ (f n k : Nat) (m : Km), 0 ≤ rndF x b back f n k m ∧ rndF x b back f n k m ≤ (n : Int) + f - 1 ∨ rndF x b back f n k m = 0
  | 0, n, k, m => .inr rfl
  | f + 1, n, k, m => by
    rw [rndF]
    cases valM' (kmNext x k m) x.fin.on with
    | none => exact .inr rfl
    | some on =>
      dsimp only
      by_cases h : goTo x on ≠ b
      · rw [if_pos h]; exact .inl (by omega)
      · rw [if_neg h]
        rcases rndF_range x b back f (n + 1) back (kmNext x k m) with h1 | h1
        · exact .inl (by omega)
        · exact .inr h1
theorem roundsF_range (x : DBlock) (b : Int) (k : Nat) : 0 ≤ roundsF x b k ∧ roundsF x b k ≤ 8 := by
  unfold roundsF
  rcases rndF_range x b (1 - k) 8 1 k noKm with h | h <;> omega
theorem unrF_range (bs : List DBlock) (b : Nat) : 0 ≤ unrF bs b ∧ unrF bs b ≤ 8 := by
  unfold unrF
  split
  · exact roundsF_range _ _ _
  · omega
theorem selfF_lt {bs : List DBlock} {b k : Nat} (h : selfF bs b = some k) : k < 2 := by
  unfold selfF at h
  split at h
  · cases h
  · split at h
    · injection h with h
      split at h <;> omega
    · cases h

theorem phiM_step {k : Nat} {m : Km} {l : List DPhi} {j : Nat} (h : j < l.length) : phiM k m (l.take (j + 1)) = phiStep k m (phiM k m (l.take j)) l[j] := by
  unfold phiM
  rw [List.take_succ_eq_append_getElem h, List.foldl_append]; rfl
theorem insM_step {m : Km} {l : List DIns} {j : Nat} (h : j < l.length) : insM m (l.take (j + 1)) = insStep (insM m (l.take j)) l[j] := by
  unfold insM
  rw [List.take_succ_eq_append_getElem h, List.foldl_append]; rfl

/- The merges of a block write different registers. -/
theorem wrF_true {s : WSt} {r b a : Int} (h : (wrF s r b a).2 = true) : s.2 = true ∧ (s.1.getD r.toNat (-1, -1)).1 < 0 := by
  unfold wrF at h
  by_cases hc : 0 ≤ (s.1.getD r.toNat (-1, -1)).1
  · rw [if_pos hc] at h; cases h
  · rw [if_neg hc] at h; exact ⟨h, by omega⟩
theorem wrF_at {s : WSt} {r b a : Int} {q : Nat} (hq : q < s.1.length) (hb : 0 ≤ b) : (0 ≤ (s.1.getD q (-1, -1)).1 → 0 ≤ ((wrF s r b a).1.getD q (-1, -1)).1) ∧ (r.toNat = q → 0 ≤ ((wrF s r b a).1.getD q (-1, -1)).1) := by
  unfold wrF
  by_cases hc : 0 ≤ (s.1.getD r.toNat (-1, -1)).1
  · rw [if_pos hc]
    exact ⟨id, fun h => by rw [← h]; exact hc⟩
  · rw [if_neg hc]
    dsimp only
    rw [List.getD_eq_getElem?_getD, List.getD_eq_getElem?_getD, List.getElem?_set]
    by_cases h : r.toNat = q
    · rw [if_pos h, if_pos (by omega)]
      exact ⟨fun _ => hb, fun _ => hb⟩
    · rw [if_neg h]; exact ⟨id, fun e => absurd e h⟩
theorem wrPhis_true {i : Nat} {l : List DPhi} {s : WSt} : ∀ {k : Nat}, (wrPhis i l k s).2 = true → ∀ j, j ≤ k → (wrPhis i l j s).2 = true
  | 0, h, j, hj => by rw [show j = 0 by omega]; exact h
  | k + 1, h, j, hj => by
    by_cases e : j = k + 1
    · rw [e]; exact h
    · exact wrPhis_true (wrF_true (by rw [wrPhis] at h; exact h)).1 j (by omega)
theorem wrPhis_had {i : Nat} {l : List DPhi} {s : WSt} (hl : ∀ p ∈ l, p.dst.toNat < s.1.length) : ∀ (k : Nat), k ≤ l.length → ∀ j, j < k → 0 ≤ ((wrPhis i l k s).1.getD (l.getD j noPhi).dst.toNat (-1, -1)).1
  | 0, _, j, hj => by omega
  | k + 1, hk, j, hj => by
    have hm : l.getD j noPhi ∈ l := by
      rw [List.getD_eq_getElem?_getD, List.getElem?_eq_getElem (by omega)]; exact List.getElem_mem _
    have hlen : (l.getD j noPhi).dst.toNat < (wrPhis i l k s).1.length := by rw [wrPhis_len]; exact hl _ hm
    rw [wrPhis]
    have h := wrF_at (s := wrPhis i l k s) (r := (l.getD k noPhi).dst) (b := (i : Int)) (a := -1) hlen (by omega)
    by_cases e : j = k
    · subst e; exact h.2 rfl
    · exact h.1 (wrPhis_had hl k (by omega) j (by omega))
theorem phis_apart {i : Nat} {l : List DPhi} {s : WSt} (hl : ∀ p ∈ l, p.dst.toNat < s.1.length) (h : (wrPhis i l l.length s).2 = true) {j k : Nat} (hj : j < k) (hk : k < l.length) : (l.getD j noPhi).dst.toNat ≠ (l.getD k noPhi).dst.toNat := by
  have h1 := wrPhis_true h (k + 1) (by omega)
  rw [wrPhis] at h1
  have h2 := (wrF_true h1).2
  have h3 := wrPhis_had hl k (by omega) j hj (i := i) (s := s)
  intro e
  rw [e] at h3
  omega
theorem wrList_true {i : Nat} {l : List DIns} {s : WSt} : ∀ {k : Nat}, (wrList i l k s).2 = true → s.2 = true
  | 0, h => h
  | k + 1, h => by
    rw [wrList, wrOne] at h
    by_cases hc : (l.getD k noIns).dst < 0
    · rw [if_pos hc] at h; exact wrList_true h
    · rw [if_neg hc] at h; exact wrList_true (wrF_true h).1
theorem wrBlocks_true {bs : List DBlock} {s : WSt} : ∀ {k : Nat}, (wrBlocks bs k s).2 = true → ∀ j, j ≤ k → (wrBlocks bs j s).2 = true
  | 0, h, j, hj => by rw [show j = 0 by omega]; exact h
  | k + 1, h, j, hj => by
    by_cases e : j = k + 1
    · rw [e]; exact h
    · have h0 : (wrBlocks bs (k + 1) s).2 = true := h
      rw [wrBlocks, wrBlock] at h0
      exact wrBlocks_true (wrPhis_true (wrList_true h0) 0 (Nat.zero_le _)) j (by omega)
/-- In static single assignment the merges of a block write different registers. -/
theorem ssa_phis {f : DFunc} (hf : FnOk f) (hs : ssaOf f = 0) {b : Nat} {x : DBlock} (hx : f.blocks[b]? = some x) {j k : Nat} (hj : j < k) (hk : k < x.phis.length) : (x.phis.getD j noPhi).dst.toNat ≠ (x.phis.getD k noPhi).dst.toNat := by
  have hb := (List.getElem?_eq_some_iff.1 hx).1
  unfold ssaOf at hs
  by_cases c1 : (postF f.blocks).length < f.blocks.length
  · rw [if_pos c1] at hs; omega
  rw [if_neg c1] at hs
  by_cases c2 : (writesF f).2 = false
  · rw [if_pos c2] at hs; omega
  have c2 : (writesF f).2 = true := by simpa using c2
  unfold writesF at c2
  have h1 := wrBlocks_true c2 (b + 1) (by omega)
  have hg : f.blocks.getD b noBlock = x := by rw [List.getD_eq_getElem?_getD, hx]; rfl
  rw [wrBlocks, wrBlock, hg] at h1
  have h2 := wrList_true h1
  refine phis_apart (fun p hp => ?_) h2 hj hk
  have hd := (hf.phi b x hx p hp).1
  have hl : (wrBlocks f.blocks b (wrPars f.params.toNat (List.replicate f.regs.toNat (-1, -1), true))).1.length = f.regs.toNat := by
    rw [wrBlocks_len, wrPars_len, List.length_replicate]
  rw [hl]
  omega

end Go.Proofs.YtaehkcnankijfaaDoor

namespace Go.Proofs.YtaehkcnankijfaaDoor
open Go.RowKit Go.Maps

def idxInt (l : List Int) (s : Int) : Int := match l.findIdx? (fun x => decide (s = x)) with | some k => k | none => -1
def hasInt (l : List Int) (s : Int) : Bool := decide (0 ≤ idxInt l s)
set_option maxHeartbeats 1000000 in
theorem indexInt_any {S : Nat → Prop} (ao : Option Addr) (n c : Nat) (l : List Int) (s : Int) (w : World) (h : SlAt S w 1 rInt (.slice ao n c) l) (hn : l.length = n) (hn2 : n ≤ 1048576) :
    Calls Tryd.prog 105 #[.slice ao n c, .int .i64 s] w fun e w' => e = .returned (.int .i64 (idxInt l s)) ∧ w = w' := by
  have Hh := hid h
  have Hn := hid hn
  clear h hn
  go_enter Tryd.func105, Tryd.ntmps105
  go_wp2_with fail
  go_loop [8] (fun i => ∃ k : Nat, k ≤ n ∧ i = .int .i64 k ∧ ∀ j, j < k → ∀ x, l[j]? = some x → decide (s = x) = false) (fun i => n - (intOf i).toNat)
  case atStart => exact ⟨0, Nat.zero_le _, rfl, fun j hj => by omega⟩
  case round =>
    obtain ⟨k, hk, rfl, hall⟩ := hrel
    have H := hid hall
    clear hall
    by_cases hlt : k < n
    · have hlt' : k < l.length := by rw [Hn.out]; exact hlt
      obtain ⟨b, off, rfl, hcell⟩ := int_at Hh.out hlt'
      obtain ⟨x, hx⟩ : ∃ x, l[k] = x := ⟨_, rfl⟩
      rw [hx] at hcell
      have Hx : Hid (l[k]? = some x) := by show _ = _; rw [List.getElem?_eq_getElem hlt', hx]
      have zb : b < w.heap.size := cell_lt hcell
      clear hx hlt'
      by_cases he : s = x
      · have Hi : Hid (idxInt l s = k) := by show _ = _; unfold idxInt; rw [idx_some Hx.out (decide_eq_true he) H.out]
        have q0 : (decide (s ≤ x) && decide (x ≤ s)) = true := eq_yes he
        clear he
        go_wp2_with fail
        go_ret
        exact ⟨ret_int Hi.out.symm, rfl⟩
      · have He : Hid (decide (s = x) = false) := decide_eq_false he
        have q0 : (decide (s ≤ x) && decide (x ≤ s)) = false := eq_no he
        clear he
        go_wp2_with fail
        go_round
        case rel => exact ⟨k + 1, by omega, by go_num, ext_lt H.out (fun y hy => by rw [Hx.out] at hy; cases hy; exact He.out)⟩
        case measure => simp [intOf]; omega
    · have Hi : Hid (idxInt l s = -1) := by
        show _ = _
        unfold idxInt
        rw [idx_none (fun j x hx => H.out j (by have := (List.getElem?_eq_some_iff.1 hx).1; have := Hn.out; omega) x hx)]
      go_wp2_with fail
      go_ret
      exact ⟨ret_int Hi.out.symm, rfl⟩
set_option maxHeartbeats 1000000 in
theorem containsInt_any {S : Nat → Prop} (ao : Option Addr) (n c : Nat) (l : List Int) (s : Int) (w : World) (h : SlAt S w 1 rInt (.slice ao n c) l) (hn : l.length = n) (hn2 : n ≤ 1048576) :
    Calls Tryd.prog 104 #[.slice ao n c, .int .i64 s] w fun e w' => e = .returned (.bool (hasInt l s)) ∧ w = w' := by
  have H := hid h
  have Hn := hid hn
  clear h hn
  go_enter Tryd.func104, Tryd.ntmps104
  go_wp2_with (go_at_call 105; ((with_reducible refine (indexInt_any _ _ _ _ _ _ H.out Hn.out hn2).mono ?_); rintro e w' ⟨rfl, rfl⟩))
  go_ret
  exact ⟨rfl, rfl⟩

theorem kInt : Keyed Tryd.prog 3 := int_keyed Tryd.underlying3
theorem zInt (w : World) : (zeroValue 3).run Tryd.prog w = .ok (.int .i64 0) w := by kernel_rfl
/-- A map of the call's own tells what is known of registers. -/
def MapAt (w : World) (B n : Nat) (m : Km) : Prop :=
  ∃ D : DataW Unit, w.ownsMap Tryd.prog 3 (plainElem Tryd.prog 3) B n D ∧ ∀ r : Nat, Maps.has D (.int .i64 (r : Int)) = (m r).isSome ∧ ∀ x, m r = some x → D.atKey (.int .i64 (r : Int)) (.lit (.int .i64 0)) = .lit (.int .i64 (bi x))
theorem MapAt.later {w w' : World} {B n : Nat} {m : Km} (h : MapAt w B n m) (hb : Below w.heap.size w w') : MapAt w' B n m := by
  obtain ⟨D, h1, h2⟩ := h
  exact ⟨D, h1.kept (grown_below (B := 0) hb none (Nat.zero_le _)) (by simp), h2⟩
theorem MapAt.made (w : World) : MapAt (w.alloc (.map #[] 0)) w.heap.size 0 noKm :=
  ⟨.map [], World.ownsMap_made _ _ _ _, fun r => ⟨rfl, fun x h => by cases h⟩⟩
theorem key_int (r : Nat) (hr : r ≤ 1048576) : keyOf Tryd.prog 3 (.int .i64 (r : Int)) = some (.int .i64 (r : Int)) := keyOf_int_mk Tryd.underlying3 (by
  have h1 : IntKind.i64.min = -9223372036854775808 := rfl
  have h2 : IntKind.i64.max = 9223372036854775807 := rfl
  simp [Lit.wf, h1, h2]
  omega)
theorem bi_wf (x : BitVec 64) : (Lit.int .i64 (bi x)).wf = true := by
  have := bi_range x
  have h1 : IntKind.i64.min = -9223372036854775808 := rfl
  have h2 : IntKind.i64.max = 9223372036854775807 := rfl
  simp [Lit.wf, h1, h2]
  omega
theorem key_lit {r : Nat} : WideAt.IsKeyLit (.int .i64 (r : Int)) := by simp [WideAt.IsKeyLit]
theorem MapAt.put {w w' : World} {B n : Nat} {D : DataW Unit} {m : Km} {r : Nat} {x : BitVec 64} (h : w'.ownsMap Tryd.prog 3 (plainElem Tryd.prog 3) B (n + 1) (D.put (.int .i64 (r : Int)) (.lit (.int .i64 (bi x)))))
    (hD : w.ownsMap Tryd.prog 3 (plainElem Tryd.prog 3) B n D) (h2 : ∀ r : Nat, Maps.has D (.int .i64 (r : Int)) = (m r).isSome ∧ ∀ x, m r = some x → D.atKey (.int .i64 (r : Int)) (.lit (.int .i64 0)) = .lit (.int .i64 (bi x))) : MapAt w' B (n + 1) (putM m r x) := by
  refine ⟨_, h, fun q => ?_⟩
  unfold putM
  by_cases e : q = r
  · subst e
    rw [if_pos rfl]
    exact ⟨has_put_same hD.isMap key_lit _, fun y hy => by cases hy; exact atKey_put_same hD.isMap key_lit _ _⟩
  · rw [if_neg e]
    have hne : (Lit.int .i64 (q : Int)) ≠ .int .i64 (r : Int) := fun h => e (by injection h with _ h; omega)
    refine ⟨(has_put_other hne _).trans (h2 q).1, fun y hy => ?_⟩
    rw [atKey_put_other hne]
    exact (h2 q).2 y hy

set_option maxRecDepth 100000 in
set_option maxHeartbeats 1000000 in
theorem uval_any (KX M n : Nat) (m : Km) (r : Bool) (k : Int) (W : World) (hbox : W.cell? ⟨KX, 0, none⟩ = some (.map (some M))) (hM : MapAt W M n m) (hk : I64 k) (hv : r = true → 0 ≤ k ∧ k < 1048576) :
    Calls Tryd.prog 106 #[.agg #[.bool r, .int .i64 k], .pointer (some ⟨KX, 0, none⟩)] W fun e w' => ∃ c : Int, e = .returned (.tuple #[.int .i64 c, .bool (valM' m ⟨r, k⟩).isSome]) ∧ (∀ x, valM' m ⟨r, k⟩ = some x → c = bi x) ∧ I64 c ∧ Below W.heap.size W w' := by
  have zK : KX < W.heap.size := cell_lt hbox
  cases r with
  | true =>
    obtain ⟨h0, h1⟩ := hv rfl
    obtain ⟨q, rfl⟩ := Int.eq_ofNat_of_zero_le h0
    have Hk : Hid (valM' m ⟨true, (q : Int)⟩ = m q) := by show _ = _; unfold valM'; simp
    have hkey := key_int q (by omega)
    have hb : Below W.heap.size W (W.alloc (.cells #[.bool true, .int .i64 (q : Int)] 41)) := by (repeat (first | exact Below.refl _ _ | refine Below.alloc ?_ (by first | omega | (simp <;> omega)) _ | refine Below.setCell ?_ (by first | omega | (simp <;> omega)) _ | refine below_drewN ?_ _ | refine Below.drew ?_))
    obtain ⟨D, hD, h2⟩ := hM.later hb
    have Hh := hid (h2 q).1
    have Ha := hid (h2 q).2
    rw [Hk.out]
    clear hM h2 hv h0 h1 hk hb
    go_enter Tryd.func106, Tryd.ntmps106
    go_wp2_with (first
      | (at_lookup; refine wpList_lookup_own_ok_int _ rfl _ _ 166 rfl 3 3 .i64 kInt Tryd.underlying166 Tryd.underlying3 (zInt _) M n D rfl hD _ _ rfl hkey ?_; intro c hat hwc; rw [Hh.out]; have Hat := hid hat; have Hwc := hid hwc; clear hat hwc))
    go_ret2
    refine ⟨c, rfl, fun x hx => ?_, ?_, by (repeat (first | exact Below.refl _ _ | refine Below.alloc ?_ (by first | omega | (simp <;> omega)) _ | refine Below.setCell ?_ (by first | omega | (simp <;> omega)) _ | refine below_drewN ?_ _ | refine Below.drew ?_))⟩
    · have h := (Ha.out x hx).symm.trans Hat.out
      injection h with h
      injection h with _ h
      exact h.symm
    · have h := Hwc.out
      have h1 : IntKind.i64.min = -9223372036854775808 := rfl
      have h2 : IntKind.i64.max = 9223372036854775807 := rfl
      simp [Lit.wf, h1, h2] at h
      unfold I64
      omega
  | false =>
    have Hk : Hid (valM' m ⟨false, k⟩ = some (bvOf k)) := by show _ = _; unfold valM'; simp
    have Hb : Hid (bi (bvOf k) = k) := bi_of hk
    have Hi := hid hk
    rw [Hk.out]
    clear hM hv hk
    go_enter Tryd.func106, Tryd.ntmps106
    go_wp2_with fail
    go_ret2
    exact ⟨k, rfl, fun x hx => by injection hx with hx; rw [← hx, Hb.out], Hi.out, by (repeat (first | exact Below.refl _ _ | refine Below.alloc ?_ (by first | omega | (simp <;> omega)) _ | refine Below.setCell ?_ (by first | omega | (simp <;> omega)) _ | refine below_drewN ?_ _ | refine Below.drew ?_))⟩

end Go.Proofs.YtaehkcnankijfaaDoor

namespace Go.Proofs.YtaehkcnankijfaaDoor
open Go.RowKit

structure UrAt (W : World) (N H R : Nat) (m : Km) : Prop where
  tab : ∃ (L : List Int) (B : List Bool), L.length = R ∧ B.length = R ∧ W.heap[N]? = some (.cells (L.map (Value.int .i64)).toArray 3 (0, 0)) ∧ W.heap[H]? = some (.cells (B.map Value.bool).toArray 4 (0, 0)) ∧
    ∀ r, r < R → B.getD r false = (m r).isSome ∧ ∀ x, m r = some x → L.getD r 0 = bi x
section
variable {W W' : World} {N H R : Nat} {m : Km}
theorem UrAt.later (h : UrAt W N H R m) (hb : Below W.heap.size W W') : UrAt W' N H R m := by
  obtain ⟨L, B, h1, h2, h3, h4, h5⟩ := h.tab
  exact ⟨L, B, h1, h2, (hb.block N (Array.getElem?_eq_some_iff.1 h3).1).trans h3, (hb.block H (Array.getElem?_eq_some_iff.1 h4).1).trans h4, h5⟩
theorem UrAt.lt (h : UrAt W N H R m) : N < W.heap.size ∧ H < W.heap.size := by
  obtain ⟨L, B, h1, h2, h3, h4, h5⟩ := h.tab
  exact ⟨(Array.getElem?_eq_some_iff.1 h3).1, (Array.getElem?_eq_some_iff.1 h4).1⟩
theorem UrAt.ne (h : UrAt W N H R m) : N ≠ H := by
  obtain ⟨L, B, h1, h2, h3, h4, h5⟩ := h.tab
  intro e
  subst e
  rw [h3] at h4
  injection h4 with h4
  injection h4 with _ h4
  cases h4
/-- What a register's two cells hold. -/
theorem UrAt.cells (h : UrAt W N H R m) {r : Nat} (hr : r < R) : ∃ i : Int, W.cell? ⟨N, r, none⟩ = some (.int .i64 i) ∧ W.cell? ⟨H, r, none⟩ = some (.bool (m r).isSome) ∧ ∀ x, m r = some x → i = bi x := by
  obtain ⟨L, B, h1, h2, h3, h4, h5⟩ := h.tab
  refine ⟨L.getD r 0, ?_, ?_, (h5 r hr).2⟩
  · rw [cell_row h3, List.getElem?_toArray, List.getElem?_map, List.getD_eq_getElem?_getD, List.getElem?_eq_getElem (by omega)]; rfl
  · rw [cell_row h4, List.getElem?_toArray, List.getElem?_map, ← (h5 r hr).1, List.getD_eq_getElem?_getD, List.getElem?_eq_getElem (by omega)]; rfl
theorem UrAt.fz (h : UrAt W N H R m) (r : Nat) : W.frozen? ⟨N, r, none⟩ = false ∧ W.frozen? ⟨H, r, none⟩ = false := by
  obtain ⟨L, B, h1, h2, h3, h4, h5⟩ := h.tab
  exact ⟨by simp [World.frozen?, h3], by simp [World.frozen?, h4]⟩
theorem UrAt.put (h : UrAt W N H R m) {d : Nat} {i : Int} {b : Bool} {m' : Km} (hb : b = (m' d).isSome) (hi : ∀ x, m' d = some x → i = bi x) (ho : ∀ r, r ≠ d → m' r = m r) :
    UrAt ((W.setCell ⟨N, d, none⟩ (.int .i64 i)).setCell ⟨H, d, none⟩ (.bool b)) N H R m' := by
  have hne := h.ne
  obtain ⟨L, B, h1, h2, h3, h4, h5⟩ := h.tab
  refine ⟨L.set d i, B.set d b, by simpa using h1, by simpa using h2, ?_, ?_, fun r hr => ?_⟩
  · rw [Below.heap_setCell _ _ _ _ (by dsimp only; exact hne), heap_set_row h3, List.map_set]; simp
  · rw [heap_set_row (w := W.setCell ⟨N, d, none⟩ (.int .i64 i)) (cur := (B.map Value.bool).toArray) (by rw [Below.heap_setCell _ _ _ _ (by dsimp only; exact hne.symm)]; exact h4), List.map_set]; simp
  · rw [List.getD_eq_getElem?_getD, List.getD_eq_getElem?_getD, List.getElem?_set, List.getElem?_set]
    by_cases e : d = r
    · subst e
      rw [if_pos rfl, if_pos (by omega), if_pos rfl, if_pos (by omega)]
      exact ⟨hb, fun x hx => hi x hx⟩
    · rw [if_neg e, if_neg e, ← List.getD_eq_getElem?_getD, ← List.getD_eq_getElem?_getD, ho r (Ne.symm e)]
      exact h5 r hr
theorem UrAt.put' (h : UrAt W N H R m) {d : Nat} {i : Int} {b : Bool} {m' : Km} (hb : b = (m' d).isSome) (hi : ∀ x, m' d = some x → i = bi x) (ho : ∀ r, r ≠ d → m' r = m r) :
    UrAt ((W.setCell ⟨H, d, none⟩ (.bool b)).setCell ⟨N, d, none⟩ (.int .i64 i)) N H R m' := by
  have hne := h.ne
  obtain ⟨L, B, h1, h2, h3, h4, h5⟩ := h.tab
  refine ⟨L.set d i, B.set d b, by simpa using h1, by simpa using h2, ?_, ?_, fun r hr => ?_⟩
  · rw [heap_set_row (w := W.setCell ⟨H, d, none⟩ (.bool b)) (cur := (L.map (Value.int .i64)).toArray) (by rw [Below.heap_setCell _ _ _ _ (by dsimp only; exact hne)]; exact h3), List.map_set]; simp
  · rw [Below.heap_setCell _ _ _ _ (by dsimp only; exact hne.symm), heap_set_row h4, List.map_set]; simp
  · rw [List.getD_eq_getElem?_getD, List.getD_eq_getElem?_getD, List.getElem?_set, List.getElem?_set]
    by_cases e : d = r
    · subst e
      rw [if_pos rfl, if_pos (by omega), if_pos rfl, if_pos (by omega)]
      exact ⟨hb, fun x hx => hi x hx⟩
    · rw [if_neg e, if_neg e, ← List.getD_eq_getElem?_getD, ← List.getD_eq_getElem?_getD, ho r (Ne.symm e)]
      exact h5 r hr
theorem UrAt.made {A : World} (_hA : N < A.heap.size ∧ H < A.heap.size) (hN : A.heap[N]? = some (.cells (madeCells #[.int .i64 0] R) 3 (0, 0))) (hH : A.heap[H]? = some (.cells (madeCells #[.bool false] R) 4 (0, 0))) : UrAt A N H R noKm := by
  refine ⟨List.replicate R 0, List.replicate R false, by simp, by simp, ?_, ?_, fun r hr => ⟨?_, fun x h => by cases h⟩⟩
  · rw [hN, madeCells_rep, List.map_replicate]
  · rw [hH, madeCells_rep, List.map_replicate]
  · simp [List.getD_eq_getElem?_getD, noKm, hr]
end
/-- A value is a number, or a known register, or an unknown one. -/
theorem valM_cases {W W' : World} {N H R : Nat} {m : Km} (h : UrAt W N H R m) (h' : UrAt W' N H R m) {r : Bool} {n : Int} (hn : I64 n) (hv : r = true → 0 ≤ n ∧ n < (R : Int)) :
    (∃ z, valM' m ⟨r, n⟩ = some z ∧ (r = false ∧ n = bi z ∨ ∃ q : Nat, r = true ∧ n = (q : Int) ∧ q < R ∧ W'.cell? ⟨N, q, none⟩ = some (.int .i64 (bi z)) ∧ W'.cell? ⟨H, q, none⟩ = some (.bool true) ∧ W.cell? ⟨H, q, none⟩ = some (.bool true))) ∨
    (valM' m ⟨r, n⟩ = none ∧ ∃ q : Nat, r = true ∧ n = (q : Int) ∧ q < R ∧ W.cell? ⟨H, q, none⟩ = some (.bool false)) := by
  cases r with
  | false => exact .inl ⟨bvOf n, by unfold valM'; simp, .inl ⟨rfl, (bi_of hn).symm⟩⟩
  | true =>
    obtain ⟨h0, h1⟩ := hv rfl
    obtain ⟨q, rfl⟩ := Int.eq_ofNat_of_zero_le h0
    have hq : q < R := by omega
    have he : valM' m ⟨true, (q : Int)⟩ = m q := by unfold valM'; simp
    obtain ⟨i, -, c1, -⟩ := h.cells hq
    obtain ⟨i', d0, d1, d2⟩ := h'.cells hq
    cases hm : m q with
    | none => exact .inr ⟨he.trans hm, q, rfl, rfl, hq, by rw [c1, hm]; rfl⟩
    | some z => exact .inl ⟨z, he.trans hm, .inr ⟨q, rfl, rfl, hq, by rw [d0, d2 z hm], by rw [d1, hm]; rfl, by rw [c1, hm]; rfl⟩⟩
theorem phiM_none {k : Nat} {m : Km} {d : Nat} : ∀ {l : List DPhi}, (∀ q ∈ l, q.dst.toNat ≠ d) → phiM k m l d = none := by
  intro l
  have hg : ∀ (l : List DPhi) (nx : Km), nx d = none → (∀ q ∈ l, q.dst.toNat ≠ d) → (l.foldl (phiStep k m) nx) d = none := by
    intro l
    induction l with
    | nil => exact fun nx h _ => h
    | cons p l ih =>
      intro nx h hl
      rw [List.foldl_cons]
      refine ih _ ?_ (fun q hq => hl q (List.mem_cons_of_mem _ hq))
      unfold phiStep
      cases valM' m (p.src.getD k ⟨false, 0⟩) with
      | none => exact h
      | some x =>
        show putM nx p.dst.toNat x d = none
        unfold putM
        rw [if_neg (fun e => hl p (List.mem_cons_self ..) e.symm)]
        exact h
  exact fun h => hg l noKm rfl h
/-- A merge, as the document writes it: known or not. -/
def phiPut (nx : Km) (d : Nat) (o : Option (BitVec 64)) : Km := fun r => if r = d then o else nx r
theorem phiPut_step {k : Nat} {m nx : Km} {p : DPhi} (h : nx p.dst.toNat = none) : phiStep k m nx p = phiPut nx p.dst.toNat (valM' m (p.src.getD k ⟨false, 0⟩)) := by
  unfold phiStep phiPut
  cases valM' m (p.src.getD k ⟨false, 0⟩) with
  | none =>
    funext r
    dsimp only
    by_cases e : r = p.dst.toNat
    · rw [if_pos e, e, h]
    · rw [if_neg e]
  | some x => rfl
theorem putM_some {k : Nat} {m nx : Km} {p : DPhi} {x : BitVec 64} (h : valM' m (p.src.getD k ⟨false, 0⟩) = some x) : phiStep k m nx p = putM nx p.dst.toNat x := by unfold phiStep; rw [h]
theorem putM_none {k : Nat} {m nx : Km} {p : DPhi} (h : valM' m (p.src.getD k ⟨false, 0⟩) = none) : phiStep k m nx p = nx := by unfold phiStep; rw [h]
theorem ins_more {m : Km} {y : DIns} (h : 17 < y.op) : insStep m y = m := by unfold insStep; rw [if_pos h]
theorem ins_put {m : Km} {y : DIns} (h : ¬ 17 < y.op) {a b z : BitVec 64} (ha : valM' m y.a = some a) (hb : valM' m y.b = some b) (hz : twoF y.op a b = some z) : insStep m y = putM m y.dst.toNat z := by
  unfold insStep; rw [if_neg h, ha, hb]; show (match twoF y.op a b with | some v => putM m y.dst.toNat v | none => m) = _; rw [hz]
theorem ins_div {m : Km} {y : DIns} (h : ¬ 17 < y.op) {a b : BitVec 64} (ha : valM' m y.a = some a) (hb : valM' m y.b = some b) (hz : twoF y.op a b = none) : insStep m y = m := by
  unfold insStep; rw [if_neg h, ha, hb]; show (match twoF y.op a b with | some v => putM m y.dst.toNat v | none => m) = _; rw [hz]
theorem ins_noA {m : Km} {y : DIns} (h : ¬ 17 < y.op) (ha : valM' m y.a = none) : insStep m y = m := by
  unfold insStep; rw [if_neg h, ha]; unfold twoM; rfl
theorem ins_noB {m : Km} {y : DIns} (h : ¬ 17 < y.op) (hb : valM' m y.b = none) : insStep m y = m := by
  unfold insStep; rw [if_neg h, hb]; unfold twoM; cases valM' m y.a <;> rfl
theorem insStep_put {m : Km} {y : DIns} (h : ¬ 17 < y.op) {a b : BitVec 64} (ha : valM' m y.a = some a) (hb : valM' m y.b = some b) {z : BitVec 64} (hz : twoF y.op a b = some z) : insStep m y = phiPut m y.dst.toNat (some z) := by
  unfold insStep; rw [if_neg h, ha, hb]
  show (match twoF y.op a b with | some v => putM m y.dst.toNat v | none => m) = _
  rw [hz]; rfl

end Go.Proofs.YtaehkcnankijfaaDoor
