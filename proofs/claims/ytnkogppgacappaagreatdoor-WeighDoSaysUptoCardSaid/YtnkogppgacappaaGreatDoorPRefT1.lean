/- The document's turn: blocks of the call's own, and the states of its loops. The document's turn: the state between two rounds of the loop that gathers the blocks. -/
import Derived.Test.YtnkogppgacappaaGreatDoorPQueue
import Derived.Test.YtnkogppgacappaaGreatDoorPRest0
import Derived.Test.YtnkogppgacappaaGreatDoorPRefU
namespace Go.Proofs.YtnkogppgacappaaGreatDoor
open Go.RowKit

/-- A reading of cells as they are. -/
def rRaw : Rp (List Value) := fun _ _ cs x => cs = x
theorem rRaw_mono : rRaw.Mono := ⟨fun _ _ _ _ _ _ _ _ h => h⟩

/-- A block that lies in the blocks from a on, below b: its merges are a row of their own, the other lists lie outside that row. -/
def TB (a b : Nat) (w : World) (cs : List Value) (x : DBlock) : Prop :=
  ∃ pv lv tv a1 b1, cs = [pv, lv, .int .i64 x.fin.kind, .bool x.fin.on.reg, .int .i64 x.fin.on.n, tv] ∧ (a ≤ a1 ∧ b1 ≤ b) ∧ OwnIn a1 b1 w 94 2 rPhi pv x.phis ∧
    SlAt (fun k => a ≤ k ∧ k < b ∧ pv.ownBlock ≠ some k) w 8 rIns lv x.list ∧ SlAt (fun k => a ≤ k ∧ k < b ∧ pv.ownBlock ≠ some k) w 1 rInt tv x.fin.to ∧ I64 x.fin.kind ∧ I64 x.fin.on.n
section
variable {a b : Nat} {w w' : World} {cs : List Value} {x : DBlock}
theorem TB.kept (h : TB a b w cs x) (hk : ∀ k, a ≤ k → k < b → w'.heap[k]? = w.heap[k]?) : TB a b w' cs x := by
  obtain ⟨pv, lv, tv, a1, b1, e, h1, h2, h3, h4, h5⟩ := h
  have hst : Stays (fun k => a ≤ k ∧ k < b ∧ pv.ownBlock ≠ some k) w w' := stays_at fun k hS _ => hk k hS.1 hS.2.1
  exact ⟨pv, lv, tv, a1, b1, e, h1, h2.kept rPhi_mono (fun k g1 g2 => hk k (by omega) (by omega)), h3.mono rIns_mono (fun _ h => h) hst, h4.mono rInt_mono (fun _ h => h) hst, h5⟩
theorem TB.block (h : TB a b w cs x) : rBlock (iv a b) w cs x := by
  obtain ⟨pv, lv, tv, a1, b1, e, h1, h2, h3, h4, h5, h6⟩ := h
  exact ⟨pv, lv, _, e, (h2.toSl rPhi_mono (by decide)).mono rPhi_mono (fun k hk => ⟨by have := hk.1; omega, by have := hk.2; omega⟩) (Stays.refl _ _), h3.mono rIns_mono (fun k hk => ⟨hk.1, hk.2.1⟩) (Stays.refl _ _), tv, rfl, h4.mono rInt_mono (fun k hk => ⟨hk.1, hk.2.1⟩) (Stays.refl _ _), h5, h6⟩
theorem TB.six (h : TB a b w cs x) : cs.length = 6 := by
  obtain ⟨pv, lv, tv, a1, b1, e, -⟩ := h
  rw [e]; rfl
end
/-- All merges are done. -/
theorem PhSt.slS {W8 wi : World} {pv : Value} {phis : List DPhi} {ord : List Nat} {fr : List Int} (h : PhSt W8 wi pv phis ord fr phis.length) {S : Nat → Prop} (hs : SlAt S W8 2 rPhi pv phis) (hz : ∀ P, pv.ownBlock = some P → ∃ c, pv = .slice (some ⟨P, 0, none⟩) phis.length c) :
    SlAt (fun k => S k ∨ (W8.heap.size ≤ k ∧ k < wi.heap.size)) wi 2 rPhi pv (phis.map (turnPhi ord fr)) := by
  obtain ⟨ao, c, hv, h1, h2, h3⟩ := hs
  refine ⟨ao, c, by rw [List.length_map]; exact hv, by rw [List.length_map]; exact h1, h2, fun hne => ?_⟩
  obtain ⟨b, off, rfl, hS, hc⟩ := h3 (fun e => hne (by rw [e]; rfl))
  have hPP : pv.ownBlock = some b := by rw [hv]; rfl
  obtain ⟨c', hz'⟩ := hz b hPP
  rw [hv] at hz'
  cases hz'
  refine ⟨b, 0, rfl, .inl hS, fun i x hx => ?_⟩
  rw [List.getElem?_map] at hx
  cases hq : phis[i]? with
  | none => rw [hq] at hx; cases hx
  | some q =>
    rw [hq] at hx
    cases hx
    obtain ⟨hi, rfl⟩ := List.getElem?_eq_some_iff.1 hq
    obtain ⟨v, k1, k2⟩ := h.new b hPP i hi hi
    obtain ⟨cs, hr, -, -⟩ := hc i _ hq
    obtain ⟨v0, -, -, hd⟩ := hr
    refine ⟨_, ⟨v, rfl, k2.mono rVal_mono (fun B hB => .inr ⟨hB.1, hB.2⟩) (Stays.refl _ _), hd⟩, rfl, ?_⟩
    rw [Nat.zero_add]; exact k1
theorem TB.done {a b : Nat} {W8 wi : World} {pv : Value} {rest : List Value} {x : DBlock} {ord : List Nat} {fr : List Int} (h : TB a b W8 (pv :: rest) x) (hp : PhSt W8 wi pv x.phis ord fr x.phis.length) (_hb : b ≤ W8.heap.size) :
    rBlock (fun k => (a ≤ k ∧ k < b) ∨ (W8.heap.size ≤ k ∧ k < wi.heap.size)) wi (pv :: rest) ⟨x.phis.map (turnPhi ord fr), x.list, x.fin⟩ := by
  obtain ⟨pv', lv, tv, a1, b1, e, h1, h2, h3, h4, h5, h6⟩ := h
  cases e
  have hst : Stays (fun k => a ≤ k ∧ k < b ∧ pv.ownBlock ≠ some k) W8 wi := stays_at fun k hS hlt => hp.grow.block k hlt (fun e => hS.2.2 e.symm)
  refine ⟨pv, lv, _, rfl, (hp.slS (h2.toSl rPhi_mono (by decide)) (fun P hP => (h2.row P hP).2.1)).mono rPhi_mono (fun k hk => ?_) (Stays.refl _ _), h3.mono rIns_mono (fun k hk => .inl ⟨hk.1, hk.2.1⟩) hst, tv, rfl, h4.mono rInt_mono (fun k hk => .inl ⟨hk.1, hk.2.1⟩) hst, h5, h6⟩
  rcases hk with hk | hk
  · exact .inl ⟨by have := hk.1; omega, by have := hk.2; omega⟩
  · exact .inr hk

/-- append of one element, with word of where the row lies behind. -/
theorem wpList_append_Own2 {α : Type} {P : Program} {w : World} {ops : Array Oper} {rest : List Oper} {o : Oper} {a : Act} {Q : Exit → Act → World → Prop} (hgd : o.guard = none) (s x : Operand) (t : TypeId)
    (ho : o.op = .call { callee := .builtin .append, args := #[s, x], argTypes := #[t, t] })
    (base : Nat) (e : TypeId) (i : TypeInfo) (z : Value) (size bytes : Nat) (ht : P.underlying t = some (.slice e)) (hi : P.info? e = some i) (hz : i.zero = some z)
    (hsize : i.size = size) (hby : i.bytes = bytes) (hzs : z.cells.size = size) (hsz : 0 < size)
    {r : Rp α} (hr : r.Mono) (v : Value) (l : List α) (hs : a.eval s = v) (hown : Own base w e size r v l)
    (ad : Addr) (c : Nat) (cs : List Value) (y : α) (hx : a.eval x = .slice (some ad) 1 c) (hl : cs.length = size) (hnews : ∀ (j : Nat) u, cs[j]? = some u → w.cell? (ad.add j) = some u) (h1 : ∀ u ∈ cs, u.oneCell' = true) (hy : r (ownS base w v) w cs y)
    (hn : l.length + 1 ≤ 2097152) (hbytes : bytes ≤ 4096) (hbase : base ≤ w.heap.size)
    (h : ∀ v' w', Own base w' e size r v' (l ++ [y]) → w.grownBy w' v.ownBlock → (v'.ownBlock = v.ownBlock ∨ v'.ownBlock = some w.heap.size) → (∃ g cap, v' = .slice (some ⟨g, 0, none⟩) (l.length + 1) cap) → wpList P ops Q rest (a.put o.dst v') w') :
    wpList P ops Q (o :: rest) a w := by
  have hown0 := hown
  obtain ⟨xss, p1, p2, p3, p4⟩ := hown
  have hb : (l.length + 1) * bytes ≤ 140737488355328 := by
    have := Nat.mul_le_mul hn hbytes
    omega
  refine wpList_append_own_at w hgd s x t ho base e i z size bytes ht hi hz hsize hby hzs hsz v l.length xss.flatten hs p1 ad 1 c cs hx (by rw [hl]; omega) hnews h1 (by unfold maxLen; omega) hb hbase ?_
  intro v' w' hown' hgrow hnil hat
  refine h v' w' (hown0.snoc hr p1 p2 p3 p4 hl hy hown' hgrow hat) hgrow hat ?_
  rcases hown'.2 with ⟨e, e2⟩ | ⟨g, cap, cur, e, -⟩
  · omega
  · exact ⟨g, cap, e⟩

/-- Between two rounds of the loop that gathers blocks: they lie apart, outside the row. -/
structure RG (base : Nat) (w : World) (v : Value) (X : Nat → DBlock) (L : List (List Value)) (A B : Nat → Nat) (k : Nat) : Prop where
  own : Own base w 76 6 rRaw v L
  len : L.length = k
  blk : ∀ (j : Nat) cs, L[j]? = some cs → TB (A j) (B j) w cs (X j)
  apart : ∀ i j, i < j → j < k → B i ≤ A j
  inn : ∀ j, j < k → base ≤ A j ∧ B j ≤ w.heap.size ∧ ∀ g, v.ownBlock = some g → ¬ (A j ≤ g ∧ g < B j)
theorem RG.start (base : Nat) (w : World) (X : Nat → DBlock) (A B : Nat → Nat) : RG base w (.slice none 0 0) X [] A B 0 :=
  ⟨Own.nil _ _ _ _ _, rfl, fun j cs h => by simp at h, fun i j _ h => absurd h (Nat.not_lt_zero _), fun j h => absurd h (Nat.not_lt_zero _)⟩
section
variable {base : Nat} {w w' : World} {v v' : Value} {X : Nat → DBlock} {L : List (List Value)} {A B : Nat → Nat} {k : Nat}
theorem RG.later (h : RG base w v X L A B k) (hb : Below w.heap.size w w') : RG base w' v X L A B k := by
  refine ⟨h.own.later rRaw_mono hb, h.len, fun j cs hj => (h.blk j cs hj).kept fun q g1 g2 => hb.block q ?_, h.apart, fun j hj => ⟨(h.inn j hj).1, Nat.le_trans (h.inn j hj).2.1 hb.size, (h.inn j hj).2.2⟩⟩
  have hj2 : j < k := by rw [← h.len]; exact (List.getElem?_eq_some_iff.1 hj).1
  have := (h.inn j hj2).2.1
  omega
theorem RG.setLow (h : RG base w v X L A B k) {p : Addr} (hp : p.block < base) (u : Value) : RG base (w.setCell p u) v X L A B k := by
  refine ⟨h.own.setLow rRaw_mono hp u, h.len, fun j cs hj => (h.blk j cs hj).kept fun q g1 g2 => Below.heap_setCell _ _ _ _ ?_, h.apart, fun j hj => ⟨(h.inn j hj).1, by have := (h.inn j hj).2.1; simpa [World.setCell] using this, (h.inn j hj).2.2⟩⟩
  have hj2 : j < k := by rw [← h.len]; exact (List.getElem?_eq_some_iff.1 hj).1
  have := (h.inn j hj2).1
  omega
theorem RG.snoc (h : RG base w v X L A B k) {lo hi : Nat} (hlo : base ≤ lo) (hall : ∀ j, j < k → B j ≤ lo) (hhi : hi ≤ w.heap.size) (hrow : ∀ g, v.ownBlock = some g → ¬ (lo ≤ g ∧ g < hi)) {cs : List Value} (hx : TB lo hi w cs (X k))
    (hown : Own base w' 76 6 rRaw v' (L ++ [cs])) (hg : w.grownBy w' v.ownBlock) (hat : v'.ownBlock = v.ownBlock ∨ v'.ownBlock = some w.heap.size) :
    RG base w' v' X (L ++ [cs]) (fun j => if j = k then lo else A j) (fun j => if j = k then hi else B j) (k + 1) := by
  have hl := h.len
  have hrow' : ∀ (a b : Nat), b ≤ w.heap.size → (∀ g, v.ownBlock = some g → ¬ (a ≤ g ∧ g < b)) → ∀ g, v'.ownBlock = some g → ¬ (a ≤ g ∧ g < b) := fun a b hb hn g hg' => by
    rcases hat with e | e
    · exact hn g (by rw [← e]; exact hg')
    · rw [e] at hg'; cases hg'; omega
  refine ⟨hown, by rw [List.length_append, hl]; rfl, fun j c hj => ?_, fun i j hij hj => ?_, fun j hj => ?_⟩
  · by_cases hjk : j = k
    · subst hjk
      rw [List.getElem?_append_right (by omega), hl, Nat.sub_self] at hj
      cases hj
      rw [if_pos rfl, if_pos rfl]
      exact hx.kept fun q g1 g2 => hg.block q (by omega) (fun e => hrow q e.symm ⟨g1, g2⟩)
    · have hj1 : j < k := by
        have := (List.getElem?_eq_some_iff.1 hj).1
        rw [List.length_append, hl] at this
        simp at this; omega
      rw [List.getElem?_append_left (by omega)] at hj
      rw [if_neg hjk, if_neg hjk]
      have hi := h.inn j hj1
      exact (h.blk j c hj).kept fun q g1 g2 => hg.block q (by have := hi.2.1; omega) (fun e => hi.2.2 q e.symm ⟨g1, g2⟩)
  · rw [if_neg (by omega : i ≠ k)]
    by_cases hjk : j = k
    · rw [if_pos hjk]; exact hall i (by omega)
    · rw [if_neg hjk]; exact h.apart i j hij (by omega)
  · by_cases hjk : j = k
    · rw [if_pos hjk, if_pos hjk]
      exact ⟨hlo, Nat.le_trans hhi hg.size, hrow' _ _ hhi hrow⟩
    · rw [if_neg hjk, if_neg hjk]
      have hi := h.inn j (by omega)
      exact ⟨hi.1, Nat.le_trans hi.2.1 hg.size, hrow' _ _ hi.2.1 hi.2.2⟩
end

/-- A row of such blocks, all gathered. -/
structure RB (lo : Nat) (W : World) (R : Nat) (X : Nat → DBlock) (L : List (List Value)) (A B : Nat → Nat) (n : Nat) : Prop where
  len : L.length = n
  row : ∀ (j : Nat) cs, L[j]? = some cs → CellsAt W R (j * 6) cs
  blk : ∀ (j : Nat) cs, L[j]? = some cs → TB (A j) (B j) W cs (X j)
  apart : ∀ i j, i < j → j < n → B i ≤ A j
  inn : ∀ j, j < n → lo ≤ A j ∧ B j ≤ W.heap.size ∧ ¬ (A j ≤ R ∧ R < B j)
theorem RG.rb {base : Nat} {W : World} {v : Value} {X : Nat → DBlock} {L : List (List Value)} {A B : Nat → Nat} {n : Nat} (h : RG base W v X L A B n) (hn : 0 < n) :
    ∃ R c, v = .slice (some ⟨R, 0, none⟩) n c ∧ n ≤ c ∧ c ≤ 9223372036854775807 ∧ base ≤ R ∧ R < W.heap.size ∧ RB base W R X L A B n := by
  have hl := h.len
  have hin := h.own.inn
  obtain ⟨xss, h1, h2, h3, h4⟩ := h.own
  rcases id h1.2 with ⟨rfl, hl0⟩ | ⟨g, cap, cur, rfl, hg, hgg, hn', hm, hc, ht⟩
  · omega
  · unfold maxLen at hm
    refine ⟨g, cap, by rw [hl], by omega, by omega, hg, (Array.getElem?_eq_some_iff.1 hgg).1, hl, fun j cs hj => ?_, h.blk, h.apart, fun j hj => ⟨(h.inn j hj).1, (h.inn j hj).2.1, (h.inn j hj).2.2 g rfl⟩⟩
    obtain ⟨hj1, hj2⟩ := List.getElem?_eq_some_iff.1 hj
    obtain ⟨T, c, cs', e, -, hcs, hr⟩ := hin.at hj1
    cases e
    have hr' : cs' = L[j] := hr
    rw [hj2] at hr'
    subst hr'
    exact hcs

/-- Between two rounds of the loop that lays the merges' sources anew. -/
structure RT (w W wr : World) (Y : Nat → DBlock) (L : List (List Value)) (A B : Nat → Nat) (i : Nat) : Prop where
  below : Below w.heap.size w wr
  size : W.heap.size ≤ wr.heap.size
  keep : ∀ b, b < W.heap.size → (∀ j, j < i → ¬ (A j ≤ b ∧ b < B j)) → wr.heap[b]? = W.heap[b]?
  done : ∀ (j : Nat) cs, j < i → L[j]? = some cs → rBlock (fun k => (A j ≤ k ∧ k < B j) ∨ (W.heap.size ≤ k ∧ k < wr.heap.size)) wr cs (Y j)
theorem RT.start {w W : World} (hb : Below w.heap.size w W) (Y : Nat → DBlock) (L : List (List Value)) (A B : Nat → Nat) : RT w W W Y L A B 0 :=
  ⟨hb, Nat.le_refl _, fun _ _ _ => rfl, fun _j _ h => absurd h (Nat.not_lt_zero _)⟩
section
variable {w W wr wi : World} {X Y : Nat → DBlock} {L : List (List Value)} {A B : Nat → Nat} {i lo R n : Nat}
theorem RT.later (h : RT w W wr Y L A B i) (_hr : RB lo W R X L A B n) (hb : Below wr.heap.size wr wi) : RT w W wi Y L A B i := by
  refine ⟨h.below.trans (hb.mono h.below.size), Nat.le_trans h.size hb.size, fun b h1 h2 => ?_, fun j cs hj hc => ?_⟩
  · rw [hb.block b (Nat.lt_of_lt_of_le h1 h.size), h.keep b h1 h2]
  · exact rBlock_mono.out _ _ _ _ _ _ (fun k hk => hk.imp id (fun g => ⟨g.1, Nat.lt_of_lt_of_le g.2 hb.size⟩)) (Stays.below' hb) (h.done j cs hj hc)
/-- A block that is not yet touched. -/
theorem RT.tb (h : RT w W wr Y L A B i) (hr : RB lo W R X L A B n) {j : Nat} (hij : i ≤ j) {cs : List Value} (hj : L[j]? = some cs) : TB (A j) (B j) wr cs (X j) := by
  have hjn : j < n := by rw [← hr.len]; exact (List.getElem?_eq_some_iff.1 hj).1
  refine (hr.blk j cs hj).kept fun k h1 h2 => h.keep k (by have := (hr.inn j hjn).2.1; omega) fun j' hj' hk => ?_
  have := hr.apart j' j (by omega) hjn
  omega
theorem RT.next (h : RT w W wr Y L A B i) (hr : RB lo W R X L A B n) (hi : i < n) (hw : w.heap.size ≤ lo) {pv : Value} {rest : List Value} (hL : L[i]? = some (pv :: rest)) {ord : List Nat} {fr : List Int}
    (hp : PhSt wr wi pv (X i).phis ord fr (X i).phis.length) (hY : Y i = ⟨(X i).phis.map (turnPhi ord fr), (X i).list, (X i).fin⟩) : RT w W wi Y L A B (i + 1) := by
  have htb := h.tb hr (Nat.le_refl _) hL
  have hin := hr.inn i hi
  have hsz := h.size
  have hP : ∀ P, pv.ownBlock = some P → A i ≤ P ∧ P < B i := fun P hPP => by
    obtain ⟨pv', lv, tv, a1, b1, e, h1, h2, -⟩ := htb
    cases e
    have := (h2.row P hPP).1
    omega
  refine ⟨⟨hp.grow.os.trans h.below.os, hp.grow.tape.trans h.below.tape, hp.grow.output.trans h.below.output, Nat.le_trans h.below.size hp.grow.size, fun b hb => ?_⟩, Nat.le_trans hsz hp.grow.size, fun b h1 h2 => ?_, fun j cs hj hc => ?_⟩
  · rw [hp.grow.block b (Nat.lt_of_lt_of_le hb h.below.size) (fun e => by have := hP b e.symm; omega), h.below.block b hb]
  · rw [hp.grow.block b (by omega) (fun e => h2 i (by omega) (hP b e.symm)), h.keep b h1 (fun j hj => h2 j (by omega))]
  · by_cases hji : j = i
    · subst hji
      rw [hL] at hc
      cases hc
      rw [hY]
      refine rBlock_mono.out _ _ _ _ _ _ (fun k hk => hk.imp id (fun g => ⟨by omega, g.2⟩)) (Stays.refl _ _) (htb.done hp (by omega))
    · have hjn : j < n := by omega
      have hap := hr.apart j i (by omega) hi
      refine rBlock_mono.out _ _ _ _ _ _ (fun k hk => hk.imp id (fun g => ⟨g.1, Nat.lt_of_lt_of_le g.2 hp.grow.size⟩)) (stays_at fun k hk hlt => hp.grow.block k hlt (fun e => ?_)) (h.done j cs (by omega) hc)
      have := hP k e.symm
      rcases hk with hk | hk <;> omega
/-- The row as it is seen between two rounds. -/
theorem RT.mix (h : RT w W wr Y L A B i) (hr : RB lo W R X L A B n) (hR : lo ≤ R ∧ R < W.heap.size) (hin0 : i ≤ n) {c : Nat} (hc : n ≤ c) (hm : c ≤ 9223372036854775807) :
    SlAt (iv lo wr.heap.size) wr 6 rBlock (.slice (some ⟨R, 0, none⟩) n c) ((List.range n).map fun j => if j < i then Y j else X j) := by
  have hl : ((List.range n).map fun j => if j < i then Y j else X j).length = n := by simp
  have hsz := h.size
  refine ⟨_, c, by rw [hl], by rw [hl]; exact hc, hm, fun _ => ⟨R, 0, rfl, ⟨hR.1, Nat.lt_of_lt_of_le hR.2 hsz⟩, fun j x hx => ?_⟩⟩
  have hj : j < n := by rw [← hl]; exact (List.getElem?_eq_some_iff.1 hx).1
  have hjL : j < L.length := by rw [hr.len]; exact hj
  have hLj := List.getElem?_eq_getElem hjL
  have hin := hr.inn j hj
  rw [List.getElem?_map, List.getElem?_range hj] at hx
  have hx' := Option.some.inj hx
  dsimp only at hx'
  subst hx'
  refine ⟨L[j], ?_, (hr.blk j _ hLj).six, ?_⟩
  · by_cases hji : j < i
    · rw [if_pos hji]
      refine rBlock_mono.out _ _ _ _ _ _ (fun k hk => ?_) (Stays.refl _ _) (h.done j _ hji hLj)
      rcases hk with hk | hk
      · exact ⟨by omega, by omega⟩
      · exact ⟨by omega, hk.2⟩
    · rw [if_neg hji]
      exact rBlock_mono.out _ _ _ _ _ _ (fun k hk => ⟨by have := hk.1; omega, by have := hk.2; omega⟩) (Stays.refl _ _) (h.tb hr (by omega) hLj).block
  · rw [Nat.zero_add]
    refine cellsK (hr.row j _ hLj) (h.keep R hR.2 fun j' hj' hk => ?_)
    exact (hr.inn j' (by omega)).2.2 hk
end

/-- Whence one comes is told by the targets alone. -/
theorem predsOf_congr {l l' : List DBlock} {t : Nat} (hl : l.length = l'.length) (h : ∀ j, j < l.length → (l.getD j noBlock).fin.to = (l'.getD j noBlock).fin.to) : predsOf l 0 t = predsOf l' 0 t := by
  rw [predsOf_flat, predsOf_flat, hl]
  refine flatMap_congr9 fun j hj => ?_
  have hj' : j < l'.length := by simpa using hj
  rw [h j (by omega)]

end Go.Proofs.YtnkogppgacappaaGreatDoor

namespace Go.Proofs.YtnkogppgacappaaGreatDoor
open Go.RowKit

structure GSt (w W6 wr : World) (O : Nat) (nm : ByteArray) (p r : Int) (v : Value) (X : Nat → DBlock) (L : List (List Value)) (A B : Nat → Nat) (k : Nat) : Prop where
  below : Below w.heap.size w wr
  size : W6.heap.size ≤ wr.heap.size
  keep : ∀ b, b < W6.heap.size → b ≠ O → wr.heap[b]? = W6.heap[b]?
  box : CellsAt wr O 0 [.string nm, .int .i64 p, .int .i64 r, v]
  free : ∀ j, wr.frozen? ⟨O, j, none⟩ = false
  rg : RG W6.heap.size wr v X L A B k
section
variable {w W6 wr wi w' : World} {O : Nat} {nm : ByteArray} {p r : Int} {v v' : Value} {X : Nat → DBlock} {L : List (List Value)} {A B : Nat → Nat} {k : Nat}
theorem GSt.cell (h : GSt w W6 wr O nm p r v X L A B k) {b o : Nat} {u : Value} (hc : W6.cell? ⟨b, o, none⟩ = some u) (hb : b ≠ O) : wr.cell? ⟨b, o, none⟩ = some u := by
  rw [World.cell?_of_block (w := W6) (a := ⟨b, o, none⟩) (h.keep b (cell_lt hc) hb)]; exact hc
theorem GSt.later (h : GSt w W6 wr O nm p r v X L A B k) (hb : Below wr.heap.size wr wi) (hO : O < W6.heap.size) : GSt w W6 wi O nm p r v X L A B k := by
  have hs := h.size
  refine ⟨h.below.trans (hb.mono h.below.size), Nat.le_trans hs hb.size, fun b h1 h2 => ?_, h.box.later hb, fun j => ?_, h.rg.later hb⟩
  · rw [hb.block b (by omega), h.keep b h1 h2]
  · exact (hb.frozen (p := ⟨O, j, none⟩) (by dsimp only; omega)).trans (h.free j)
/-- A block more. -/
theorem GSt.next (h : GSt w W6 wr O nm p r v X L A B k) (hw : w.heap.size ≤ O) (hO : O < W6.heap.size) {lo hi : Nat} (hlo : W6.heap.size ≤ lo) (hall : ∀ j, j < k → B j ≤ lo) (hhi : hi ≤ wr.heap.size) (hrow : ∀ g, v.ownBlock = some g → ¬ (lo ≤ g ∧ g < hi))
    {cs : List Value} (hx : TB lo hi wr cs (X k)) (hown : Own W6.heap.size w' 76 6 rRaw v' (L ++ [cs])) (hg : wr.grownBy w' v.ownBlock) (hat : v'.ownBlock = v.ownBlock ∨ v'.ownBlock = some wr.heap.size) :
    GSt w W6 (w'.setCell ⟨O, 3, none⟩ v') O nm p r v' X (L ++ [cs]) (fun j => if j = k then lo else A j) (fun j => if j = k then hi else B j) (k + 1) := by
  have hs := h.size
  have hbs := h.below.size
  have hv := h.rg.own.lt
  have hk : ∀ b, b < W6.heap.size → w'.heap[b]? = wr.heap[b]? := fun b hb => hg.block b (by omega) (fun e => by have := hv b e.symm; omega)
  have hsz : (w'.setCell ⟨O, 3, none⟩ v').heap.size = w'.heap.size := by simp [World.setCell]
  have hbel : Below w.heap.size w w' := Below.grown h.below hg hbs (fun g hg => by have := hv g hg; omega)
  refine ⟨hbel.setCell (p := ⟨O, 3, none⟩) hw _, by rw [hsz]; exact Nat.le_trans hs hg.size, fun b h1 h2 => ?_, ?_, fun j => ?_, ?_⟩
  · rw [Below.heap_setCell _ _ _ _ (by dsimp only; exact h2), hk b h1, h.keep b h1 h2]
  · exact cells_set (i := 3) (cellsK h.box (hk O hO)) (by simp) v'
  · have h1 : w'.frozen? ⟨O, j, none⟩ = wr.frozen? ⟨O, j, none⟩ := World.frozen?_of_block (w := wr) (a := ⟨O, j, none⟩) (hk O hO)
    simp [h1, h.free j]
  · exact (h.rg.snoc hlo hall hhi hrow hx hown hg hat).setLow (p := ⟨O, 3, none⟩) hO v'
end

/-- The list as the document sees it between two rounds of the merges' loop: its targets are those of the copied blocks. -/
theorem mix_preds {bs : List DBlock} {ord : List Nat} {n : Nat} (hn : ord.length = n) (i t : Nat) :
    predsOf ((List.range n).map fun j => if j < i then turnX ord (predsOf bs 0 (ord.getD j 0)) (bs.getD (ord.getD j 0) noBlock) else refX ord (bs.getD (ord.getD j 0) noBlock)) 0 t = predsOf (refL bs ord) 0 t := by
  have hl : ((List.range n).map fun j => if j < i then turnX ord (predsOf bs 0 (ord.getD j 0)) (bs.getD (ord.getD j 0) noBlock) else refX ord (bs.getD (ord.getD j 0) noBlock)).length = n := by simp
  refine predsOf_congr (by rw [hl]; unfold refL; simp [hn]) fun j hj => ?_
  rw [hl] at hj
  have h1 : (refL bs ord).getD j noBlock = refX ord (bs.getD (ord.getD j 0) noBlock) := by
    unfold refL
    rw [List.getD_eq_getElem?_getD, List.getElem?_map, List.getD_eq_getElem?_getD (l := ord), List.getElem?_eq_getElem (by omega)]
    rfl
  rw [h1, List.getD_eq_getElem?_getD, List.getElem?_map, List.getElem?_range hj]
  show (if j < i then _ else _ : DBlock).fin.to = _
  split <;> rfl
/-- All rounds done: the blocks in their new order. -/
theorem mix_done {bs : List DBlock} {ord : List Nat} {n : Nat} (hn : ord.length = n) :
    ((List.range n).map fun j => if j < n then turnX ord (predsOf bs 0 (ord.getD j 0)) (bs.getD (ord.getD j 0) noBlock) else refX ord (bs.getD (ord.getD j 0) noBlock)) = turnL bs ord := by
  refine List.ext_getElem? fun j => ?_
  unfold turnL
  by_cases hj : j < n
  · rw [List.getElem?_map, List.getElem?_range hj, List.getElem?_map, List.getElem?_eq_getElem (by omega)]
    simp only [Option.map_some, if_pos hj, List.getD_eq_getElem?_getD, List.getElem?_eq_getElem (show j < ord.length by omega), Option.getD_some]
  · rw [List.getElem?_eq_none (by simp; omega), List.getElem?_eq_none (by simp; omega)]

theorem refSrc_take (ord : List Nat) (fr now : List Int) (src : List DVal) {j : Nat} (hj : j < now.length) :
    refSrc ord fr (now.take (j + 1)) src = refSrc ord fr (now.take j) src ++ pickI ord (now[j]).toNat fr src fr.length := by
  unfold refSrc
  rw [List.take_succ_eq_append_getElem hj, List.flatMap_append]
  simp
theorem refSrc_len (ord : List Nat) (fr now : List Int) (src : List DVal) : (refSrc ord fr now src).length ≤ now.length * fr.length := by
  unfold refSrc
  induction now with
  | nil => simp
  | cons a l ih =>
    rw [List.flatMap_cons, List.length_append, List.length_cons, Nat.add_mul]
    have := pickI_len ord a.toNat fr src fr.length
    omega

theorem BlockIn.keep {lo hi : Nat} {w w' : World} {pv lv tv : Value} {y : DBlock} (h : BlockIn lo hi w pv lv tv y) (hk : ∀ b, lo ≤ b → b < hi → w'.heap[b]? = w.heap[b]?) : BlockIn lo hi w' pv lv tv y := by
  obtain ⟨a1, b1, a2, b2, a3, b3, k1, k2, k3, p12, p13, p23, o1, o2, o3⟩ := h
  exact ⟨a1, b1, a2, b2, a3, b3, k1, k2, k3, p12, p13, p23, o1.kept rPhi_mono (fun k g1 g2 => hk k (by omega) (by omega)), o2.kept rIns_mono (fun k g1 g2 => hk k (by omega) (by omega)), o3.kept rInt_mono (fun k g1 g2 => hk k (by omega) (by omega))⟩
theorem BlockIn.turned2 {lo hi : Nat} {W7 W8 : World} {pv lv tv : Value} {y : DBlock} {ord : List Nat} (hbi : BlockIn lo hi W7 pv lv tv y) (hhi : hi ≤ W7.heap.size) (hts : ToSt W7 W8 tv y.fin.to ord y.fin.to.length) (ho : ord.length ≤ 40) :
    ∃ a1 b1, (lo ≤ a1 ∧ b1 ≤ hi) ∧ OwnIn a1 b1 W8 94 2 rPhi pv y.phis ∧
      SlAt (fun b => lo ≤ b ∧ b < hi ∧ pv.ownBlock ≠ some b) W8 8 rIns lv y.list ∧
      SlAt (fun b => lo ≤ b ∧ b < hi ∧ pv.ownBlock ≠ some b) W8 1 rInt tv (y.fin.to.map (fun t => ((placeOf ord t.toNat : Nat) : Int))) := by
  obtain ⟨a1, b1, a2, b2, a3, b3, k1, k2, k3, p12, p13, p23, o1, o2, o3⟩ := hbi
  have h3 := fun T hT => (o3.row T hT).1
  have kk : ∀ k, k < hi → ¬ (a3 ≤ k ∧ k < b3) → W8.heap[k]? = W7.heap[k]? := fun k hk hn =>
    hts.grow.block k (by omega) (fun e => hn (h3 k e.symm))
  have q1 := fun T hT => (o1.row T hT).1
  have e1 : ∀ b, ¬ (a1 ≤ b ∧ b < b1) → pv.ownBlock ≠ some b := fun b hn e => hn (q1 b e)
  refine ⟨a1, b1, ⟨k1.1, k1.2.2⟩, o1.kept rPhi_mono (fun k h1 h2 => kk k (by omega) (by unfold Apart at p13; omega)), ?_, ?_⟩
  · refine ((o2.kept (w' := W8) rIns_mono (fun k h1 h2 => kk k (by omega) (by unfold Apart at p23; omega))).toSl rIns_mono (by decide)).mono rIns_mono (fun b hb => ?_) (Stays.refl _ _)
    obtain ⟨hb1, hb2⟩ := hb
    exact ⟨by omega, by omega, e1 b (by unfold Apart at p12; omega)⟩
  · obtain ⟨ao, c, hv, n1, n2, -⟩ := o3.toSl rInt_mono (by decide)
    refine ⟨ao, c, by rw [List.length_map]; exact hv, by rw [List.length_map]; exact n1, n2, fun hne => ?_⟩
    have hl : 0 < y.fin.to.length := by
      have := List.length_pos_iff.2 hne
      rwa [List.length_map] at this
    obtain ⟨T, c', cs, hT, hT2, -⟩ := o3.at hl
    have hTT : tv.ownBlock = some T := by rw [hT]; rfl
    rw [hv] at hT
    cases hT
    refine ⟨T, 0, rfl, ⟨by omega, by omega, e1 T (by unfold Apart at p13; omega)⟩, fun i x hx => ?_⟩
    rw [List.getElem?_map] at hx
    cases hq : y.fin.to[i]? with
    | none => rw [hq] at hx; cases hx
    | some q =>
      rw [hq] at hx
      cases hx
      obtain ⟨hi', rfl⟩ := List.getElem?_eq_some_iff.1 hq
      have hc := hts.cells T hTT i hi'
      rw [if_pos hi'] at hc
      have hle : placeOf ord (y.fin.to[i]).toNat ≤ 40 := Nat.le_trans List.idxOf_le_length ho
      refine ⟨_, ⟨rfl, by dsimp only; omega, by dsimp only; omega⟩, rfl, fun j u hj => ?_⟩
      match j, hj with
      | 0, hj => cases hj; rw [Nat.zero_add, Nat.mul_one, Nat.add_zero]; exact hc
      | j + 1, hj => simp at hj

/-- A copied block in its box. -/
def XCut (wr wc : World) (v : Value) (y : DBlock) : Prop :=
  ∃ (xb lo hi : Nat) (pv lv tv : Value), v = .pointer (some ⟨xb, 0, none⟩) ∧ Below wr.heap.size wr wc ∧ CellsAt wc xb 0 [pv, lv, .int .i64 y.fin.kind, .bool y.fin.on.reg, .int .i64 y.fin.on.n, tv] ∧
    BlockIn lo hi wc pv lv tv y ∧ (wr.heap.size ≤ lo ∧ hi ≤ wc.heap.size) ∧ (wr.heap.size ≤ xb ∧ xb < wc.heap.size) ∧ ¬ (lo ≤ xb ∧ xb < hi)
/-- The box is laid behind the copy. -/
theorem XCut.behind {wr w2 : World} {lo : Nat} {pv lv tv : Value} {y : DBlock} (hb : Below wr.heap.size wr w2) (h : BlockIn lo w2.heap.size w2 pv lv tv y) (hlo : wr.heap.size ≤ lo) :
    XCut wr (w2.alloc (.cells #[pv, lv, .int .i64 y.fin.kind, .bool y.fin.on.reg, .int .i64 y.fin.on.n, tv] 76)) (.pointer (some ⟨w2.heap.size, 0, none⟩)) y := by
  have hs := hb.size
  refine ⟨w2.heap.size, lo, w2.heap.size, pv, lv, tv, rfl, hb.alloc hs _, ?_, h.keep (fun b _ h2 => Below.heap_alloc _ _ _ h2), ⟨hlo, by simp⟩, ⟨hs, by simp⟩, by omega⟩
  intro j u hj; rw [Nat.zero_add, World.cell?_alloc_new]; simpa using hj
/-- The box was laid ahead of the copy. -/
theorem XCut.ahead {wr w2 : World} {lo : Nat} {pv lv tv : Value} {y : DBlock} {o0 o1 o2 o3 o4 o5 : Value} (hb : Below wr.heap.size wr w2) (hc : CellsAt w2 wr.heap.size 0 [o0, o1, o2, o3, o4, o5]) (h : BlockIn lo w2.heap.size w2 pv lv tv y) (hlo : wr.heap.size + 1 ≤ lo) :
    XCut wr ((((((w2.setCell ⟨wr.heap.size, 0, none⟩ pv).setCell ⟨wr.heap.size, 1, none⟩ lv).setCell ⟨wr.heap.size, 2, none⟩ (.int .i64 y.fin.kind)).setCell ⟨wr.heap.size, 3, none⟩ (.bool y.fin.on.reg)).setCell ⟨wr.heap.size, 4, none⟩ (.int .i64 y.fin.on.n)).setCell ⟨wr.heap.size, 5, none⟩ tv) (.pointer (some ⟨wr.heap.size, 0, none⟩)) y := by
  have hs := hb.size
  have hx := cell_lt hc.get6.1
  refine ⟨wr.heap.size, lo, w2.heap.size, pv, lv, tv, rfl, ?_, set6 hc, h.keep (fun b h1 _ => ?_), ⟨by omega, by simp [World.setCell]⟩, ⟨Nat.le_refl _, by simpa [World.setCell] using hx⟩, by omega⟩
  · exact (((((hb.setCell (p := ⟨wr.heap.size, 0, none⟩) (Nat.le_refl _) _).setCell (p := ⟨wr.heap.size, 1, none⟩) (Nat.le_refl _) _).setCell (p := ⟨wr.heap.size, 2, none⟩) (Nat.le_refl _) _).setCell (p := ⟨wr.heap.size, 3, none⟩) (Nat.le_refl _) _).setCell (p := ⟨wr.heap.size, 4, none⟩) (Nat.le_refl _) _).setCell (p := ⟨wr.heap.size, 5, none⟩) (Nat.le_refl _) _
  · iterate 6 rw [Below.heap_setCell _ _ _ _ (by dsimp only; omega)]
theorem Build.drew {α : Type} {W0 wr : World} {e : TypeId} {sz : Nat} {r : Rp α} {v : Value} {l : List α} (h : Build W0 wr e sz r v l) (hr : r.Mono) : Build W0 wr.drew e sz r v l := ⟨h.own.later hr (Below.refl _ _).drew, h.old.drew⟩
end Go.Proofs.YtnkogppgacappaaGreatDoor
