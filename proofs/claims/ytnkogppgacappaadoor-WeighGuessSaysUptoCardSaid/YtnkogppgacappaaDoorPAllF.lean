/- loops.AllOf. -/
import Derived.Test.YtnkogppgacappaaDoorPBackF
import Derived.Test.YtnkogppgacappaaDoorPQueue
import Derived.Test.YtnkogppgacappaaDoorPHasInt
import Derived.Test.YtnkogppgacappaaDoorPGAhd
import Derived.Deep.LoopGhost
namespace Go.Proofs.YtnkogppgacappaaDoor
open Go.RowKit

/-- What is read lies in blocks that are there. -/
theorem SlAt.live {α : Type} {r : Rp α} {S : Nat → Prop} {w : World} {sz : Nat} {v : Value} {l : List α} (h0 : 0 < sz) (hr : ∀ cs x, r S w cs x → r (fun b => S b ∧ b < w.heap.size) w cs x) (h : SlAt S w sz r v l) : SlAt (fun b => S b ∧ b < w.heap.size) w sz r v l := by
  obtain ⟨ao, c, h1, h2, h3, h4⟩ := h
  refine ⟨ao, c, h1, h2, h3, fun hne => ?_⟩
  obtain ⟨b, off, h5, h6, h7⟩ := h4 hne
  refine ⟨b, off, h5, ⟨h6, ?_⟩, fun i x hx => ?_⟩
  · cases l with
    | nil => exact absurd rfl hne
    | cons x l =>
      obtain ⟨cs, g1, g2, g3⟩ := h7 0 x rfl
      cases cs with
      | nil => simp at g2; omega
      | cons u cs => exact cell_lt (g3 0 u rfl)
  · obtain ⟨cs, g1, g2, g3⟩ := h7 i x hx
    exact ⟨cs, hr _ _ g1, g2, g3⟩
theorem live_row {S : Nat → Prop} {w : World} (cs : List Value) (x : List Int) (h : rRow S w cs x) : rRow (fun b => S b ∧ b < w.heap.size) w cs x := by
  obtain ⟨v, h1, h2⟩ := h
  exact ⟨v, h1, h2.live (by decide) fun _ _ h => h⟩

/-- A table of rows under way: block O has the slices V; the rows V' hold R, each in memory made since V0; nothing else that was there is turned. -/
structure LpSt (V0 W : World) (O n : Nat) (V V' : Nat → Value) (R : Nat → List Int) : Prop where
  size : V0.heap.size ≤ W.heap.size
  keep : ∀ b, b < V0.heap.size → b ≠ O → W.heap[b]? = V0.heap[b]?
  env : W.os = V0.os ∧ W.tape = V0.tape ∧ W.output = V0.output
  lt : O < V0.heap.size
  row : W.rowIs O 26 n V
  fam : Fam W V0.heap.size 3 n V' (fun t => (R t).map (Value.int .i64))
section
variable {V0 W W' : World} {O n : Nat} {V V' : Nat → Value} {R : Nat → List Int}
theorem LpSt.cellOf (h : LpSt V0 W O n V V' R) {b o : Nat} {u : Value} (hc : V0.cell? ⟨b, o, none⟩ = some u) (h2 : b ≠ O) : W.cell? ⟨b, o, none⟩ = some u := by
  rw [World.cell?_of_block (w := V0) (a := ⟨b, o, none⟩) (h.keep b (cell_lt hc) h2)]; exact hc
theorem LpSt.sl {α : Type} {r : Rp α} (hr : r.Mono) {S : Nat → Prop} {sz : Nat} {v : Value} {l : List α} (h : LpSt V0 W O n V V' R) (hS : ∀ b, S b → b ≠ O) (hs : SlAt S V0 sz r v l) : SlAt S W sz r v l :=
  hs.mono hr (fun _ h => h) (stays_at fun b hb hl => h.keep b hl (hS b hb))
/-- What is turned lies above, in none of the rows. -/
theorem LpSt.off (h : LpSt V0 W O n V V' R) {row : Option Nat} (hg : W.grownBy W' row) (h1 : ∀ k, row = some k → V0.heap.size ≤ k) (hr : ∀ t, t < n → ∀ k, (V' t).ownBlock = some k → row ≠ some k) : LpSt V0 W' O n V V' R := by
  have hz := h.size
  have hl := h.lt
  refine ⟨Nat.le_trans hz hg.size, fun b h2 h3 => ?_, ⟨hg.os.trans h.env.1, hg.tape.trans h.env.2.1, hg.output.trans h.env.2.2⟩, hl, h.row.of_block (hg.block O (by omega) (fun e => by have := h1 O e.symm; omega)), h.fam.off hg hr⟩
  rw [hg.block b (by omega) (fun e => by have := h1 b e.symm; omega)]
  exact h.keep b h2 h3
theorem LpSt.later (h : LpSt V0 W O n V V' R) (hb : Below W.heap.size W W') : LpSt V0 W' O n V V' R :=
  h.off (row := none) ⟨hb.os, hb.tape, hb.output, hb.size, fun k hk _ => hb.block k hk⟩ (fun _ e => by cases e) (fun _ _ _ _ e => by cases e)
/-- Row t is turned. -/
theorem LpSt.put (h : LpSt V0 W O n V V' R) {t : Nat} (ht : t < n) {v' : Value} {l : List Int} (ho : W'.ownsRow V0.heap.size 3 1 v' l.length (l.map (Value.int .i64))) (hg : W.grownBy W' (V' t).ownBlock) (hb : ∀ k, v'.ownBlock = some k → (V' t).ownBlock = some k ∨ W.heap.size ≤ k) :
    LpSt V0 W' O n V (fun u => if u = t then v' else V' u) (fun u => if u = t then l else R u) := by
  have hz := h.size
  have hl := h.lt
  have h1 : ∀ k, (V' t).ownBlock = some k → V0.heap.size ≤ k := fun k e => ((h.fam.own t ht).lt k e).1
  have hf := h.fam.put ht (v' := v') (xs := l.map (Value.int .i64)) (by rw [List.length_map]; exact ho) hg hb
  refine ⟨Nat.le_trans hz hg.size, fun b h2 h3 => ?_, ⟨hg.os.trans h.env.1, hg.tape.trans h.env.2.1, hg.output.trans h.env.2.2⟩, hl, h.row.of_block (hg.block O (by omega) (fun e => by have := h1 O e.symm; omega)), ?_⟩
  · rw [hg.block b (by omega) (fun e => by have := h1 b e.symm; omega)]
    exact h.keep b h2 h3
  · refine ⟨fun u hu => ?_, hf.apart⟩
    have h5 := hf.own u hu
    by_cases hut : u = t
    · simpa only [if_pos hut] using h5
    · simpa only [if_neg hut] using h5
/-- The turned row is stored back. -/
theorem LpSt.store (h : LpSt V0 W O n V V' R) {t : Nat} (hV : ∀ u, u ≠ t → V' u = V u) : LpSt V0 (W.setCell ⟨O, t, none⟩ (V' t)) O n V' V' R := by
  have hr := h.row.set t (V' t)
  have e : (fun u => if u = t then V' t else V u) = V' := by
    funext u
    by_cases hu : u = t
    · rw [if_pos hu, hu]
    · rw [if_neg hu, hV u hu]
  rw [e] at hr
  refine ⟨by simpa [World.setCell] using h.size, fun b h1 h2 => ?_, h.env, h.lt, hr, h.fam.setBelow (a := ⟨O, t, none⟩) h.lt _⟩
  rw [Below.heap_setCell _ _ _ _ (by dsimp only; exact h2)]
  exact h.keep b h1 h2
theorem LpSt.congr {R' : Nat → List Int} (h : LpSt V0 W O n V V' R) (hr : ∀ t, t < n → R t = R' t) : LpSt V0 W O n V V' R' :=
  ⟨h.size, h.keep, h.env, h.lt, h.row, ⟨fun t ht => by rw [← hr t ht]; exact h.fam.own t ht, h.fam.apart⟩⟩
/-- A row, read. -/
theorem LpSt.get (h : LpSt V0 W O n V V' R) {t : Nat} (ht : t < n) : W.ownsRow V0.heap.size 3 1 (V' t) (R t).length ((R t).map (Value.int .i64)) := by
  have := h.fam.own t ht
  rw [List.length_map] at this
  exact this
end

theorem aheadF_len (bs : List DBlock) : (aheadF bs).length = bs.length := by unfold aheadF; simp
/-- Where the queue lies apart from all rows. -/
def QApart (n : Nat) (V' : Nat → Value) (q : Value) : Prop := ∀ t, t < n → ∀ k, (V' t).ownBlock = some k → q.ownBlock ≠ some k

/-- Between two rounds of the gathering. -/
structure GaSt (bs : List DBlock) (V0 W : World) (OB n : Nat) (V : Nat → Value) (R : Nat → List Int) (hd : Nat) (G : List Int) (g : Nat) (iv rv : Value) (row inn : List Int) (V' : Nat → Value) : Prop where
  st : LpSt V0 W OB n V V' (fun u => if u = hd then inn else R u)
  iv : V' hd = iv
  off : ∀ u, u ≠ hd → V' u = V u
  que : QRow V0.heap.size W rv row
  apart : QApart n V' rv
  ga : GathAt (ahdU bs) (hd : Int) n (2 * n) G g row inn
  many : g ≤ gathM n

theorem LpSt.shape {V0 W : World} {O n : Nat} {V V' : Nat → Value} {R : Nat → List Int} (h : LpSt V0 W O n V V' R) {t : Nat} (ht : t < n) : ∃ a c, V' t = .slice a (R t).length c := by
  rcases (h.get ht).2 with ⟨h1, h2⟩ | ⟨g, cap, cur, h1, -⟩
  · exact ⟨none, 0, by rw [h1, h2]⟩
  · exact ⟨_, _, h1⟩
theorem LpSt.done {V0 W : World} {O n lo : Nat} {V : Nat → Value} {R : Nat → List Int} (h : LpSt V0 W O n V V R) (_hn : n ≤ 1048576) (hlo : lo ≤ O) (hR : ∀ t, t < n → ∀ x ∈ R t, I64 x) :
    SlAt (fun b => lo ≤ b ∧ b < W.heap.size) W 1 rRow (.slice (some ⟨O, 0, none⟩) n n) ((List.range n).map R) := by
  have hlt := h.lt
  have hz := h.size
  refine ⟨_, n, by simp, by simp, by omega, fun _ => ⟨O, 0, rfl, ⟨hlo, by omega⟩, fun i x hx => ?_⟩⟩
  rw [List.getElem?_map] at hx
  have hi : i < n := by
    rcases Nat.lt_or_ge i n with h1 | h1
    · exact h1
    · rw [List.getElem?_eq_none (by simpa using h1)] at hx; cases hx
  rw [List.getElem?_range hi] at hx
  cases hx
  refine ⟨[V i], ⟨V i, rfl, ?_⟩, rfl, .cons ?_ (.nil _ _ _)⟩
  · exact ((own_ints (h.get hi) (hR i hi)).live (by decide) (fun _ _ h => h)).mono rInt_mono (fun b hb => ⟨by have := hb.1; omega, hb.2⟩) (Stays.refl _ _)
  · have := h.row.cell hi
    rw [Nat.zero_add, Nat.mul_one]
    exact this
section
variable {bs : List DBlock} {V0 W W1 W2 : World} {OB n : Nat} {V V' : Nat → Value} {R : Nat → List Int} {hd : Nat} {G : List Int} {g : Nat} {iv rv : Value} {row inn : List Int}
theorem GaSt.push (h : GaSt bs V0 W OB n V R hd G g iv rv row inn V') (hhd : hd < n) (hb1 : Below W.heap.size W W1) {v' : Value} {l : List Int} (ho : W2.ownsRow V0.heap.size 3 1 v' l.length (l.map (Value.int .i64))) (hg : W1.grownBy W2 iv.ownBlock)
    (hat : ∀ k, v'.ownBlock = some k → iv.ownBlock = some k ∨ W1.heap.size ≤ k) :
    LpSt V0 W2 OB n V (fun u => if u = hd then v' else V' u) (fun u => if u = hd then l else R u) ∧ QRow V0.heap.size W2 rv row ∧ QApart n (fun u => if u = hd then v' else V' u) rv ∧ (∀ u, u ≠ hd → (if u = hd then v' else V' u) = V u) := by
  have hz1 := hb1.size
  refine ⟨?_, ?_, fun t ht k hk => ?_, fun u hu => by rw [if_neg hu]; exact h.off u hu⟩
  · have h1 := (h.st.later hb1).put hhd (v' := v') (l := l) ho (by rw [h.iv]; exact hg) (by rw [h.iv]; exact hat)
    exact h1.congr fun t _ => by
      by_cases e : t = hd
      · rw [if_pos e, if_pos e]
      · rw [if_neg e, if_neg e, if_neg e]
  · refine h.que.kept fun q hq => ?_
    have hl := (h.que.lt q hq).2
    rw [hg.block q (by omega) (fun e => h.apart hd hhd q (by rw [h.iv]; exact e.symm) hq), hb1.block q hl]
  · dsimp only at hk
    by_cases e : t = hd
    · rw [if_pos e] at hk
      intro hq
      have hl := (h.que.lt k hq).2
      rcases hat k hk with h1 | h1
      · exact h.apart hd hhd k (by rw [h.iv]; exact h1) hq
      · omega
    · rw [if_neg e] at hk
      exact h.apart t ht k hk
theorem q_push (hst : LpSt V0 W OB n V V' R) (hq : QRow V0.heap.size W rv row) (hap : QApart n V' rv) (hb1 : Below W.heap.size W W1) (hg : W1.grownBy W2 rv.ownBlock) {rv' : Value}
    (hat : ∀ k, rv'.ownBlock = some k → rv.ownBlock = some k ∨ W1.heap.size ≤ k) : LpSt V0 W2 OB n V V' R ∧ QApart n V' rv' := by
  have hz1 := hb1.size
  refine ⟨(hst.later hb1).off hg (fun k hk => (hq.lt k hk).1) hap, fun t ht k hk hq2 => ?_⟩
  rcases hat k hq2 with h1 | h1
  · exact hap t ht k hk h1
  · have := ((hst.fam.own t ht).lt k hk).2; omega
end

set_option maxRecDepth 100000 in
set_option maxHeartbeats 4000000 in
theorem allOf_any {S : Nat → Prop} (nm : ByteArray) (p r : Int) (ba : Option Addr) (n bc : Nat) (bs : List DBlock) (w : World) (hb : SlAt S w 6 rBlock (.slice ba n bc) bs) (hS : ∀ b, S b → b < w.heap.size) (hbn : bs.length = n) (hn : n ≤ 1048576) (hto : ToOk bs) :
    Calls Tryd.prog 16 #[.agg #[.string nm, .int .i64 p, .int .i64 r, .slice ba n bc]] w fun e w' =>
      ∃ g, e = .returned (.slice (some ⟨g, 0, none⟩) n n) ∧ SlAt (fun b => w.heap.size ≤ b ∧ b < w'.heap.size) w' 1 rRow (.slice (some ⟨g, 0, none⟩) n n) (allF bs) ∧ Below w.heap.size w w' := by
  have HT : Hid (∀ V, Below w.heap.size w V → Calls Tryd.prog 28 #[.agg #[.string nm, .int .i64 p, .int .i64 r, .slice ba n bc]] V fun e w' =>
      ∃ g, e = .returned (.slice (some ⟨g, 0, none⟩) n n) ∧ V.heap.size ≤ g ∧ SlAt (fun b => b = g) w' 1 rInt (.slice (some ⟨g, 0, none⟩) n n) (treeF bs) ∧ Below V.heap.size V w') :=
    fun V hV => treeOf_any (S := S) nm p r ba n bc bs V (hb.later rBlock_mono hV) (fun b hb => Nat.lt_of_lt_of_le (hS b hb) hV.size) hbn hn hto
  have HA : Hid (∀ V, Below w.heap.size w V → Calls Tryd.prog 29 #[.agg #[.string nm, .int .i64 p, .int .i64 r, .slice ba n bc]] V fun e w' =>
      ∃ a c, e = .returned (.slice a n c) ∧ SlAt (fun b => V.heap.size ≤ b ∧ b < w'.heap.size) w' 1 rRow (.slice a n c) (aheadF bs) ∧ Below V.heap.size V w') := fun V hV => by
    have h := gahead_any (S := S) nm p r ba bc bs V (by rw [hbn]; exact hb.later rBlock_mono hV) (by omega) hto.tgt
    rw [hbn] at h
    refine h.mono ?_
    rintro e w' ⟨v, rfl, h1, h2⟩
    obtain ⟨a, c, rfl, -⟩ := h1.val
    rw [aheadF_len, hbn] at h1 ⊢
    exact ⟨a, c, rfl, h1.live (by decide) live_row, h2⟩
  have HB : Hid (∀ V, Below w.heap.size w V → Calls Tryd.prog 30 #[.agg #[.string nm, .int .i64 p, .int .i64 r, .slice ba n bc]] V fun e w' =>
      ∃ v, e = .returned v ∧ SlAt (fun b => V.heap.size ≤ b ∧ b < w'.heap.size) w' 2 rPair v (backF bs) ∧ Below V.heap.size V w') :=
    fun V hV => backOf_any (S := S) nm p r ba n bc bs V (hb.later rBlock_mono hV) (fun b hb => Nat.lt_of_lt_of_le (hS b hb) hV.size) hbn hn hto
  have Hbn := hid hbn
  have Hto := hid hto
  have hn0 : 0 < n := by rw [← hbn]; exact hto.pos
  have hmk := run_make_row' (P := Tryd.prog) 58 26 (.slice none 0 0) 24 Tryd.underlying58 infoInts rfl .i64 .i64 n (by omega) (by omega)
  obtain ⟨i0, hi, hz0, hz1, hz2⟩ := info_parts infoIntA
  obtain ⟨W, hW⟩ : ∃ W, W = w.alloc (.cells #[.string nm, .int .i64 p, .int .i64 r, .slice ba n bc] 35) := ⟨_, rfl⟩
  have hbW : Below w.heap.size w W := by rw [hW]; (repeat (first | exact Below.refl _ _ | refine Below.alloc ?_ (by first | omega | (simp <;> omega)) _ | refine Below.setCell ?_ (by first | omega | (simp <;> omega)) _ | refine below_drewN ?_ _ | refine Below.drew ?_))
  have v0 : W.cell? ⟨w.heap.size, 0, none⟩ = some (.string nm) := by rw [hW]; simp
  have v1 : W.cell? ⟨w.heap.size, 1, none⟩ = some (.int .i64 p) := by rw [hW]; simp
  have v2 : W.cell? ⟨w.heap.size, 2, none⟩ = some (.int .i64 r) := by rw [hW]; simp
  have v3 : W.cell? ⟨w.heap.size, 3, none⟩ = some (.slice ba n bc) := by rw [hW]; simp
  have hWs : W.heap.size = w.heap.size + 1 := by rw [hW]; simp
  have Hcl : Hid (∀ w', Below W.heap.size W w' → w'.cell? ⟨w.heap.size, 0, none⟩ = some (.string nm) ∧ w'.cell? ⟨w.heap.size, 1, none⟩ = some (.int .i64 p) ∧ w'.cell? ⟨w.heap.size, 2, none⟩ = some (.int .i64 r) ∧ w'.cell? ⟨w.heap.size, 3, none⟩ = some (.slice ba n bc)) :=
    fun w' h => ⟨cell_later' v0 h, cell_later' v1 h, cell_later' v2 h, cell_later' v3 h⟩
  have Hpre : Hid (∀ V, Below W.heap.size W V → Below w.heap.size w V) := fun V hV => hbW.trans (hV.mono hbW.size)
  have HbW := hid hbW
  have HW := hid hW
  clear hb hbn hto hS hbW hW v0 v1 v2 v3
  go_enter Tryd.func16, Tryd.ntmps16
  go_upto_region 1 with (fail)
  rw [← HW.out]
  have zW : w.heap.size < W.heap.size := by omega
  clear hWs
  obtain ⟨BX, hBX⟩ : ∃ BX, BX = w.heap.size := ⟨_, rfl⟩
  rw [← hBX] at Hcl zW ⊢
  have HBX := hid hBX
  clear hBX
  go_region_held3 (fun w' => w'.cell? ⟨BX, 0, none⟩ = some (.string nm) ∧ w'.cell? ⟨BX, 1, none⟩ = some (.int .i64 p) ∧ w'.cell? ⟨BX, 2, none⟩ = some (.int .i64 r) ∧ w'.cell? ⟨BX, 3, none⟩ = some (.slice ba n bc))
    (exact Hcl.out _ (by first | exact hFA | exact hFT | exact (Below.refl _ _).drew))
    ((first
      | (go_at_call 28; refine (HT.out _ (Hpre.out _ ?_)).mono ?_; exact (Below.refl _ _).drew; rintro e wT ⟨UP, rfl, hUP, hsT, hbT⟩; have hFT : Below W.heap.size W wT := (Below.refl W.heap.size W).drew.trans hbT)
      | (go_at_call 29; refine (HA.out _ (Hpre.out _ ?_)).mono ?_; exact hFT; rintro e wA ⟨aa, ac, rfl, hsA, hbA⟩; have hFA : Below W.heap.size W wA := hFT.trans (hbA.mono hFT.size))))
  have HFA := hid hFA
  have hUPw : w.heap.size ≤ UP := by have := HbW.out.size; have : W.heap.size ≤ UP := by simpa using hUP
                                     omega
  have HsT := hid (hsT.later rInt_mono hbA)
  have hUl : UP < wT.heap.size := by
    have h := hsT.live (by decide) (fun _ _ h => h)
    obtain ⟨_, _, _, e, h5, -⟩ := h.get (k := 0) (by rw [treeF_len, Hbn.out]; exact hn0)
    cases e
    exact h5.2
  have hUPa : UP < wA.heap.size := by have := hbA.size; omega
  have hsA2 : SlAt (fun b => w.heap.size ≤ b ∧ b < wA.heap.size) wA 1 rRow (.slice aa n ac) (aheadF bs) := hsA.mono rRow_mono (fun b hb => ⟨by have := hb.1; have := hFT.size; have := HbW.out.size; omega, hb.2⟩) (Stays.refl _ _)
  have HsA := hid hsA2
  obtain ⟨g0, g1, g2, g3⟩ := Hcl.out _ hFA
  have zf : BX < wA.heap.size := cell_lt g0
  clear hFT hFA hsA hbA hsT hbT hUP hUl hsA2
  obtain ⟨OB, hOB⟩ : ∃ OB, OB = wA.heap.size := ⟨_, rfl⟩
  obtain ⟨W3, hW3⟩ : ∃ W3, W3 = wA.alloc (.cells (madeCells #[.slice none 0 0] n) 26) := ⟨_, rfl⟩
  have hb3 : Below wA.heap.size wA W3 := by rw [hW3]; (repeat (first | exact Below.refl _ _ | refine Below.alloc ?_ (by first | omega | (simp <;> omega)) _ | refine Below.setCell ?_ (by first | omega | (simp <;> omega)) _ | refine below_drewN ?_ _ | refine Below.drew ?_))
  have Hrow3 : Hid (W3.rowIs OB 26 n (fun _ => .slice none 0 0)) := by rw [hW3, hOB]; exact World.rowIs_made _ _ _ _
  have h3s : W3.heap.size = OB + 1 := by rw [hW3, hOB]; simp
  have HF3 : Hid (Below W.heap.size W W3) := HFA.out.trans (hb3.mono HFA.out.size)
  have Hb3 := hid hb3
  have HW3 := hid hW3
  have HOA := hid hOB
  have Hz3 := hid h3s
  clear hb3 hW3 hOB h3s
  go_upto_region 3 with (fail)
  rw [← HW3.out, ← HOA.out]
  obtain ⟨g0, g1, g2, g3⟩ := Hcl.out _ HF3.out
  have zf3 : BX < W3.heap.size := cell_lt g0
  go_wp2_with (go_at_call 30; refine (HB.out _ (Hpre.out _ HF3.out)).mono ?_; rintro e V0 ⟨bv, rfl, hsB, hbB⟩; obtain ⟨ba2, bc2, hbv, -⟩ := id hsB.val; subst hbv)
  have hK2 : (backF bs).length ≤ 2 * n := by have := backTo_len Hto.out bs.length; rw [Hbn.out] at this; unfold backF; rw [Hbn.out]; exact this
  obtain ⟨K, hK⟩ : ∃ K, K = (backF bs).length := ⟨_, rfl⟩
  rw [← hK] at hsB hK2 ⊢
  have HK := hid hK
  have HsB := hid hsB
  have hO0 : OB < V0.heap.size := by have := hbB.size; have := Hz3.out; omega
  have hst0 : LpSt V0 V0 OB n (fun _ => .slice none 0 0) (fun _ => .slice none 0 0) (allTo bs 0) :=
    ⟨Nat.le_refl _, fun _ _ _ => rfl, ⟨rfl, rfl, rfl⟩, hO0, Hrow3.out.of_block (hbB.block OB (by have := Hz3.out; omega)), ⟨fun t ht => by simpa [allTo] using World.ownsRow_nil _ _ _ _, fun t u k _ _ _ hk => by cases hk⟩⟩
  have Hst0 := hid hst0
  have HV0 : Hid (Below wA.heap.size wA V0) := Hb3.out.trans (hbB.mono Hb3.out.size)
  have HsT0 := hid (HsT.out.later rInt_mono HV0.out)
  have HsA0 := hid (HsA.out.later rRow_mono HV0.out)
  have HF0 : Hid (Below W.heap.size W V0) := HFA.out.trans (HV0.out.mono HFA.out.size)
  have HUO : Hid (UP ≠ OB ∧ w.heap.size ≤ OB) := by
    have h1 := HsT.out.live (by decide) (fun _ _ h => h)
    obtain ⟨_, _, _, e, h5, -⟩ := h1.get (k := 0) (by rw [treeF_len, Hbn.out]; exact hn0)
    cases e
    have h2 := h5.2
    have h3 := HFA.out.size
    have h4 := HbW.out.size
    have h6 := HOA.out
    exact ⟨by omega, by omega⟩
  clear hsB hK hst0 hbB g0 g1 g2 g3 zf zf3 hO0
  go_loopw [26] (fun s26 wr => ∃ (k : Nat) (V : Nat → Value), k ≤ K ∧ s26 = .int .i64 (k : Int) ∧ LpSt V0 wr OB n V V (allTo bs k)) (fun s26 _ => K - (intOf s26).toNat)
  case atStart => exact ⟨0, _, Nat.zero_le _, rfl, Hst0.out⟩
  case round =>
    obtain ⟨wo, hwo⟩ : ∃ wo : World, wo = wr := ⟨_, rfl⟩
    subst hwo
    obtain ⟨k, V, hk, rfl, hlp⟩ := hrel
    have Hlp := hid hlp
    by_cases hkK : k < K
    · have hkl : k < (backF bs).length := by rw [← HK.out]; exact hkK
      obtain ⟨⟨pt, ph⟩, hpr⟩ : ∃ pr, pr = (backF bs)[k] := ⟨_, rfl⟩
      have hin := backF_in Hto.out _ (List.getElem_mem hkl)
      rw [← hpr, Hbn.out] at hin
      dsimp only at hin
      obtain ⟨bb, boff, cs, hba2, hSb, hrp, -, hcs⟩ := (hlp.sl rPair_mono (fun b hb => by have := hb.1; have := Hz3.out; omega) HsB.out).get hkl
      subst hba2
      have hrp' : cs = [.int .i64 pt, .int .i64 ph] := by
        have h : cs = [.int .i64 ((backF bs)[k]).1, .int .i64 ((backF bs)[k]).2] := hrp
        rw [← hpr] at h
        exact h
      subst hrp'
      obtain ⟨l0, l1⟩ := hcs.get2
      obtain ⟨tl, rfl⟩ := Int.eq_ofNat_of_zero_le hin.1.1
      obtain ⟨hd, rfl⟩ := Int.eq_ofNat_of_zero_le hin.2.1
      have htln : tl < n := by omega
      have hhdn : hd < n := by omega
      have Hstep : Hid (allTo bs (k + 1) = allStep bs (allTo bs k) ((tl : Int), (hd : Int))) := by show _ = _; rw [allTo_succ bs k hkl, ← hpr]
      have Hrl : Hid (∀ V, Below wo.heap.size wo V → Calls Tryd.prog 31 #[.slice (some ⟨UP, 0, none⟩) n n, .int .i64 (hd : Int), .int .i64 (tl : Int)] V fun e w' => e = .returned (.bool (rulesF (treeF bs) (hd : Int) (psF bs tl + 1) (tl : Int))) ∧ V = w') := fun V hV => by
        have h := rules_any (S := fun b => b = UP) (some ⟨UP, 0, none⟩) n n (treeF bs) (psF bs) (hd : Int) (tl : Int) V ((Hlp.out.sl rInt_mono (fun b hb => by have := HUO.out.1; omega) HsT0.out).later rInt_mono hV) (by rw [treeF_len, Hbn.out]) hn (treeF_up Hto.out) (by omega)
        rw [Int.toNat_natCast] at h
        exact h.mono fun _ _ ⟨h1, h2⟩ => ⟨h1, h2.symm⟩
      obtain ⟨q, hq⟩ : ∃ q, q = rulesF (treeF bs) (hd : Int) (psF bs tl + 1) (tl : Int) := ⟨_, rfl⟩
      rw [← hq] at Hrl
      have Hq := hid hq
      have zb : bb < wo.heap.size := cell_lt l0
      clear hlp hpr hin hrp hcs hSb hkl hq
      go_wp2_with fail
      go_quiet (fail)
      obtain ⟨W1, hW1⟩ : ∃ W1, W1 = (wo.alloc (.cells #[.int .i64 (tl : Int), .int .i64 (hd : Int)] 77)).drewN nq := ⟨_, rfl⟩
      have hb1 : Below wo.heap.size wo W1 := by rw [hW1]; (repeat (first | exact Below.refl _ _ | refine Below.alloc ?_ (by first | omega | (simp <;> omega)) _ | refine Below.setCell ?_ (by first | omega | (simp <;> omega)) _ | refine below_drewN ?_ _ | refine Below.drew ?_))
      rw [← hW1]
      have hst1 := Hlp.out.later hb1
      have Hst1 := hid hst1
      have Hrl1 := hid (Hrl.out W1 hb1)
      have Hb1 := hid hb1
      clear l0 l1 zb hW1 hb1 Hrl
      cases q with
      | false =>
        go_wp2_with (go_at_call 31; refine Hrl1.out.mono ?_; rintro e w' ⟨rfl, rfl⟩)
        go_roundw
        case rel =>
          refine ⟨k + 1, V, by omega, by go_num, Hst1.out.congr fun t _ => ?_⟩
          rw [Hstep.out]
          unfold allStep
          rw [if_neg (by rw [Int.toNat_natCast, ← Hq.out]; simp)]
        case measure => simp [intOf]; omega
      | true =>
        obtain ⟨va, vc, hv⟩ := hst1.shape hhdn
        have c0 := hst1.row.cell hhdn
        rw [hv] at c0
        have hRok := allTo_ok Hto.out k (by rw [← HK.out]; exact hk) hd
        have hga0 := gath_at (bs := bs) (tail := (tl : Int)) (head := (hd : Int)) (by rw [Hbn.out]; omega) (by rw [Hbn.out]; omega) hRok
        have hHstep : Hid (allTo bs (k + 1) = fun h => if h = hd then sortI (gathB bs (tl : Int) (hd : Int) (allTo bs k hd)) else allTo bs k h) := by
          show _ = _
          rw [Hstep.out]
          unfold allStep
          rw [if_pos (by rw [Int.toNat_natCast, ← Hq.out])]
          funext h
          dsimp only
          rw [Int.toNat_natCast]
          by_cases e : h = hd
          · rw [if_pos e, if_pos e, e]
          · rw [if_neg e, if_neg e]
        rw [Hbn.out] at hga0
        obtain ⟨G, hG⟩ : ∃ G, G = gathB bs (tl : Int) (hd : Int) (allTo bs k hd) := ⟨_, rfl⟩
        rw [← hG] at hga0 hHstep
        have Hga0 := hid hga0
        have Hv := hid hv
        obtain ⟨rn, hrn⟩ : ∃ rn, rn = (allTo bs k hd).length := ⟨_, rfl⟩
        rw [← hrn] at c0
        have Hrn := hid hrn
        clear hst1 hv hRok hga0 hG Hstep Hlp hrn
        go_wp2_with (go_at_call 31; refine Hrl1.out.mono ?_; rintro e w' ⟨rfl, rfl⟩)
        obtain ⟨W2, hW2⟩ : ∃ W2, W2 = W1.alloc (.cells #[.int .i64 (hd : Int), .int .i64 (tl : Int)] 3) := ⟨_, rfl⟩
        rw [← hW2]
        have hb2 : Below W1.heap.size W1 W2 := by rw [hW2]; (repeat (first | exact Below.refl _ _ | refine Below.alloc ?_ (by first | omega | (simp <;> omega)) _ | refine Below.setCell ?_ (by first | omega | (simp <;> omega)) _ | refine below_drewN ?_ _ | refine Below.drew ?_))
        have hX : W2.heap[W1.heap.size]? = some (.cells #[.int .i64 (hd : Int), .int .i64 (tl : Int)] 3 (0, 0)) := by rw [hW2]; exact heap_alloc_new _ _
        have HX := hid hX
        have Hst2 := hid (Hst1.out.later hb2)
        clear hW2 hb2 hX c0
        go_loopg [10, 11] (gathM n) (fun g s10 s11 wr => ∃ (row inn : List Int) (V' : Nat → Value) (ia : Option Addr) (ic qg qo qc : Nat), s10 = .slice ia inn.length ic ∧ s11 = .slice (some ⟨qg, qo, none⟩) row.length qc ∧
          GaSt bs V0 wr OB n V (allTo bs k) hd G g (.slice ia inn.length ic) (.slice (some ⟨qg, qo, none⟩) row.length qc) row inn V')
        case atStart =>
          refine ⟨[(hd : Int), (tl : Int)], allTo bs k hd, V, va, vc, W1.heap.size, 0, 2, by rw [Hrn.out], rfl, ⟨Hst2.out.congr (fun t _ => ?_), Hv.out, fun _ _ => rfl, ⟨W1.heap.size, 0, 2, _, rfl, ?_, HX.out, Nat.le_refl _, by unfold maxLen; decide, Nat.le_refl _, fun i x hx => ?_⟩, fun t ht kk hkk e => ?_, Hga0.out, Nat.le_refl _⟩⟩
          · by_cases e : t = hd
            · rw [if_pos e, e]
            · rw [if_neg e]
          · have := Hst1.out.size; exact this
          · match i, hx with
            | 0, hx => cases hx; rfl
            | 1, hx => cases hx; rfl
            | i + 2, hx => simp at hx
          · cases e
            have := ((Hst1.out.fam.own t ht).lt _ hkk).2
            dsimp only at this
            omega
        case round =>
          obtain ⟨wm, hwm⟩ : ∃ wm : World, wm = wr := ⟨_, rfl⟩
          subst hwm
          obtain ⟨row, inn, V', ia, ic, qg, qo, qc, rfl, rfl, hga⟩ := hrel
          have Hga := hid hga
          cases row with
          | nil =>
            have hinn : inn = G := hga.ga.done
            subst hinn
            have hok := hga.ga.ok
            have hown : OwnInts V0.heap.size wm (.slice ia inn.length ic) inn := by
              have h := hga.st.get hhdn
              rw [hga.iv] at h
              simp only [if_pos] at h
              exact ⟨h, fun x hx => by have := hok.have_ x hx; unfold I64; omega⟩
            have hil := hok.many
            have Hsort := hid (sort_own hown (by omega))
            have Hst := hid (fun (X : World) (v' : Value) (l : List Int) => hga.push (W2 := X) (v' := v') (l := l) hhdn (Below.refl _ _))
            obtain ⟨il, hil'⟩ : ∃ il, il = inn.length := ⟨_, rfl⟩
            rw [← hil'] at Hsort Hst ⊢
            have Hil := hid hil'
            have Hiv : Hid (V' hd = .slice ia il ic) := by show _ = _; rw [hil']; exact hga.iv
            have Hrow := hid hga.st.row
            clear hga hok hown hil hil'
            go_wp2_with (go_at_call 33; refine Hsort.out.mono ?_; rintro e w7 ⟨rfl, ho7, hg7⟩
                         obtain ⟨hst7, -, -, hoff7⟩ := Hst.out w7 (.slice ia il ic) (sortI inn) ho7.1 hg7 (fun _ h => .inl h)
                         have c7 := hst7.row.cell hhdn
                         have f7 := hst7.row.frozen hd
                         have hs7 := hst7.store (t := hd) hoff7
                         rw [if_pos rfl] at hs7
                         have Hs7 := hid hs7
                         have z7 : OB < w7.heap.size := cell_lt c7
                         clear ho7 hg7 hst7 hoff7 hs7)
            go_roundw
            case rel =>
              refine ⟨k + 1, _, by omega, by go_num, Hs7.out.congr fun t _ => ?_⟩
              rw [hHstep.out]
            case measure => simp [intOf]; omega
          | cons b row' =>
            have hok := hga.ga.ok
            have hbw := hok.wait b (List.mem_cons_self ..)
            obtain ⟨bk, rfl⟩ := Int.eq_ofNat_of_zero_le hbw.1
            have hbkn : bk < n := by omega
            have hq0 := hga.que.head
            have hqt := hga.que.tail
            obtain ⟨g9, o9, c9, hqe, -, hqg, hql, hqc⟩ := hga.que.opens
            cases hqe
            have hown := hga.st.get hhdn
            rw [hga.iv] at hown
            simp only [if_pos] at hown
            have hsl := own_ints hown (fun x hx => by have := hok.have_ x hx; unfold I64; omega)
            have hil := hok.many
            have hcon := containsInt_any ia inn.length ic inn (bk : Int) wm hsl rfl (by omega)
            rw [hasInt_mem] at hcon
            obtain ⟨il, hil'⟩ : ∃ il, il = inn.length := ⟨_, rfl⟩
            obtain ⟨rl, hrl⟩ : ∃ rl, rl = ((bk : Int) :: row').length := ⟨_, rfl⟩
            have hrl0 : 0 < rl := by rw [hrl]; simp
            have hrl1 : row'.length = rl - 1 := by rw [hrl]; simp
            rw [← hil'] at hcon hown hil ⊢
            rw [← hrl] at hqt hql ⊢
            have Hil := hid hil'
            have Hrl2 := hid hrl
            have Hrl1 := hid hrl1
            have Hqt := hid hqt
            have Hqt0 := hid (fun hc => hga.que.tail0 (cap := qc) hc)
            rw [← hrl] at Hqt0
            have Hown := hid (hown.alloc (.cells #[.int .i64 (bk : Int)] 3))
            by_cases hbi : (bk : Int) ∈ inn
            · obtain ⟨m', hm', hga'⟩ := hga.ga.skip hbi
              rw [decide_eq_true hbi] at hcon
              have Hcon := hid hcon
              have Hga' := hid hga'
              clear hga hok hbw hqt hown hsl hil hcon hil' hrl hrl1 hbi hga'
              go_wp2_with (go_at_call 32; refine Hcon.out.mono ?_; rintro e w' ⟨rfl, rfl⟩)
              · rename_i h
                go_roundg m'
                case measure => exact hm'
                case rel => exact ⟨row', inn, V', ia, ic, qg, qo, 0, by rw [Hil.out], by rw [Hrl1.out], ⟨Hga.out.st, Hga.out.iv, Hga.out.off, by rw [Hrl1.out]; exact Hqt0.out h, fun t ht kk hkk e => Hga.out.apart t ht kk hkk e, Hga'.out, by have := Hga.out.many; omega⟩⟩
              · go_roundg m'
                case measure => exact hm'
                case rel => exact ⟨row', inn, V', ia, ic, qg, qo + 1, qc - 1, by rw [Hil.out], by rw [Hrl1.out], ⟨Hga.out.st, Hga.out.iv, Hga.out.off, by rw [Hrl1.out]; exact Hqt.out, fun t ht kk hkk e => Hga.out.apart t ht kk hkk e, Hga'.out, by have := Hga.out.many; omega⟩⟩
            · rw [decide_eq_false hbi] at hcon
              have Hcon := hid hcon
              have Hbi := hid hbi
              clear hga hok hbw hqt hown hsl hcon hil' hrl hrl1 hbi
              go_wp2_with (first
                | (go_at_call 32; refine Hcon.out.mono ?_; rintro e w' ⟨rfl, rfl⟩)
                | (at_builtin; refine wpList_append_own_at _ rfl _ _ 26 rfl V0.heap.size 3 i0 (.int .i64 0) 1 8 Tryd.underlying26 hi hz0 hz1 hz2 rfl (by decide) _ il _ rfl Hown.out ⟨wm.heap.size, 0, none⟩ 1 1 [.int .i64 (bk : Int)] rfl rfl (cell_one_new _ _ _) ?_ ?_ ?_ ?_ ?_))
              · intro u hu; simp at hu; subst hu; rfl
              · unfold maxLen; omega
              · omega
              · have := Hga.out.st.size; simp; omega
              · intro v7 w7 hown7 hgrow hnil hat
                obtain ⟨g7, cap7, rfl, -, hg7⟩ := own_shape hown7
                have hbm : Below wm.heap.size wm (wm.alloc (.cells #[.int .i64 (bk : Int)] 3)) := by (repeat (first | exact Below.refl _ _ | refine Below.alloc ?_ (by first | omega | (simp <;> omega)) _ | refine Below.setCell ?_ (by first | omega | (simp <;> omega)) _ | refine below_drewN ?_ _ | refine Below.drew ?_))
                obtain ⟨hst7, hq7, hap7, hoff7⟩ := Hga.out.push hhdn hbm (v' := .slice (some ⟨g7, 0, none⟩) (il + 1) cap7) (l := inn ++ [(bk : Int)]) (by rw [List.length_append, List.length_singleton, List.map_append, ← Hil.out]; exact hown7) (by rw [← Hil.out]; exact hgrow)
                  (fun kk hkk => by
                    rcases hat with h | h
                    · rw [← Hil.out]; exact .inl (h.symm.trans hkk)
                    · rw [h] at hkk; cases hkk; exact .inr (by simp))
                obtain ⟨V7, hV7⟩ : ∃ V7 : Nat → Value, V7 = fun u => if u = hd then .slice (some ⟨g7, 0, none⟩) (il + 1) cap7 else V' u := ⟨_, rfl⟩
                have HV7 : Hid (V7 hd = .slice (some ⟨g7, 0, none⟩) (il + 1) cap7) := by show _ = _; rw [hV7]; exact if_pos rfl
                have Hoff7 : Hid (∀ u, u ≠ hd → V7 u = V u) := by rw [hV7]; exact hoff7
                rw [← hV7] at hst7 hap7
                rw [← Hrl2.out] at hq7 hap7
                have Hst7 := hid hst7
                have Hq7 := hid hq7
                have Hap7 := hid hap7
                have hqc7 := hq7.lt qg rfl
                have hq07 := hq7.head
                have hqt7 := hq7.tail
                have Hqt7 := hid hqt7
                have Hqt70 := hid (fun hc => hq7.tail0 (cap := qc) hc)
                have z7 := hqc7.2
                clear hown7 hgrow hnil hat hbm hst7 hq7 hap7 hoff7 hV7 hq0 hqt7 hqc7 hqg
                by_cases hbh : bk = hd
                · obtain ⟨m', hm', hga'⟩ := Hga.out.ga.atHead Hbi.out (by rw [hbh])
                  have Hga' := hid hga'
                  have q1 : (decide ((bk : Int) ≤ (hd : Int)) && decide ((hd : Int) ≤ (bk : Int))) = true := eq_yes (by rw [hbh])
                  have q2 : (decide (bk ≤ hd) && decide (hd ≤ bk)) = true := eq_yesN hbh
                  clear hga' hbh hq07
                  go_wp2_with fail
                  · rename_i h
                    go_roundg m'
                    case measure => exact hm'
                    case rel => exact ⟨row', inn ++ [(bk : Int)], V7, some ⟨g7, 0, none⟩, cap7, qg, qo, 0, by rw [List.length_append, List.length_singleton, ← Hil.out], by rw [Hrl1.out], ⟨Hst7.out, by rw [List.length_append, List.length_singleton, ← Hil.out]; exact HV7.out, Hoff7.out, by rw [Hrl1.out]; exact Hqt70.out h, fun t ht kk hkk e => Hap7.out t ht kk hkk e, Hga'.out, by have := Hga.out.many; omega⟩⟩
                  · go_roundg m'
                    case measure => exact hm'
                    case rel => exact ⟨row', inn ++ [(bk : Int)], V7, some ⟨g7, 0, none⟩, cap7, qg, qo + 1, qc - 1, by rw [List.length_append, List.length_singleton, ← Hil.out], by rw [Hrl1.out], ⟨Hst7.out, by rw [List.length_append, List.length_singleton, ← Hil.out]; exact HV7.out, Hoff7.out, by rw [Hrl1.out]; exact Hqt7.out, fun t ht kk hkk e => Hap7.out t ht kk hkk e, Hga'.out, by have := Hga.out.many; omega⟩⟩
                · obtain ⟨m', hm', hga'⟩ := Hga.out.ga.take Hbi.out (by omega) (fun x hx => by rw [← Hbn.out]; exact ahdU_in bs _ x hx) (by rw [← Hbn.out]; exact ahdU_len Hto.out _)
                  have Hga' := hid hga'
                  have q1 : (decide ((bk : Int) ≤ (hd : Int)) && decide ((hd : Int) ≤ (bk : Int))) = false := eq_no (by omega)
                  have q2 : (decide (bk ≤ hd) && decide (hd ≤ bk)) = false := eq_noN hbh
                  clear hga' hbh hq07
                  have hOw : ∀ b, w.heap.size ≤ b ∧ b < wA.heap.size → b ≠ OB := fun b hb => by have := HOA.out; omega
                  obtain ⟨rb, roff, cs, haa, -, ⟨rv, rfl, hrow⟩, -, hcs⟩ := HsA0.out.get (k := bk) (by rw [aheadF_len, Hbn.out]; exact hbkn)
                  subst haa
                  have hP : (aheadF bs)[bk]'(by rw [aheadF_len, Hbn.out]; exact hbkn) = predsOf bs 0 bk := by
                    have h := aheadF_getD (bs := bs) (k := bk) (by rw [Hbn.out]; exact hbkn)
                    rw [List.getD_eq_getElem?_getD, List.getElem?_eq_getElem (by rw [aheadF_len, Hbn.out]; exact hbkn)] at h
                    exact h
                  rw [hP] at hrow
                  have hrc := hcs.get1
                  rw [Nat.mul_one] at hrc
                  obtain ⟨P, hPd⟩ : ∃ P, P = predsOf bs 0 bk := ⟨_, rfl⟩
                  have hPl : P.length ≤ 2 * n := by rw [hPd, ← Hbn.out]; exact predsOf_len2 Hto.out bk
                  have hPin : ∀ x ∈ P, 0 ≤ x ∧ x < (n : Int) := by rw [hPd, ← Hbn.out]; exact fun x hx => by have := predsOf_mem hx; omega
                  rw [← hPd] at hrow
                  obtain ⟨pa, pc, rfl, -⟩ := hrow.val
                  obtain ⟨pn, hpn⟩ : ∃ pn, pn = P.length := ⟨_, rfl⟩
                  rw [← hpn] at hrc hrow hPl
                  have Hrow := hid hrow
                  have Hpn := hid hpn
                  have HPin := hid hPin
                  have HOw := hid hOw
                  have r0 := Hst7.out.cellOf hrc (by
                    have h := HsA0.out.live (by decide) live_row
                    obtain ⟨_, _, _, e, h5, -⟩ := h.get (k := bk) (by rw [aheadF_len, Hbn.out]; exact hbkn)
                    cases e
                    exact HOw.out _ h5.1)
                  have zr : rb < w7.heap.size := cell_lt r0
                  have Hah : Hid (ahdU bs ((bk : Int)).toNat = P.filter (inTree bs)) := by show _ = _; rw [Int.toNat_natCast, hPd]; rfl
                  have hrl7 : ((bk : Int) :: row').length + pn ≤ 17592186044415 := by
                    have h1 := Hga.out.ga.left
                    have h2 := Hga.out.many
                    unfold gathM at h2
                    have h3 : n * (2 * n + 1) ≤ 1048576 * (2 * 1048576 + 1) := Nat.mul_le_mul hn (by omega)
                    omega
                  have Hrl7 := hid hrl7
                  clear hrc hrow hPd hpn hPin hP hcs hOw hrl7
                  go_wp2_with fail
                  go_loopw [11, 69] (fun s11 s69 wj => ∃ (j qg qo qc : Nat), j ≤ pn ∧ s69 = .int .i64 (j : Int) ∧ s11 = .slice (some ⟨qg, qo, none⟩) ((bk : Int) :: row' ++ (P.take j).filter (inTree bs)).length qc ∧
                    LpSt V0 wj OB n V V7 (fun u => if u = hd then inn ++ [(bk : Int)] else allTo bs k u) ∧ QRow V0.heap.size wj (.slice (some ⟨qg, qo, none⟩) ((bk : Int) :: row' ++ (P.take j).filter (inTree bs)).length qc) ((bk : Int) :: row' ++ (P.take j).filter (inTree bs)) ∧
                    QApart n V7 (.slice (some ⟨qg, qo, none⟩) ((bk : Int) :: row' ++ (P.take j).filter (inTree bs)).length qc)) (fun _ s69 _ => pn - (intOf s69).toNat)
                  case atStart =>
                    have e : (bk : Int) :: row' ++ (P.take 0).filter (inTree bs) = (bk : Int) :: row' := by simp
                    refine ⟨0, qg, qo, qc, Nat.zero_le _, rfl, ?_, Hst7.out, ?_, ?_⟩
                    · rw [e, ← Hrl2.out]
                    · rw [e, ← Hrl2.out]; exact Hq7.out
                    · rw [e, ← Hrl2.out]; exact Hap7.out
                  case round =>
                    obtain ⟨wj, hwj⟩ : ∃ wj : World, wj = wr := ⟨_, rfl⟩
                    subst hwj
                    obtain ⟨j, qg', qo', qc', hj, rfl, rfl, hstj, hqj, hapj⟩ := hrel
                    have Hstj := hid hstj
                    have Hqj := hid hqj
                    have Hapj := hid hapj
                    by_cases hjp : j < pn
                    · have hjl : j < P.length := by rw [← Hpn.out]; exact hjp
                      have hai := HPin.out P[j] (List.getElem_mem hjl)
                      obtain ⟨an, han⟩ := Int.eq_ofNat_of_zero_le hai.1
                      have hann : an < n := by omega
                      obtain ⟨xb, xo, hxa, e0⟩ := int_at (hstj.sl rInt_mono HOw.out Hrow.out) hjl
                      subst hxa
                      rw [han] at e0
                      have hatl : an < (treeF bs).length := by rw [treeF_len, Hbn.out]; exact hann
                      obtain ⟨ub, uo, hua, u0⟩ := int_at (hstj.sl rInt_mono (fun b hb => by have := HUO.out.1; omega) HsT0.out) hatl
                      cases hua
                      rw [Nat.zero_add] at u0
                      obtain ⟨x, hx⟩ : ∃ x, x = (treeF bs)[an] := ⟨_, rfl⟩
                      rw [← hx] at u0
                      have hin : inTree bs (an : Int) = (decide ((an : Int) = 0) || decide (0 ≤ x)) := by
                        unfold inTree
                        rw [Int.toNat_natCast, List.getD_eq_getElem?_getD, List.getElem?_eq_getElem hatl, hx]; rfl
                      have hstep : (P.take (j + 1)).filter (inTree bs) = (P.take j).filter (inTree bs) ++ (if inTree bs (an : Int) = true then [(an : Int)] else []) := by
                        rw [List.take_succ_eq_append_getElem hjl, List.filter_append, han]
                        congr 1
                        by_cases h : inTree bs (an : Int) = true
                        · rw [if_pos h, List.filter_cons_of_pos h]; rfl
                        · rw [if_neg h, List.filter_cons_of_neg h]; rfl
                      have zx : xb < wj.heap.size := cell_lt e0
                      have zu : UP < wj.heap.size := cell_lt u0
                      have hqlen : ((bk : Int) :: row' ++ (P.take j).filter (inTree bs)).length + 1 ≤ 17592186044416 := by
                        have h1 := List.length_filter_le (inTree bs) (P.take j)
                        rw [List.length_take] at h1
                        rw [List.length_append]
                        have := Hrl7.out
                        omega
                      obtain ⟨ql, hql'⟩ : ∃ ql, ql = ((bk : Int) :: row' ++ (P.take j).filter (inTree bs)) := ⟨_, rfl⟩
                      rw [← hql'] at Hqj Hapj hqlen ⊢
                      have Hql := hid hql'
                      obtain ⟨qn, hqn⟩ : ∃ qn, qn = ql.length := ⟨_, rfl⟩
                      rw [← hqn] at Hqj Hapj hqlen ⊢
                      have Hqn := hid hqn
                      have Hin := hid hin
                      have Hstep := hid hstep
                      have hz := hstj.size
                      clear hstj hqj hapj hai han hx hin hstep hql' hqn hatl hjl r0
                      by_cases hc : an = 0 ∨ 0 ≤ x
                      · have Hs2 : Hid ((bk : Int) :: row' ++ (P.take (j + 1)).filter (inTree bs) = ql ++ [(an : Int)]) := by
                          show _ = _
                          rw [Hstep.out, if_pos (by rw [Hin.out]; rcases hc with h | h <;> simp [h]), Hql.out, List.append_assoc]
                        have harm : ∀ (wq : World), Below wj.heap.size wj wq → QRow V0.heap.size wq (.slice (some ⟨qg', qo', none⟩) qn qc') ql := fun wq hb => Hqj.out.kept (fun g hg => hb.block g (Hqj.out.lt g hg).2)
                        have Harm := hid harm
                        clear harm
                        by_cases ha0 : an = 0
                        · subst ha0
                          have e1 : wj.cell? ⟨xb, xo + j, none⟩ = some (.int .i64 0) := e0
                          have Hs2 : Hid ((bk : Int) :: row' ++ (P.take (j + 1)).filter (inTree bs) = ql ++ [0]) := Hs2.out
                          clear hc e0
                          go_upto_region 20 with (fail)
                          go_wp2_with (at_builtin; refine wpList_append_Q rfl _ _ 26 rfl i0 Tryd.underlying26 hi hz0 hz1 hz2 V0.heap.size ?_ (.slice (some ⟨qg', qo', none⟩) qn qc') ql rfl ?_ ⟨wj.heap.size, 0, none⟩ 1 0 rfl ?_ ?_ ?_)
                          · simp; omega
                          · exact Harm.out _ (by (repeat (first | exact Below.refl _ _ | refine Below.alloc ?_ (by first | omega | (simp <;> omega)) _ | refine Below.setCell ?_ (by first | omega | (simp <;> omega)) _ | refine below_drewN ?_ _ | refine Below.drew ?_)))
                          · exact new_cells wj [.int .i64 0] 3 rfl 0 _ rfl
                          · have := Hqn.out; omega
                          · intro v8 w8 hq8 hg8 hat8
                            obtain ⟨g8, o8, c8, hv8, -, -, -, -⟩ := hq8.opens
                            have hbj : Below wj.heap.size wj (wj.alloc (.cells #[.int .i64 0] 3)) := by (repeat (first | exact Below.refl _ _ | refine Below.alloc ?_ (by first | omega | (simp <;> omega)) _ | refine Below.setCell ?_ (by first | omega | (simp <;> omega)) _ | refine below_drewN ?_ _ | refine Below.drew ?_))
                            obtain ⟨hst8, hap8⟩ := q_push Hstj.out Hqj.out Hapj.out hbj hg8 (fun k hk => by have h := hat8 k hk; simpa using h)
                            subst hv8
                            have Hst8 := hid hst8
                            have Hap8 := hid hap8
                            have Hq8 := hid hq8
                            clear hq8 hg8 hat8 hbj hst8 hap8
                            go_wp2_with fail
                            go_roundw
                            case rel =>
                              refine ⟨j + 1, g8, o8, c8, by omega, by go_num, ?_, Hst8.out, ?_, ?_⟩
                              · rw [Hs2.out]
                              · rw [Hs2.out]; exact Hq8.out
                              · rw [Hs2.out]; exact Hap8.out
                            case measure => simp [intOf]; omega
                        · have q3 : (decide ((an : Int) ≤ 0) && decide ((0 : Int) ≤ (an : Int))) = false := eq_no (by omega)
                          have q4 : decide (0 ≤ x) = true := decide_eq_true (by omega)
                          clear hc
                          go_upto_region 20 with (fail)
                          go_wp2_with (at_builtin; refine wpList_append_Q rfl _ _ 26 rfl i0 Tryd.underlying26 hi hz0 hz1 hz2 V0.heap.size ?_ (.slice (some ⟨qg', qo', none⟩) qn qc') ql rfl ?_ ⟨wj.heap.size, 0, none⟩ 1 (an : Int) rfl ?_ ?_ ?_)
                          · simp; omega
                          · exact Harm.out _ (by (repeat (first | exact Below.refl _ _ | refine Below.alloc ?_ (by first | omega | (simp <;> omega)) _ | refine Below.setCell ?_ (by first | omega | (simp <;> omega)) _ | refine below_drewN ?_ _ | refine Below.drew ?_)))
                          · exact new_cells wj [.int .i64 (an : Int)] 3 rfl 0 _ rfl
                          · have := Hqn.out; omega
                          · intro v8 w8 hq8 hg8 hat8
                            obtain ⟨g8, o8, c8, hv8, -, -, -, -⟩ := hq8.opens
                            have hbj : Below wj.heap.size wj (wj.alloc (.cells #[.int .i64 (an : Int)] 3)) := by (repeat (first | exact Below.refl _ _ | refine Below.alloc ?_ (by first | omega | (simp <;> omega)) _ | refine Below.setCell ?_ (by first | omega | (simp <;> omega)) _ | refine below_drewN ?_ _ | refine Below.drew ?_))
                            obtain ⟨hst8, hap8⟩ := q_push Hstj.out Hqj.out Hapj.out hbj hg8 (fun k hk => by have h := hat8 k hk; simpa using h)
                            subst hv8
                            have Hst8 := hid hst8
                            have Hap8 := hid hap8
                            have Hq8 := hid hq8
                            clear hq8 hg8 hat8 hbj hst8 hap8
                            go_wp2_with fail
                            go_roundw
                            case rel =>
                              refine ⟨j + 1, g8, o8, c8, by omega, by go_num, ?_, Hst8.out, ?_, ?_⟩
                              · rw [Hs2.out]
                              · rw [Hs2.out]; exact Hq8.out
                              · rw [Hs2.out]; exact Hap8.out
                            case measure => simp [intOf]; omega
                      · have ha0 : ¬ an = 0 := fun h => hc (.inl h)
                        have q3 : (decide ((an : Int) ≤ 0) && decide ((0 : Int) ≤ (an : Int))) = false := eq_no (by omega)
                        have q4 : decide (0 ≤ x) = false := decide_eq_false (fun h => hc (.inr h))
                        have Hs2 : Hid ((bk : Int) :: row' ++ (P.take (j + 1)).filter (inTree bs) = ql) := by
                          show _ = _
                          rw [Hstep.out, if_neg (by
                            rw [Hin.out]
                            have h1 : decide ((an : Int) = 0) = false := decide_eq_false (by omega)
                            rw [h1, q4]; simp), List.append_nil, Hql.out]
                        clear hc
                        go_wp2_with fail
                        go_roundw
                        case rel =>
                          refine ⟨j + 1, qg', qo', qc', by omega, by go_num, ?_, Hstj.out, ?_, ?_⟩
                          · rw [Hs2.out, ← Hqn.out]
                          · rw [Hs2.out, ← Hqn.out]; exact Hqj.out
                          · rw [Hs2.out, ← Hqn.out]; exact Hapj.out
                        case measure => simp [intOf]; omega
                    · have hjn : j = pn := by omega
                      have hF : (P.take j).filter (inTree bs) = ahdU bs ((bk : Int)).toNat := by rw [hjn, Hpn.out, List.take_length]; exact Hah.out.symm
                      rw [hF] at hqj hapj ⊢
                      obtain ⟨rest, hrest⟩ : ∃ rest, rest = row' ++ ahdU bs ((bk : Int)).toNat := ⟨_, rfl⟩
                      have hre : (bk : Int) :: row' ++ ahdU bs ((bk : Int)).toNat = (bk : Int) :: rest := by rw [hrest]; rfl
                      rw [hre] at hqj hapj ⊢
                      have hqt8 := hqj.tail
                      have Hqt80 := hid (fun hc => hqj.tail0 (cap := qc') hc)
                      obtain ⟨g9, o9, c9, hqe, -, hqg8, hql8, hqc8⟩ := hqj.opens
                      cases hqe
                      obtain ⟨ln, hln⟩ : ∃ ln, ln = ((bk : Int) :: rest).length := ⟨_, rfl⟩
                      have hln0 : 0 < ln := by rw [hln]; simp
                      have hln1 : rest.length = ln - 1 := by rw [hln]; simp
                      rw [← hln] at hqt8 Hqt80 hql8 hapj ⊢
                      have Hqt8 := hid hqt8
                      have Hap8 := hid hapj
                      have Hln1 := hid hln1
                      have Hga8 : Hid (GathAt (ahdU bs) (hd : Int) n (2 * n) G m' rest (inn ++ [(bk : Int)])) := by rw [hrest]; exact Hga'.out
                      clear hstj hqj hapj hF hrest hre hqt8 hln hln1 hjn
                      go_wp2_with fail
                      · rename_i h
                        go_roundg m'
                        case measure => exact hm'
                        case rel => exact ⟨rest, inn ++ [(bk : Int)], V7, some ⟨g7, 0, none⟩, cap7, qg', qo', 0, by rw [List.length_append, List.length_singleton, ← Hil.out], by rw [Hln1.out], ⟨Hstj.out, by rw [List.length_append, List.length_singleton, ← Hil.out]; exact HV7.out, Hoff7.out, by rw [Hln1.out]; exact Hqt80.out h, fun t ht kk hkk e => Hap8.out t ht kk hkk e, Hga8.out, by have := Hga.out.many; omega⟩⟩
                      · go_roundg m'
                        case measure => exact hm'
                        case rel => exact ⟨rest, inn ++ [(bk : Int)], V7, some ⟨g7, 0, none⟩, cap7, qg', qo' + 1, qc' - 1, by rw [List.length_append, List.length_singleton, ← Hil.out], by rw [Hln1.out], ⟨Hstj.out, by rw [List.length_append, List.length_singleton, ← Hil.out]; exact HV7.out, Hoff7.out, by rw [Hln1.out]; exact Hqt8.out, fun t ht kk hkk e => Hap8.out t ht kk hkk e, Hga8.out, by have := Hga.out.many; omega⟩⟩
    · have hkK' : k = K := by omega
      subst hkK'
      have hz := hlp.size
      have hzW := HbW.out.size
      have hz0 := HF0.out.size
      have Hsl : Hid (SlAt (fun b => w.heap.size ≤ b ∧ b < wo.heap.size) wo 1 rRow (.slice (some ⟨OB, 0, none⟩) n n) (allF bs)) := by
        have h := hlp.done (lo := w.heap.size) hn HUO.out.2 (fun t ht x hx => by have := (allTo_ok Hto.out k (by rw [← HK.out]; exact Nat.le_refl _) t).have_ x hx; rw [Hbn.out] at this; unfold I64; omega)
        unfold allF allN
        rw [Hbn.out, ← HK.out]
        exact h
      have Hbw : Hid (Below w.heap.size w wo) := by
        have h := HbW.out.trans (HF0.out.mono hzW)
        exact ⟨hlp.env.1.trans h.os, hlp.env.2.1.trans h.tape, hlp.env.2.2.trans h.output, by omega, fun b hb => (hlp.keep b (by omega) (by have := HUO.out.2; omega)).trans (h.block b hb)⟩
      clear hlp hz hzW hz0
      go_wp2_with fail
      go_ret
      exact ⟨OB, rfl, Hsl.out, Hbw.out⟩

end Go.Proofs.YtnkogppgacappaaDoor
