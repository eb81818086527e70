/- calls.graph: whom each function calls. -/
import Derived.Test.YtaehkcnankijfaaDoorPSortI
import Derived.Test.YtaehkcnankijfaaDoorPHeldR
import Derived.Test.YtaehkcnankijfaaDoorPStill
import Derived.Test.YtaehkcnankijfaaDoorPRefRi
namespace Go.Proofs.YtaehkcnankijfaaDoor
open Go.RowKit Go.Shelf Go.Sort

attribute [local go_sem] Oper.semAt_some

/-- The rows so far: those below k are done, the others empty. -/
structure GSt (W1 W : World) (AB n k : Nat) (fs : List DFunc) (V : Nat → Value) : Prop where
  size : W1.heap.size ≤ W.heap.size
  keep : ∀ b, b < W1.heap.size → b ≠ AB → W.heap[b]? = W1.heap[b]?
  env : W.os = W1.os ∧ W.tape = W1.tape ∧ W.output = W1.output
  row : W.rowIs AB 26 n V
  done : ∀ t, t < k → SlAt (fun b => W1.heap.size ≤ b ∧ b < W.heap.size) W 1 rInt (V t) (rowG (fs.getD t noFunc))
  left : ∀ t, k ≤ t → V t = .slice none 0 0
/-- Within a function: of what was there only the row of rows is turned, at one place. -/
structure GIn (Wk W : World) (AB n k : Nat) (V : Nat → Value) (v : Value) (l : List Int) : Prop where
  size : Wk.heap.size ≤ W.heap.size
  keep : ∀ b, b < Wk.heap.size → b ≠ AB → W.heap[b]? = Wk.heap[b]?
  env : W.os = Wk.os ∧ W.tape = Wk.tape ∧ W.output = Wk.output
  row : W.rowIs AB 26 n (fun t => if t = k then v else V t)
  own : W.ownsRow Wk.heap.size 3 1 v l.length (l.map (Value.int .i64))
section
variable {W1 Wk W W' : World} {AB n k : Nat} {fs : List DFunc} {V : Nat → Value} {v : Value} {l : List Int}
theorem GSt.cell (h : GSt W1 W AB n k fs V) {b o : Nat} {u : Value} (hc : W1.cell? ⟨b, o, none⟩ = some u) (h2 : b ≠ AB) : W.cell? ⟨b, o, none⟩ = some u := by
  rw [World.cell?_of_block (w := W1) (a := ⟨b, o, none⟩) (h.keep b (cell_lt hc) h2)]; exact hc
theorem GIn.cell (h : GIn Wk W AB n k V v l) {b o : Nat} {u : Value} (hc : Wk.cell? ⟨b, o, none⟩ = some u) (h2 : b ≠ AB) : W.cell? ⟨b, o, none⟩ = some u := by
  rw [World.cell?_of_block (w := Wk) (a := ⟨b, o, none⟩) (h.keep b (cell_lt hc) h2)]; exact hc
theorem GIn.grown (h : GIn Wk W AB n k V v l) {row : Option Nat} (hg : W.grownBy W' row) (hA : AB < Wk.heap.size) (hr : ∀ r, row = some r → Wk.heap.size ≤ r) (hv : v.ownBlock = none ∨ v.ownBlock ≠ row) : GIn Wk W' AB n k V v l := by
  have hs := h.size
  refine ⟨Nat.le_trans hs hg.size, fun b h1 h2 => ?_, ⟨hg.os.trans h.env.1, hg.tape.trans h.env.2.1, hg.output.trans h.env.2.2⟩, h.row.of_block ?_, h.own.kept hg hv⟩
  · exact (hg.block b (by omega) (fun e => by have := hr b e.symm; omega)).trans (h.keep b h1 h2)
  · exact hg.block AB (by omega) (fun e => by have := hr AB e.symm; omega)
/-- The row at work is another one now. -/
theorem GIn.put (h : GIn Wk W AB n k V v l) {row : Option Nat} (hg : W.grownBy W' row) (hA : AB < Wk.heap.size) (hr : ∀ r, row = some r → Wk.heap.size ≤ r) {v' : Value} {l' : List Int} (ho : W'.ownsRow Wk.heap.size 3 1 v' l'.length (l'.map (Value.int .i64))) :
    GIn Wk (W'.setCell ⟨AB, k, none⟩ v') AB n k V v' l' := by
  have hs := h.size
  have hrow : W'.rowIs AB 26 n (fun t => if t = k then v else V t) := h.row.of_block (hg.block AB (by omega) (fun e => by have := hr AB e.symm; omega))
  refine ⟨by simpa [World.setCell] using Nat.le_trans hs hg.size, fun b h1 h2 => ?_, ⟨hg.os.trans h.env.1, hg.tape.trans h.env.2.1, hg.output.trans h.env.2.2⟩, (hrow.set k v').congr (fun i _ => ?_), ownsRow_setCell_below ho hA v'⟩
  · rw [Below.heap_setCell _ _ _ _ (by dsimp only; exact h2)]
    exact (hg.block b (by omega) (fun e => by have := hr b e.symm; omega)).trans (h.keep b h1 h2)
  · by_cases e : i = k <;> simp [e]
/-- The row at work holds another list now. -/
theorem GIn.turn (h : GIn Wk W AB n k V v l) {row : Option Nat} (hg : W.grownBy W' row) (hA : AB < Wk.heap.size) (hr : ∀ r, row = some r → Wk.heap.size ≤ r) {l' : List Int} (ho : W'.ownsRow Wk.heap.size 3 1 v l'.length (l'.map (Value.int .i64))) :
    GIn Wk W' AB n k V v l' := by
  have hs := h.size
  refine ⟨Nat.le_trans hs hg.size, fun b h1 h2 => (hg.block b (by omega) (fun e => by have := hr b e.symm; omega)).trans (h.keep b h1 h2), ⟨hg.os.trans h.env.1, hg.tape.trans h.env.2.1, hg.output.trans h.env.2.2⟩, h.row.of_block (hg.block AB (by omega) (fun e => by have := hr AB e.symm; omega)), ho⟩
theorem GSt.start (h : GSt W1 Wk AB n k fs V) : GIn Wk Wk AB n k V (.slice none 0 0) [] :=
  ⟨Nat.le_refl _, fun _ _ _ => rfl, ⟨rfl, rfl, rfl⟩, h.row.congr (fun i _ => by
    by_cases e : i = k
    · rw [if_pos e, h.left i (by omega)]
    · rw [if_neg e]), World.ownsRow_nil _ _ _ 1⟩
theorem GSt.kept (h : GSt W1 W AB n k fs V) (hb : Below W.heap.size W W') (hA : AB < W1.heap.size) : GSt W1 W' AB n k fs V := by
  have hs := h.size
  refine ⟨Nat.le_trans hs hb.size, fun b h1 h2 => (hb.block b (by omega)).trans (h.keep b h1 h2), ⟨hb.os.trans h.env.1, hb.tape.trans h.env.2.1, hb.output.trans h.env.2.2⟩, h.row.of_block (hb.block AB (by omega)), fun t ht => ?_, h.left⟩
  exact ((h.done t ht).later rInt_mono hb).mono rInt_mono (fun b hb' => ⟨hb'.1, Nat.lt_of_lt_of_le hb'.2 hb.size⟩) (Stays.refl _ _)
theorem GIn.next (h : GIn Wk W AB n k V v l) (h0 : GSt W1 Wk AB n k fs V) (hA : AB < W1.heap.size) (hl : l = rowG (fs.getD k noFunc)) (hi : ∀ x ∈ l, I64 x) : GSt W1 W AB n (k + 1) fs (fun t => if t = k then v else V t) := by
  have hs := h.size
  have hs0 := h0.size
  refine ⟨Nat.le_trans h0.size h.size, fun b h1 h2 => (h.keep b (by omega) h2).trans (h0.keep b h1 h2), ⟨h.env.1.trans h0.env.1, h.env.2.1.trans h0.env.2.1, h.env.2.2.trans h0.env.2.2⟩, h.row, fun t ht => ?_, fun t ht => ?_⟩
  · by_cases e : t = k
    · subst e
      simp only [if_true]
      rw [← hl]
      exact (OwnInts.sl ⟨h.own, hi⟩).mono rInt_mono (fun b hb => ⟨by have := hb.1; omega, hb.2⟩) (Stays.refl _ _)
    · simp only [if_neg e]
      refine (h0.done t (by omega)).mono rInt_mono (fun b hb => ⟨hb.1, by have := hb.2; omega⟩) (stays_at fun b hb hl => h.keep b hl (by have := hb.1; omega))
  · rw [if_neg (by omega)]
    exact h0.left t (by omega)
theorem GSt.all (h : GSt W1 W AB n n fs V) (hn : n = fs.length) (hn1 : n ≤ 1048576) (B : Nat) (hB : B ≤ AB) (hA : AB < W1.heap.size) : SlAt (fun b => B ≤ b ∧ b < W.heap.size) W 1 rRow (.slice (some ⟨AB, 0, none⟩) n n) (graphF fs) := by
  have hs := h.size
  have hgl : (graphF fs).length = n := by unfold graphF; rw [List.length_map, hn]
  refine ⟨_, n, by rw [hgl], by rw [hgl]; exact Nat.le_refl _, by omega, fun _ => ⟨AB, 0, rfl, ⟨hB, by omega⟩, fun i x hx => ?_⟩⟩
  have hi : i < n := by rw [← hgl]; exact (List.getElem?_eq_some_iff.1 hx).1
  have hx' : x = rowG (fs.getD i noFunc) := by
    have h1 := graphF_at (fs := fs) (k := i) (by omega)
    rw [List.getD_eq_getElem?_getD, hx] at h1
    exact h1
  subst hx'
  refine ⟨[V i], ⟨V i, rfl, ?_⟩, rfl, .cons (by simpa using h.row.cell hi) (.nil _ _ _)⟩
  exact (h.done i hi).mono rInt_mono (fun b hb => ⟨by have := hb.1; omega, hb.2⟩) (Stays.refl _ _)
end
theorem calls_i64 {S : Nat → Prop} {w : World} {xa : Option Addr} {n xc : Nat} {bs : List DBlock} (h : SlAt S w 6 rBlock (.slice xa n xc) bs) : ∀ x ∈ callsL (bs.flatMap (·.list)), I64 x := by
  intro x hx
  obtain ⟨y, hy, -, rfl⟩ := mem_callsL.1 hx
  obtain ⟨b, hb, hyb⟩ := List.mem_flatMap.1 hy
  obtain ⟨i, hi, rfl⟩ := List.getElem_of_mem hb
  obtain ⟨j, hj, rfl⟩ := List.getElem_of_mem hyb
  obtain ⟨_, _, _, _, _, _, _, _, _, _, _, hli, _⟩ := block_at h hi
  obtain ⟨_, _, _, _, _, _, _, hI⟩ := ins_at hli hj
  exact hI.2.2.2.2
theorem shut_cell {B : Nat} {W W' : World} (h : Shut B W W') {b o : Nat} {u : Value} (hc : W.cell? ⟨b, o, none⟩ = some u) : W'.cell? ⟨b, o, none⟩ = some u := by
  have hc2 := hc
  simp only [World.cell?] at hc
  cases hh : W.heap[b]? with
  | none => rw [hh] at hc; cases hc
  | some ob =>
    rw [hh] at hc
    cases ob with
    | cells c t f => rw [World.cell?_of_block (w := W) (a := ⟨b, o, none⟩) ((h.2 b c t f hh).trans hh.symm)]; exact hc2
    | _ => cases hc
/-- append of one number onto a row of the call's own, as a step of a region that draws its order. -/
theorem step_append_int {w : World} {ops : Array Oper} {o : Oper} {a : Act} {K : Act → World → Prop} {Q : Exit → Act → World → Prop} {E : Prop} (hgd : o.guard = none) (s x : Operand)
    (ho : o.op = .call { callee := .builtin .append, args := #[s, x], argTypes := #[26, 26] })
    (base : Nat) (v : Value) (l : List Int) (hs : a.eval s = v) (hown : w.ownsRow base 3 1 v l.length (l.map (Value.int .i64))) (nb : Nat) (y : Int) (hx : a.eval x = .slice (some ⟨nb, 0, none⟩) 1 1) (hc : w.cell? ⟨nb, 0, none⟩ = some (.int .i64 y))
    (hn : l.length + 1 ≤ 1048576) (hbase : base ≤ w.heap.size)
    (h : ∀ v' w', w'.ownsRow base 3 1 v' (l ++ [y]).length ((l ++ [y]).map (Value.int .i64)) → w.grownBy w' v.ownBlock → K (a.put o.dst v') w') :
    if Region.wanted o (yielded ops a.tmps) = true then Oper.wp Tryd.prog o a w K Q else E := by
  have hw : Region.wanted o (yielded ops a.tmps) = true := by simp [Region.wanted, hgd]
  rw [if_pos hw]
  obtain ⟨ii, hii, hz0, hz1, hz2⟩ := info_parts infoInt'
  obtain ⟨v', w', hr, h2, h3, -⟩ := run_append_own (P := Tryd.prog) w base 26 o.type 3 ii (.int .i64 0) 1 8 Tryd.underlying26 hii hz0 hz1 hz2 rfl (by decide) v l.length _ hown ⟨nb, 0, none⟩ 1 1 [.int .i64 y] rfl (fun j u hj => by
      match j, hj with
      | 0, hj => cases hj; exact hc
      | j + 1, hj => simp at hj) (fun u hu => by simp at hu; subst hu; rfl) (by unfold maxLen; omega) (by omega) hbase
  unfold Oper.wp execOp
  simp only [ho, resolve, invoke, builtin, Sem.run_bind, Sem.run_pure, Result.andThen_ok, List.map_toArray, List.map_cons, List.map_nil, hs, hx, hr]
  exact h v' w' (by rw [List.length_append, List.map_append]; exact h2) h3

set_option maxRecDepth 100000 in
set_option maxHeartbeats 8000000 in
theorem graph_any {S : Nat → Prop} (ga fa : Option Addr) (gn gc fc : Nat) (fs : List DFunc) (w : World) (hf : SlAt S w 4 rFunc (.slice fa fs.length fc) fs) (hS : ∀ b, S b → b < w.heap.size)
    (hfn : fs.length ≤ 1048576) (hsm : ∀ (k : Nat) (f : DFunc), fs[k]? = some f → manyOf f.blocks ≤ 1048576 ∧ f.blocks.length ≤ 1048576) :
    Calls Tryd.prog 145 #[.agg #[.slice ga gn gc, .slice fa fs.length fc]] w fun e w' =>
      ∃ AB, e = .returned (.slice (some ⟨AB, 0, none⟩) fs.length fs.length) ∧ SlAt (fun b => w.heap.size ≤ b ∧ b < w'.heap.size) w' 1 rRow (.slice (some ⟨AB, 0, none⟩) fs.length fs.length) (graphF fs) ∧ Below w.heap.size w w' := by
  have Hf := hid hf
  have HS := hid hS
  have Hsm := hid hsm
  clear hf hS hsm
  have hmk := run_make_row' (P := Tryd.prog) 53 26 (.slice none 0 0) 24 Tryd.underlying53 infoInts rfl .i64 .i64 fs.length (by omega) (by omega)
  refine (callsIn_wide (n := 6)).1 ?_
  refine callsIn_of_wp_marks Tryd.func145 rfl trivial ?_ rfl
  simp only [Tryd.ntmps145, List.size_toArray, List.length_cons, List.length_nil, Nat.reduceAdd, Nat.reduceSub, Array.replicate_succ, Array.replicate_zero, List.push_toArray, List.append_toArray, List.nil_append, List.cons_append]
  gi_wp2
  clear hmk
  obtain ⟨W1, hW1⟩ : ∃ W1, W1 = ((w.alloc (.cells #[.slice ga gn gc, .slice fa fs.length fc] 25)).alloc (.cells (madeCells #[.slice none 0 0] fs.length) 26)).alloc (.cells #[.slice (some ⟨w.heap.size + 1, 0, none⟩) fs.length fs.length] 53) := ⟨_, rfl⟩
  have hbW : Below w.heap.size w W1 := by rw [hW1]; (repeat (first | exact Below.refl _ _ | refine Below.alloc ?_ (by first | omega | (simp <;> omega)) _ | refine Below.setCell ?_ (by first | omega | (simp <;> omega)) _ | refine below_drewN ?_ _ | refine Below.drew ?_))
  obtain ⟨hWs, hU, hR, hO⟩ : W1.heap.size = w.heap.size + 3 ∧ W1.heap[w.heap.size]? = _ ∧ W1.heap[w.heap.size + 1]? = _ ∧ W1.heap[w.heap.size + 1 + 1]? = _ := by rw [hW1]; exact heap_three' _ _ _ _
  have u1 : W1.cell? ⟨w.heap.size, 1, none⟩ = some (.slice fa fs.length fc) := by rw [cell_row hU]; rfl
  have o0 : W1.cell? ⟨w.heap.size + 1 + 1, 0, none⟩ = some (.slice (some ⟨w.heap.size + 1, 0, none⟩) fs.length fs.length) := by rw [cell_row hO]; rfl
  have hrow0 : W1.rowIs (w.heap.size + 1) 26 fs.length (fun _ => .slice none 0 0) := by
    have h := World.rowIs_made (w.alloc (.cells #[.slice ga gn gc, .slice fa fs.length fc] 25)) (.slice none 0 0) fs.length 26
    rw [show (w.alloc (.cells #[.slice ga gn gc, .slice fa fs.length fc] 25)).heap.size = w.heap.size + 1 by simp] at h
    rw [hW1]
    exact h.alloc _
  have hst : GSt W1 W1 (w.heap.size + 1) fs.length 0 fs (fun _ => .slice none 0 0) := ⟨Nat.le_refl _, fun _ _ _ => rfl, ⟨rfl, rfl, rfl⟩, hrow0, fun t ht => absurd ht (Nat.not_lt_zero _), fun _ _ => rfl⟩
  rw [← hW1]
  have Hst := hid hst
  have HbW := hid hbW
  have HWs := hid hWs
  have UC := hid u1
  have OC := hid o0
  clear hW1 hbW hWs hU hR hO u1 o0 hrow0 hst
  refine wpIn_loop (fun a W => ∃ (k : Nat) (ds : List Deferred) (V : Nat → Value) (u4 u14 u15 u16 u17 u18 u19 u20 u40 u41 u42 u43 u44 u45 u46 u47 u48 u49 u50 u51 u52 u53 : Value), a = { tmps := #[(.agg #[.slice ga gn gc, .slice fa fs.length fc]), (.pointer (some ⟨w.heap.size, 0, none⟩)), (.slice none 0 0), (.pointer (some ⟨w.heap.size + 1 + 1, 0, none⟩)), u4, undef, (.pointer (some ⟨w.heap.size, 1, none⟩)), (.slice fa fs.length fc), (.int .i64 (fs.length : Int)), (.slice (some ⟨w.heap.size + 1, 0, none⟩) fs.length fs.length), (.pointer (some ⟨w.heap.size, 1, none⟩)), (.slice fa fs.length fc), (.int .i64 (fs.length : Int)), (.int .i64 (k : Int)), u14, u15, u16, u17, u18, u19, u20, undef, undef, undef, undef, undef, undef, undef, undef, undef, undef, undef, undef, undef, undef, undef, undef, undef, undef, undef, u40, u41, u42, u43, u44, u45, u46, u47, u48, u49, u50, u51, u52, u53, undef], defers := ds } ∧ k ≤ fs.length ∧ GSt W1 W (w.heap.size + 1) fs.length k fs V ∧ Marks W1.heap.size W.heap.size ds W)
    (fun a _ => fs.length - (intOf (a.tmps.getD 13 undef)).toNat) ?h0 ?round
  case h0 => exact ⟨0, [], _, undef, undef, undef, undef, undef, undef, undef, undef, undef, undef, undef, undef, undef, undef, undef, undef, undef, undef, undef, undef, undef, undef, rfl, Nat.zero_le _, Hst.out, Marks.nil _ _ _⟩
  case round =>
    rintro _ wr ⟨k, ds, V, u4, u14, u15, u16, u17, u18, u19, u20, u40, u41, u42, u43, u44, u45, u46, u47, u48, u49, u50, u51, u52, u53, rfl, hk, hs, hmk⟩
    have Hs := hid hs
    have Hmk := hid hmk
    have zw1 : w.heap.size + 1 < W1.heap.size := by have := HWs.out; omega
    have g1 := hs.cell UC.out (by omega)
    have zr1 : W1.heap.size ≤ wr.heap.size := hs.size
    have zr0 : w.heap.size < wr.heap.size := by omega
    have zr2 : w.heap.size + 1 < wr.heap.size := by omega
    clear hs hmk
    by_cases hkl : k < fs.length
    · obtain ⟨fb, foff, xa, xc, rfl, hcs, hxb, -, -⟩ := func_at Hf.out hkl
      obtain ⟨-, -, -, c3⟩ := hcs.get4
      have zfb : fb < w.heap.size := cell_lt c3
      have zfr : fb < wr.heap.size := by omega
      have hsmk := Hsm.out k _ (List.getElem?_eq_getElem hkl)
      have hbl := hsmk.2
      have hll : ∀ x ∈ fs[k].blocks, x.list.length ≤ 1048576 := fun x hx => by have := manyOf_mem hx; omega
      have Hmany : Hid ((fs[k].blocks.flatMap (·.list)).length ≤ 1048576) := Nat.le_trans (list_len_many _) hsmk.1
      have HC3 := hid c3
      have Hxb := hid hxb
      have Hci := hid (calls_i64 hxb)
      have Hll := hid hll
      have Hgd : Hid (fs.getD k noFunc = fs[k]) := by show _ = _; rw [List.getD_eq_getElem?_getD, List.getElem?_eq_getElem hkl]; rfl
      clear hcs c3 hxb hll hsmk
      gi_wp2_with (refine ⟨trivial, ?_⟩; gi_at_call 80; refine (each_in Fence.wide 5 trivial rfl _ _).mono ?_; rintro e w' ⟨rfl, rfl⟩)
      obtain ⟨Wk, hWk⟩ : ∃ Wk, Wk = (wr.alloc (.cells #[.int .i64 (k : Int)] 3)).alloc (.cells #[.pointer (some ⟨fb, foff + k * 4, none⟩)] 139) := ⟨_, rfl⟩
      have hbk : Below wr.heap.size wr Wk := by rw [hWk]; (repeat (first | exact Below.refl _ _ | refine Below.alloc ?_ (by first | omega | (simp <;> omega)) _ | refine Below.setCell ?_ (by first | omega | (simp <;> omega)) _ | refine below_drewN ?_ _ | refine Below.drew ?_))
      have hsk : Wk.heap.size = wr.heap.size + 2 := by rw [hWk]; simp
      have hck : Wk.cell? ⟨wr.heap.size + 1, 0, none⟩ = some (.pointer (some ⟨fb, foff + k * 4, none⟩)) := by rw [hWk]; simp
      have hkk : Wk.cell? ⟨wr.heap.size, 0, none⟩ = some (.int .i64 (k : Int)) := by rw [hWk]; simp
      have hgk : GSt W1 Wk (w.heap.size + 1) fs.length k fs V := Hs.out.kept hbk zw1
      have Hgk := hid hgk
      have hbW1 : Below w.heap.size w Wk := ⟨hgk.env.1.trans HbW.out.os, hgk.env.2.1.trans HbW.out.tape, hgk.env.2.2.trans HbW.out.output, by omega, fun b hb => (hgk.keep b (by omega) (by omega)).trans (HbW.out.block b hb)⟩
      have HbW1 := hid hbW1
      have Hmkk : Hid (Marks W1.heap.size wr.heap.size ds Wk) := Hmk.out.keep (Nat.le_refl _) (fun b h1 h2 h3 => by rw [hbk.block b h2]; exact h3)
      rw [← hWk]
      have HbK := hid hbk
      have HsK := hid hsk
      have HcK := hid hck
      have HkK := hid hkk
      clear hWk hbk hsk hck hkk hgk hbW1
      refine wpIn_rangeFunc_ownF (α := InsP w) rfl (by decide) (gf := 128) (lb := #[.pointer (some ⟨wr.heap.size + 1, 0, none⟩)]) rfl trivial (enters_of Tryd.func128 (by kernel_rfl) rfl)
        (each_stops Fence.wide (6 - 1) trivial rfl (by decide) (wr.heap.size + 1) Wk.heap.size fb (foff + k * 4) (fun b => b = w.heap.size + 1) xa xc fs[k].blocks w Wk hbl Hll.out
          (Hxb.out.mono rBlock_mono (fun b hb => by have := HS.out b hb; have := HsK.out; exact ⟨by omega, by omega⟩) (Stays.refl _ _)) HC3.out (by have := HsK.out; exact ⟨by omega, by omega⟩) (by have := HsK.out; exact ⟨by omega, by omega⟩) HbW1.out HcK.out)
        (fun h k => keepE_t h k) (keepE_b (Nat.le_refl _)) (Below.refl _ _) (fun _ => rfl)
        (fun pre W => ∃ v, GIn Wk W (w.heap.size + 1) fs.length k V v (callsL (pre.map insOf)))
        (fun _ _ _ => False)
        ?hI ?hIx ?h0 (fun x => { tmps := #[(.agg #[.slice ga gn gc, .slice (some ⟨fb, foff, none⟩) fs.length fc]), (.pointer (some ⟨w.heap.size, 0, none⟩)), (.slice none 0 0), (.pointer (some ⟨w.heap.size + 1 + 1, 0, none⟩)), (.pointer (some ⟨wr.heap.size, 0, none⟩)), (.pointer (some ⟨x.1.1, x.1.2.1, none⟩)), (.pointer (some ⟨w.heap.size, 1, none⟩)), (.slice (some ⟨fb, foff, none⟩) fs.length fc), (.int .i64 (fs.length : Int)), (.slice (some ⟨w.heap.size + 1, 0, none⟩) fs.length fs.length), (.pointer (some ⟨w.heap.size, 1, none⟩)), (.slice (some ⟨fb, foff, none⟩) fs.length fc), (.int .i64 (fs.length : Int)), (.int .i64 (k : Int)), (.bool true), (.int .i64 (k : Int)), (.pointer (some ⟨w.heap.size, 1, none⟩)), (.slice (some ⟨fb, foff, none⟩) fs.length fc), (.int .i64 (k : Int)), (.pointer (some ⟨fb, foff + k * 4, none⟩)), (.func (.func 128) #[] #[.pointer (some ⟨wr.heap.size + 1, 0, none⟩)]), (.pointer (some ⟨x.1.1, x.1.2.1, none⟩)), undef, undef, undef, undef, undef, undef, undef, undef, undef, undef, undef, undef, undef, undef, undef, undef, undef, undef, u40, u41, u42, u43, u44, u45, u46, u47, u48, u49, u50, u51, u52, u53, undef], defers := [] }) ?assign ?body ?done ?stop
      case hI =>
        rintro pr A B row ⟨v, hv⟩ hg hr
        have hr' : ∀ r, row = some r → Wk.heap.size ≤ r := fun r e => (hr r e).1
        refine ⟨v, hv.grown hg (by have := HsK.out; omega) hr' ?_⟩
        rcases hv.own.2 with ⟨rfl, -⟩ | ⟨g, cap, cur, rfl, -, hgg, -⟩
        · exact .inl rfl
        · refine .inr (fun e => ?_)
          obtain ⟨-, o, ho, hc⟩ := hr g e.symm
          rw [hgg] at ho
          cases ho
          cases hc
      case hIx => rintro c pr A B row h; exact h.elim
      case h0 => exact ⟨_, Hgk.out.start⟩
      case assign =>
        intro l x W K hK
        unfold encI
        gi_wp2
        exact hK
      case body =>
        rintro l pre x W ⟨v, hv⟩ hN
        have Hv := hid hv
        obtain ⟨av, hcx⟩ := x.2
        obtain ⟨e0, -, -, -, -, -, e6, -⟩ := hcx.get8
        obtain ⟨y, hy⟩ : ∃ y, y = insOf x := ⟨_, rfl⟩
        obtain ⟨b, hb⟩ : ∃ b, b = x.1.1 := ⟨_, rfl⟩
        obtain ⟨off, hoff⟩ : ∃ off, off = x.1.2.1 := ⟨_, rfl⟩
        have zbw : b < w.heap.size := by rw [hb]; exact cell_lt e0
        have e0 : W.cell? ⟨b, off, none⟩ = some (.int .i64 y.op) := by
          rw [hy, hb, hoff]
          exact hv.cell (cell_later' e0 HbW1.out) (by rw [← hb]; omega)
        have e6 : W.cell? ⟨b, off + 6, none⟩ = some (.int .i64 y.fn) := by
          rw [hy, hb, hoff]
          exact hv.cell (cell_later' e6 HbW1.out) (by rw [← hb]; omega)
        rw [← hb, ← hoff]
        have zb : b < W.heap.size := cell_lt e0
        obtain ⟨op, hop⟩ : ∃ op, y.op = op := ⟨_, rfl⟩
        obtain ⟨fn, hfn2⟩ : ∃ fn, y.fn = fn := ⟨_, rfl⟩
        obtain ⟨L, hL⟩ : ∃ L, L = callsL (pre.map insOf) := ⟨_, rfl⟩
        have HL : Hid (callsL ((pre ++ [x]).map insOf) = L ++ if op = 20 then [fn] else []) := by
          show _ = _
          rw [List.map_append, List.map_singleton, callsL_snoc, ← hL, ← hy, hop, hfn2]
        have HLl : Hid (L.length + 1 ≤ 1048576) := by
          have h1 := callsL_len (pre.map insOf)
          rw [← hL, List.length_map] at h1
          have := Hmany.out
          show _ ≤ _
          omega
        rw [← hL] at Hv
        rw [hop] at e0
        rw [hfn2] at e6
        clear hv hcx hy hb hoff hL hop hfn2 av hN
        by_cases ho : op = 20
        · have q0 : (decide (op ≤ 20) && decide (20 ≤ op)) = true := eq_yes ho
          have HL2 : Hid (callsL ((pre ++ [x]).map insOf) = L ++ [fn]) := by show _ = _; rw [HL.out, if_pos ho]
          clear ho
          have i0 : (0 : Int) ≤ (k : Int) := by omega
          have i1 : (k : Int) < (fs.length : Int) := by omega
          have o0 : W.cell? ⟨w.heap.size + 1 + 1, 0, none⟩ = some (.slice (some ⟨w.heap.size + 1, 0, none⟩) fs.length fs.length) := Hv.out.cell (Hgk.out.cell OC.out (by omega)) (by omega)
          have k0 : W.cell? ⟨wr.heap.size, 0, none⟩ = some (.int .i64 (k : Int)) := Hv.out.cell HkK.out (by omega)
          have v0 : W.cell? ⟨w.heap.size + 1, k, none⟩ = some v := by have h := Hv.out.row.cell hkl; rw [if_pos rfl] at h; exact h
          have zO : w.heap.size + 1 + 1 < W.heap.size := cell_lt o0
          have zA : w.heap.size + 1 < W.heap.size := cell_lt v0
          have zK : wr.heap.size < W.heap.size := cell_lt k0
          gi_wp2
          refine wpIn_region_round_held (fun w' => w'.cell? ⟨w.heap.size + 1 + 1, 0, none⟩ = some (.slice (some ⟨w.heap.size + 1, 0, none⟩) fs.length fs.length) ∧ w'.cell? ⟨wr.heap.size, 0, none⟩ = some (.int .i64 (k : Int)) ∧ w'.cell? ⟨b, off + 6, none⟩ = some (.int .i64 fn)) (by kernel_rfl) (by kernel_rfl) ⟨o0, k0, e6⟩ (fun hHeld => ?_)
          refine wpAnyH_take (i := 0) (oi := _) (v := ?_) rfl (by kernel_rfl) (by kernel_rfl) (by kernel_rfl) (fun _ _ _ h => by cases h.1) (Or.inl ⟨by rfl, ?_⟩) (by assumption) ?_
          rotate_left
          · intro w hSw; (try dsimp only at hSw); go_simp; try with_reducible rfl
          try simp only [Act.put, List.setIfInBounds_toArray]
          refine wpAnyH_take (i := 1) (oi := _) (v := ?_) rfl (by kernel_rfl) (by kernel_rfl) (by kernel_rfl) (fun _ _ _ h => by cases h.1) (Or.inl ⟨by rfl, ?_⟩) (by assumption) ?_
          rotate_left
          · intro w hSw; (try dsimp only at hSw); go_simp; try with_reducible rfl
          try simp only [Act.put]
          refine wpAnyH_take (i := 2) (oi := _) (v := ?_) rfl (by kernel_rfl) (by kernel_rfl) (by kernel_rfl) (fun _ _ _ h => by cases h.1) (Or.inl ⟨by rfl, ?_⟩) (by assumption) ?_
          rotate_left
          · intro w hSw; (try dsimp only at hSw); go_simp; try with_reducible rfl
          try simp only [Act.put]
          refine wpAnyH_take (i := 3) (oi := _) (v := ?_) rfl (by kernel_rfl) (by kernel_rfl) (by kernel_rfl) (fun _ _ _ h => by cases h.1) (Or.inl ⟨by rfl, ?_⟩) (by assumption) ?_
          rotate_left
          · intro w hSw; (try dsimp only at hSw); go_simp; try with_reducible rfl
          try simp only [Act.put]
          refine wpAnyH_take (i := 4) (oi := _) (v := ?_) rfl (by kernel_rfl) (by kernel_rfl) (by kernel_rfl) (fun _ _ _ h => by cases h.1) (Or.inl ⟨by rfl, ?_⟩) (by assumption) ?_
          rotate_left
          · intro w hSw; (try dsimp only at hSw); go_simp; try with_reducible rfl
          try simp only [Act.put]
          refine wpAnyH_take (i := 6) (oi := _) (v := ?_) rfl (by kernel_rfl) (by kernel_rfl) (by kernel_rfl) (fun _ _ _ h => by cases h.1) (Or.inl ⟨by rfl, ?_⟩) (by assumption) ?_
          rotate_left
          · intro w hSw; (try dsimp only at hSw); go_simp; try with_reducible rfl
          try simp only [Act.put]
          refine wpAnyH_take (i := 7) (oi := _) (v := ?_) rfl (by kernel_rfl) (by kernel_rfl) (by kernel_rfl) (fun _ _ _ h => by cases h.1) (Or.inl ⟨by rfl, ?_⟩) (by assumption) ?_
          rotate_left
          · intro w hSw; (try dsimp only at hSw); go_simp; try with_reducible rfl
          try simp only [Act.put]
          refine wpAnyH_take (i := 8) (oi := _) (v := ?_) rfl (by kernel_rfl) (by kernel_rfl) (by kernel_rfl) (fun _ _ _ h => by cases h.1) (Or.inl ⟨by rfl, ?_⟩) (by assumption) ?_
          rotate_left
          · intro w hSw; (try dsimp only at hSw); go_simp; try with_reducible rfl
          try simp only [Act.put]
          refine wpAnyH_take (i := 9) (oi := _) (v := ?_) rfl (by kernel_rfl) (by kernel_rfl) (by kernel_rfl) (fun _ _ _ h => by cases h.1) (Or.inl ⟨by rfl, ?_⟩) (by assumption) ?_
          rotate_left
          · intro w hSw; (try dsimp only at hSw); go_simp; try with_reducible rfl
          try simp only [Act.put]
          refine wpAnyH_ready (rs := [5, 10]) (by kernel_rfl) (by simp) ?_
          refine AllReadyH.cons (o := _) rfl (fun K hK => ?_) ?_
          · go_simp
            refine hK.out _ _ (by assumption) (fun hHeld2 => ?_)
            clear hK K
            try simp only [Act.put, List.setIfInBounds_toArray, List.set_cons_zero, List.set_cons_succ]
            refine wpAnyH_ready (rs := [10]) (by kernel_rfl) (by simp) ?_
            refine AllReadyH.cons (o := _) rfl (fun K hK => ?_) ?_
            · go_simp
              refine hK.out _ _ ⟨al_old o0, al_old k0, al_old e6⟩ (fun hHeld5 => ?_)
              clear hK K
              try simp only [Act.put, List.setIfInBounds_toArray, List.set_cons_zero, List.set_cons_succ]
              refine wpAnyH_ready (rs := [11]) (by kernel_rfl) (by simp) ?_
              refine AllReadyH.cons (o := _) rfl (fun K hK => ?_) ?_
              · refine step_append_int rfl _ _ rfl Wk.heap.size v L rfl ?_ W.heap.size fn rfl ?_ HLl.out ?_ ?_
                · exact Hv.out.own.kept (grown_below (B := 0) (by (repeat (first | exact Below.refl _ _ | refine Below.alloc ?_ (by first | omega | (simp <;> omega)) _ | refine Below.setCell ?_ (by first | omega | (simp <;> omega)) _ | refine below_drewN ?_ _ | refine Below.drew ?_))) none (Nat.zero_le _)) (by cases v.ownBlock <;> simp)
                · exact new_cells W.drew [.int .i64 fn] 3 rfl 0 _ rfl
                · have := Hv.out.size; simp; omega
                intro v' w2 hown2 hg2
                obtain ⟨g, cap, hv', hg0, -⟩ := own_shape (n := L.length) (by rw [List.length_append, List.length_singleton] at hown2; exact hown2)
                subst hv'
                have hvb : ∀ c, c < Wk.heap.size → some c ≠ v.ownBlock := fun c hc e => by have := (Hv.out.own.lt c e.symm).1; omega
                have hcl : ∀ {c o u}, W.cell? ⟨c, o, none⟩ = some u → c < Wk.heap.size → w2.cell? ⟨c, o, none⟩ = some u := fun {c o u} hc hlt => by
                  have h1 : (W.drew.alloc (.cells #[.int .i64 fn] 3)).cell? ⟨c, o, none⟩ = some u := al_old hc
                  exact hg2.cell (a := ⟨c, o, none⟩) h1 (hvb c hlt)
                have o3 := hcl o0 (by have := HsK.out; omega)
                have k3 := hcl k0 (by have := HsK.out; omega)
                have v3 := hcl v0 (by have := HsK.out; omega)
                have e3 := hcl e6 (by have := HsK.out; omega)
                have hg3 : W.grownBy w2 v.ownBlock := ⟨hg2.os, hg2.tape, hg2.output, Nat.le_trans (by simp) hg2.size, fun c hc hne => (hg2.block c (by simp; omega) hne).trans (Below.heap_alloc _ _ _ (by simpa using hc))⟩
                have f3 : w2.frozen? ⟨w.heap.size + 1, k, none⟩ = false := by
                  rw [World.frozen?_of_block (w := W) (a := ⟨w.heap.size + 1, k, none⟩) (hg3.block (w.heap.size + 1) zA (hvb (w.heap.size + 1) (by have := HsK.out; omega)))]
                  exact Hv.out.row.frozen k
                have Hput := hid (Hv.out.put hg3 (by have := HsK.out; omega) (fun r e => (Hv.out.own.lt r e).1) hown2)
                have Hko : Hid (KeepsOthers W w2) := KeepsOthers.of_grownBy hg3 (fun c o e ho => by
                  rcases Hv.out.own.2 with ⟨rfl, -⟩ | ⟨g, cap, cur, rfl, -, hgg, -⟩
                  · cases e
                  · cases e; rw [hgg] at ho; cases ho; rfl)
                have Hke : Hid (KeepE Wk.heap.size (fun b => b = w.heap.size + 1) W w2) := ⟨hg3.size, fun c hc _ => hg3.block c (by have := Hv.out.size; omega) (hvb c hc)⟩
                refine hK.out _ _ ⟨o3, k3, e3⟩ (fun hHeld3 => ?_)
                clear hK K hown2 hg2 hg3 hvb hcl
                try simp only [Act.put, List.setIfInBounds_toArray]
                refine wpAnyH_take (i := 12) (oi := _) (v := ?_) rfl (by kernel_rfl) (by kernel_rfl) (by kernel_rfl) (fun _ _ _ h => by cases h.1) (Or.inl ⟨by rfl, ?_⟩) (by assumption) ?_
                rotate_left
                · intro w hSw; (try dsimp only at hSw); go_simp; try with_reducible rfl
                try simp only [Act.put]
                refine wpAnyH_ready (rs := [13]) (by kernel_rfl) (by simp) ?_
                refine AllReadyH.cons (o := _) rfl (fun K hK => ?_) ?_
                · rw [if_pos (by rfl)]
                  go_simp
                  refine hK.out _ _ ⟨?_, ?_, ?_⟩ (fun hHeld4 => ?_)
                  · rw [cell_set_ne _ (by omega)]; exact o3
                  · rw [cell_set_ne _ (by omega)]; exact k3
                  · rw [cell_set_ne _ (by omega)]; exact e3
                  clear hK K
                  refine wpAnyH_done (by kernel_rfl) ⟨rfl, ?_⟩ _
                  gi_wp2
                  exact ⟨Hko.out.trans (KeepsOthers.setCell _ _ _), keepE_t Hke.out (keepE_set _ _ rfl), _, by rw [HL2.out]; exact Hput.out⟩
                exact AllReadyH.nil
              exact AllReadyH.nil
            exact AllReadyH.nil
          refine AllReadyH.cons (o := _) rfl (fun K hK => ?_) ?_
          · go_simp
            refine hK.out _ _ ⟨al_old o0, al_old k0, al_old e6⟩ (fun hHeld2 => ?_)
            clear hK K
            try simp only [Act.put, List.setIfInBounds_toArray, List.set_cons_zero, List.set_cons_succ]
            refine wpAnyH_ready (rs := [5]) (by kernel_rfl) (by simp) ?_
            refine AllReadyH.cons (o := _) rfl (fun K hK => ?_) ?_
            · go_simp
              refine hK.out _ _ (by assumption) (fun hHeld5 => ?_)
              clear hK K
              try simp only [Act.put, List.setIfInBounds_toArray, List.set_cons_zero, List.set_cons_succ]
              refine wpAnyH_ready (rs := [11]) (by kernel_rfl) (by simp) ?_
              refine AllReadyH.cons (o := _) rfl (fun K hK => ?_) ?_
              · refine step_append_int rfl _ _ rfl Wk.heap.size v L rfl ?_ W.heap.size fn rfl ?_ HLl.out ?_ ?_
                · exact Hv.out.own.kept (grown_below (B := 0) (by (repeat (first | exact Below.refl _ _ | refine Below.alloc ?_ (by first | omega | (simp <;> omega)) _ | refine Below.setCell ?_ (by first | omega | (simp <;> omega)) _ | refine below_drewN ?_ _ | refine Below.drew ?_))) none (Nat.zero_le _)) (by cases v.ownBlock <;> simp)
                · exact new_cells W.drew [.int .i64 fn] 3 rfl 0 _ rfl
                · have := Hv.out.size; simp; omega
                intro v' w2 hown2 hg2
                obtain ⟨g, cap, hv', hg0, -⟩ := own_shape (n := L.length) (by rw [List.length_append, List.length_singleton] at hown2; exact hown2)
                subst hv'
                have hvb : ∀ c, c < Wk.heap.size → some c ≠ v.ownBlock := fun c hc e => by have := (Hv.out.own.lt c e.symm).1; omega
                have hcl : ∀ {c o u}, W.cell? ⟨c, o, none⟩ = some u → c < Wk.heap.size → w2.cell? ⟨c, o, none⟩ = some u := fun {c o u} hc hlt => by
                  have h1 : (W.drew.alloc (.cells #[.int .i64 fn] 3)).cell? ⟨c, o, none⟩ = some u := al_old hc
                  exact hg2.cell (a := ⟨c, o, none⟩) h1 (hvb c hlt)
                have o3 := hcl o0 (by have := HsK.out; omega)
                have k3 := hcl k0 (by have := HsK.out; omega)
                have v3 := hcl v0 (by have := HsK.out; omega)
                have e3 := hcl e6 (by have := HsK.out; omega)
                have hg3 : W.grownBy w2 v.ownBlock := ⟨hg2.os, hg2.tape, hg2.output, Nat.le_trans (by simp) hg2.size, fun c hc hne => (hg2.block c (by simp; omega) hne).trans (Below.heap_alloc _ _ _ (by simpa using hc))⟩
                have f3 : w2.frozen? ⟨w.heap.size + 1, k, none⟩ = false := by
                  rw [World.frozen?_of_block (w := W) (a := ⟨w.heap.size + 1, k, none⟩) (hg3.block (w.heap.size + 1) zA (hvb (w.heap.size + 1) (by have := HsK.out; omega)))]
                  exact Hv.out.row.frozen k
                have Hput := hid (Hv.out.put hg3 (by have := HsK.out; omega) (fun r e => (Hv.out.own.lt r e).1) hown2)
                have Hko : Hid (KeepsOthers W w2) := KeepsOthers.of_grownBy hg3 (fun c o e ho => by
                  rcases Hv.out.own.2 with ⟨rfl, -⟩ | ⟨g, cap, cur, rfl, -, hgg, -⟩
                  · cases e
                  · cases e; rw [hgg] at ho; cases ho; rfl)
                have Hke : Hid (KeepE Wk.heap.size (fun b => b = w.heap.size + 1) W w2) := ⟨hg3.size, fun c hc _ => hg3.block c (by have := Hv.out.size; omega) (hvb c hc)⟩
                refine hK.out _ _ ⟨o3, k3, e3⟩ (fun hHeld3 => ?_)
                clear hK K hown2 hg2 hg3 hvb hcl
                try simp only [Act.put, List.setIfInBounds_toArray]
                refine wpAnyH_take (i := 12) (oi := _) (v := ?_) rfl (by kernel_rfl) (by kernel_rfl) (by kernel_rfl) (fun _ _ _ h => by cases h.1) (Or.inl ⟨by rfl, ?_⟩) (by assumption) ?_
                rotate_left
                · intro w hSw; (try dsimp only at hSw); go_simp; try with_reducible rfl
                try simp only [Act.put]
                refine wpAnyH_ready (rs := [13]) (by kernel_rfl) (by simp) ?_
                refine AllReadyH.cons (o := _) rfl (fun K hK => ?_) ?_
                · rw [if_pos (by rfl)]
                  go_simp
                  refine hK.out _ _ ⟨?_, ?_, ?_⟩ (fun hHeld4 => ?_)
                  · rw [cell_set_ne _ (by omega)]; exact o3
                  · rw [cell_set_ne _ (by omega)]; exact k3
                  · rw [cell_set_ne _ (by omega)]; exact e3
                  clear hK K
                  refine wpAnyH_done (by kernel_rfl) ⟨rfl, ?_⟩ _
                  gi_wp2
                  exact ⟨Hko.out.trans (KeepsOthers.setCell _ _ _), keepE_t Hke.out (keepE_set _ _ rfl), _, by rw [HL2.out]; exact Hput.out⟩
                exact AllReadyH.nil
              exact AllReadyH.nil
            exact AllReadyH.nil
          exact AllReadyH.nil
        · have q0 : (decide (op ≤ 20) && decide (20 ≤ op)) = false := eq_no ho
          have HL2 : Hid (callsL ((pre ++ [x]).map insOf) = L) := by show _ = _; rw [HL.out, if_neg ho, List.append_nil]
          clear ho
          gi_wp2
          exact ⟨KeepsOthers.refl _, KeepE.refl _ _ _, v, by rw [HL2.out]; exact Hv.out⟩
      case done =>
        rintro D xs W hD hxs ⟨v, hv⟩ hd
        rw [hxs] at hv
        have Hv := hid hv
        have i0 : (0 : Int) ≤ (k : Int) := by omega
        have i1 : (k : Int) < (fs.length : Int) := by omega
        have zk1 := HsK.out
        have o0 : W.cell? ⟨w.heap.size + 1 + 1, 0, none⟩ = some (.slice (some ⟨w.heap.size + 1, 0, none⟩) fs.length fs.length) := hv.cell (Hgk.out.cell OC.out (by omega)) (by omega)
        have k0 : W.cell? ⟨wr.heap.size, 0, none⟩ = some (.int .i64 (k : Int)) := hv.cell HkK.out (by omega)
        have v0 : W.cell? ⟨w.heap.size + 1, k, none⟩ = some v := by have h := hv.row.cell hkl; rw [if_pos rfl] at h; exact h
        have zO : w.heap.size + 1 + 1 < W.heap.size := cell_lt o0
        have zA : w.heap.size + 1 < W.heap.size := cell_lt v0
        have zK : wr.heap.size < W.heap.size := cell_lt k0
        have hlen := Nat.le_trans (callsL_len (fs[k].blocks.flatMap (·.list))) Hmany.out
        obtain ⟨L, hL⟩ : ∃ L, L = callsL (fs[k].blocks.flatMap (·.list)) := ⟨_, rfl⟩
        have HL := hid hL
        rw [← hL] at Hv hlen
        have hown : OwnInts Wk.heap.size W v L := ⟨Hv.out.own, by rw [hL]; exact Hci.out⟩
        have Hsort := hid (sort_own hown hlen)
        have hvb : ∀ g, v.ownBlock = some g → Wk.heap.size ≤ g ∧ W.heap[g]? ≠ some (.deferred (some [])) := fun g e => by
          refine ⟨(Hv.out.own.lt g e).1, fun h => ?_⟩
          rcases Hv.out.own.2 with ⟨rfl, -⟩ | ⟨g', cap, cur, rfl, -, hgg, -⟩
          · cases e
          · cases e; rw [hgg] at h; cases h
        have Hvb := hid hvb
        have Hd := hid hd
        clear hv hxs hL hown hlen hvb hd
        gi_wp2_with (refine ⟨trivial, ?_⟩; gi_at_call 158; refine (callsIn_wide.2 Hsort.out).mono ?_; rintro e w2 ⟨rfl, ho2, hg2⟩)
        have hne : ∀ b, b < Wk.heap.size → some b ≠ v.ownBlock := fun b hb e => by have := (Hvb.out b e.symm).1; omega
        have hv2 := Hv.out.turn hg2 (by omega) (fun r e => (Hvb.out r e).1) ho2.1
        have Hv2 := hid hv2
        have o2 := hg2.cell (a := ⟨w.heap.size + 1 + 1, 0, none⟩) o0 (hne (w.heap.size + 1 + 1) (by omega))
        have k2 := hg2.cell (a := ⟨wr.heap.size, 0, none⟩) k0 (hne wr.heap.size (by omega))
        have v2 := hg2.cell (a := ⟨w.heap.size + 1, k, none⟩) v0 (hne (w.heap.size + 1) (by omega))
        have d2 : w2.heap[D]? = some (.deferred (some [])) := by
          rw [hg2.block D (Array.getElem?_eq_some_iff.1 Hd.out).1 (fun e => (Hvb.out D e.symm).2 Hd.out)]; exact Hd.out
        have zA2 : w.heap.size + 1 < w2.heap.size := cell_lt v2
        have Hcomp : Hid (Calls Tryd.prog 159 #[v] w2.drew fun e w3 => ∃ v', e = .returned v' ∧ OwnInts Wk.heap.size w3 v' (Go.Lib.compact (sortI L)) ∧ w2.grownBy w3 v.ownBlock ∧ v'.ownBlock = v.ownBlock) := by
          have hsame : w2.grownBy w2.drew none := ⟨rfl, rfl, rfl, Nat.le_refl _, fun _ _ _ => rfl⟩
          have ho' : OwnInts Wk.heap.size w2.drew v (sortI L) := ⟨ho2.1.kept hsame (by cases v.ownBlock <;> simp), ho2.2⟩
          refine (compact_own ho' (by rw [sortI_len]; exact Nat.le_trans (by rw [HL.out]; exact callsL_len _) Hmany.out)).mono ?_
          rintro e w3 ⟨v', rfl, h1, h2, h3⟩
          exact ⟨v', rfl, h1, ⟨h2.os, h2.tape, h2.output, h2.size, h2.block⟩, h3⟩
        have Hne := hid hne
        have D2 := hid d2
        clear hv2 ho2 hg2 hne o0 k0 v0 d2
        gi_wp2
        refine wpIn_wide.2 ?_
        refine wp_region_noPanic ?_
        refine wp_region_held_drew (S := fun w' => w'.cell? ⟨w.heap.size + 1 + 1, 0, none⟩ = some (.slice (some ⟨w.heap.size + 1, 0, none⟩) fs.length fs.length) ∧ w'.cell? ⟨wr.heap.size, 0, none⟩ = some (.int .i64 (k : Int))) (by kernel_rfl) ⟨o2, k2⟩ (fun hHeld => ?_)
        refine wpAnyH_take (i := 0) (oi := _) (v := ?_) rfl (by kernel_rfl) (by kernel_rfl) (by kernel_rfl) (fun _ _ _ h => h.elim) (Or.inl ⟨by rfl, ?_⟩) (by assumption) ?_
        rotate_left
        · intro w hSw; (try dsimp only at hSw); go_simp; try with_reducible rfl
        try simp only [Act.put, List.setIfInBounds_toArray]
        refine wpAnyH_take (i := 1) (oi := _) (v := ?_) rfl (by kernel_rfl) (by kernel_rfl) (by kernel_rfl) (fun _ _ _ h => h.elim) (Or.inl ⟨by rfl, ?_⟩) (by assumption) ?_
        rotate_left
        · intro w hSw; (try dsimp only at hSw); go_simp; try with_reducible rfl
        try simp only [Act.put]
        refine wpAnyH_take (i := 2) (oi := _) (v := ?_) rfl (by kernel_rfl) (by kernel_rfl) (by kernel_rfl) (fun _ _ _ h => h.elim) (Or.inl ⟨by rfl, ?_⟩) (by assumption) ?_
        rotate_left
        · intro w hSw; (try dsimp only at hSw); go_simp; try with_reducible rfl
        try simp only [Act.put]
        refine wpAnyH_take (i := 3) (oi := _) (v := ?_) rfl (by kernel_rfl) (by kernel_rfl) (by kernel_rfl) (fun _ _ _ h => h.elim) (Or.inl ⟨by rfl, ?_⟩) (by assumption) ?_
        rotate_left
        · intro w hSw; (try dsimp only at hSw); go_simp; try with_reducible rfl
        try simp only [Act.put]
        refine wpAnyH_take (i := 4) (oi := _) (v := ?_) rfl (by kernel_rfl) (by kernel_rfl) (by kernel_rfl) (fun _ _ _ h => h.elim) (Or.inl ⟨by rfl, ?_⟩) (by assumption) ?_
        rotate_left
        · intro w hSw; (try dsimp only at hSw); go_simp; try with_reducible rfl
        try simp only [Act.put]
        refine wpAnyH_ready (rs := [5]) (by kernel_rfl) (by simp) ?_
        refine AllReadyH.cons (o := _) rfl (fun K hK => ?_) ?_
        · go_simp
          refine hK.out _ _ (by assumption) (fun hHeld2 => ?_)
          clear hK K
          try simp only [Act.put, List.setIfInBounds_toArray, List.set_cons_zero, List.set_cons_succ]
          refine wpAnyH_ready (rs := [6]) (by kernel_rfl) (by simp) ?_
          refine AllReadyH.cons (o := _) rfl (fun K hK => ?_) ?_
          · rw [if_pos (by rfl)]
            go_simp
            refine Hcomp.out.mono ?_
            rintro e w3 ⟨v', rfl, ho3, hg3, hb3⟩
            have o3 := hg3.cell (a := ⟨w.heap.size + 1 + 1, 0, none⟩) o2 (Hne.out (w.heap.size + 1 + 1) (by omega))
            have k3 := hg3.cell (a := ⟨wr.heap.size, 0, none⟩) k2 (Hne.out wr.heap.size (by omega))
            have v3 := hg3.cell (a := ⟨w.heap.size + 1, k, none⟩) v2 (Hne.out (w.heap.size + 1) (by omega))
            have f3 : w3.frozen? ⟨w.heap.size + 1, k, none⟩ = false := by
              rw [World.frozen?_of_block (w := w2) (a := ⟨w.heap.size + 1, k, none⟩) (hg3.block (w.heap.size + 1) zA2 (Hne.out (w.heap.size + 1) (by omega)))]
              exact Hv2.out.row.frozen k
            obtain ⟨va, vc, hv'⟩ := ho3.shape
            subst hv'
            have d3 : w3.heap[D]? = some (.deferred (some [])) := by
              rw [hg3.block D (Array.getElem?_eq_some_iff.1 D2.out).1 (fun e => (Hvb.out D e.symm).2 Hd.out)]; exact D2.out
            have hput := Hv2.out.put hg3 (by omega) (fun r e => (Hvb.out r e).1) ho3.1
            have hrow : Go.Lib.compact (sortI L) = rowG (fs.getD k noFunc) := by rw [Hgd.out, rowG, HL.out]
            have hnext := hput.next Hgk.out zw1 hrow ho3.2
            have d4 : (w3.setCell ⟨w.heap.size + 1, k, none⟩ (.slice va (Go.Lib.compact (sortI L)).length vc)).heap[D]? = some (.deferred (some [])) := by
              rw [Below.heap_setCell _ _ _ _ (by dsimp only; omega)]; exact d3
            have hm4 : Marks W1.heap.size (w3.setCell ⟨w.heap.size + 1, k, none⟩ (.slice va (Go.Lib.compact (sortI L)).length vc)).heap.size ({ target := .collected D, args := #[] } :: ds) (w3.setCell ⟨w.heap.size + 1, k, none⟩ (.slice va (Go.Lib.compact (sortI L)).length vc)) :=
              (Hmkk.out.keep (Nat.le_refl _) (fun b h1 h2 h3 => (hput.keep b (by omega) (by omega)).trans h3)).cons (by omega) (by omega) (Array.getElem?_eq_some_iff.1 d4).1 d4
            have Hnext := hid hnext
            have Hm4 := hid hm4
            refine hK.out _ _ ⟨o3, k3⟩ (fun hHeld3 => ?_)
            clear hK K hput hrow hnext hm4 d3 d4 ho3 hg3
            try simp only [Act.put, List.setIfInBounds_toArray, List.set_cons_zero, List.set_cons_succ]
            refine wpAnyH_take (i := 7) (oi := _) (v := ?_) rfl (by kernel_rfl) (by kernel_rfl) (by kernel_rfl) (fun _ _ _ h => h.elim) (Or.inl ⟨by rfl, ?_⟩) (by assumption) ?_
            rotate_left
            · intro w hSw; (try dsimp only at hSw); go_simp; try with_reducible rfl
            try simp only [Act.put, List.setIfInBounds_toArray]
            refine wpAnyH_ready (rs := [8]) (by kernel_rfl) (by simp) ?_
            refine AllReadyH.cons (o := _) rfl (fun K hK => ?_) ?_
            · rw [if_pos (by rfl)]
              go_simp
              refine hK.out _ _ ⟨?_, ?_⟩ (fun hHeld4 => ?_)
              · rw [cell_set_ne _ (by omega)]; exact o3
              · rw [cell_set_ne _ (by omega)]; exact k3
              clear hK K
              refine wpAnyH_done (by kernel_rfl) (NoPanic.normal ?_) _
              gi_wp2
              refine ⟨⟨k + 1, { target := .collected D, args := #[] } :: ds, _, _, _, _, _, _, _, _, _, _, _, _, _, _, _, _, _, _, _, _, _, _, _, rfl, by omega, Hnext.out, Hm4.out⟩, ?_⟩
              show fs.length - (k + 1) < fs.length - k
              omega
            exact AllReadyH.nil
          exact AllReadyH.nil
        exact AllReadyH.nil
      case stop =>
        rintro D c pre W hD hpre h
        exact h.elim
    · have hkn : k = fs.length := by omega
      subst hkn
      have o0 := Hs.out.cell OC.out (by omega)
      gi_wp2
      refine leaves_marks (B := W1.heap.size) (C := wr.heap.size) ds _ zr1 Hmk.out (fun W' hW => ?_)
      refine ⟨.slice (some ⟨w.heap.size + 1, 0, none⟩) fs.length fs.length, ?_, w.heap.size + 1, rfl, ?_, ?_⟩
      · have hres : Tryd.f145.results = #[.tmp 2] := rfl
        unfold results
        rw [hres]
        simp [go_sem]
      · exact (Hs.out.all rfl hfn w.heap.size (by omega) zw1).mono rRow_mono (fun b hb => ⟨hb.1, Nat.lt_of_lt_of_le hb.2 hW.1.size⟩) (fun b o u _ hc => shut_cell hW hc)
      · have he := Hs.out.env
        have hb := HbW.out
        exact ⟨hW.1.os.trans (he.1.trans hb.os), hW.1.tape.trans (he.2.1.trans hb.tape), hW.1.output.trans (he.2.2.trans hb.output), by have := hW.1.size; omega, fun b hb' => (hW.1.block b (by omega)).trans ((Hs.out.keep b (by omega) (by omega)).trans (hb.block b hb'))⟩

end Go.Proofs.YtaehkcnankijfaaDoor
