/- slices.Values, Collect and Sorted over a list of numbers. -/
import Derived.Test.YtnkogppgacappaaDoorPBack
import Derived.Test.YtnkogppgacappaaDoorPSortI
import Derived.Test.YtnkogppgacappaaDoorPMarks
import Derived.Test.YtnkogppgacappaaDoorPPost
import Derived.Maps.OwnIn
namespace Go.Proofs.YtnkogppgacappaaDoor
open Go.RowKit Go.Shelf

attribute [local go_sem] Oper.semAt_some

def encV (x : Int) : Array Value := #[.int .i64 x]

theorem values_in (F : Fence) (n : Nat) (h : F.fn 57) (hro : F.round = none) (a : Option Addr) (m c : Nat) (w : World) :
    CallsIn F n Tryd.prog 57 #[.slice a m c] w fun e w' => e = .returned (.func (.func 81) #[] #[.pointer (some ⟨w.heap.size, 0, none⟩)]) ∧ w' = w.alloc (.cells #[.slice a m c] 26) := by
  refine callsIn_of_wp Tryd.func57 rfl h ?_ hro
  simp only [Tryd.ntmps57, List.size_toArray, List.length_cons, List.length_nil, Nat.reduceAdd, Nat.reduceSub, Array.replicate_succ, Array.replicate_zero, List.push_toArray, List.append_toArray, List.nil_append, List.cons_append]
  gi_wp2
  go_ret
  exact ⟨rfl, rfl⟩

set_option maxRecDepth 100000 in
set_option maxHeartbeats 4000000 in
theorem values1_in (F : Fence) (n : Nat) (h : F.fn 81) (hro : F.round = none) (hn : 1 ≤ n) (l Bs n₀ : Nat) (X : Nat → Prop) (a : Option Addr) (c : Nat) (L : List Int) (W0 : World)
    (hL : L.length ≤ 1048576) (hb : SlAt (fun b => b < n₀ ∧ ¬ X b) W0 1 rInt (.slice a L.length c) L) (_hBn : Bs < n₀ ∧ ¬ X Bs)
    (J Jx : List Int → World → Prop)
    (hY : ∀ pre x W1, J pre W1 → pre.length < L.length → YieldAt F (n - 1) Tryd.prog l (encV x) W1 fun e W' =>
      (e = .returned (.bool true) ∧ J (pre ++ [x]) W' ∧ KeepE n₀ X W1 W') ∨ (e = .returned (.bool false) ∧ Jx (pre ++ [x]) W'))
    (W : World) (hW : Below W0.heap.size W0 W) (hBs : W.cell? ⟨Bs, 0, none⟩ = some (.slice a L.length c)) (h0 : J [] W) :
    CallsIn F n Tryd.prog 81 #[.func (.yield l) #[] #[], .pointer (some ⟨Bs, 0, none⟩)] W fun e W' => (∃ v, e = .returned v) ∧
      (J L W' ∨ (∃ pre : List Int, pre <+: L ∧ Jx pre W')) := by
  have Hb := hid hb
  have HY := hid hY
  have HW := hid hW
  have HBs := hid hBs
  have zB : Bs < W.heap.size := cell_lt hBs
  clear hb hY hW
  refine callsIn_of_wp Tryd.func81 rfl h ?_ hro
  simp only [Tryd.ntmps81, List.size_toArray, List.length_cons, List.length_nil, Nat.reduceAdd, Nat.reduceSub, Array.replicate_succ, Array.replicate_zero, List.push_toArray, List.append_toArray, List.nil_append, List.cons_append]
  gi_wp2
  clear hBs
  gi_loopw [7] (fun i wr => ∃ (k : Nat), k ≤ L.length ∧ i = .int .i64 (k : Int) ∧ J (L.take k) wr ∧ KeepE n₀ X W wr) (fun i _ => L.length - (intOf i).toNat)
  case atStart => exact ⟨0, Nat.zero_le _, rfl, h0, KeepE.refl _ _ _⟩
  case round =>
    obtain ⟨k, hk, rfl, hJ, hkp⟩ := hrel
    have HJ := hid hJ
    have Hkp := hid hkp
    clear hJ hkp
    by_cases hkl : k < L.length
    · obtain ⟨xb, xoff, cs, hxa, hxS, ⟨rfl, -⟩, -, hcs⟩ := Hb.out.get hkl
      subst hxa
      have hd := hcs.get1
      rw [Nat.mul_one] at hd
      obtain ⟨y, hy⟩ : ∃ y, y = L[k] := ⟨_, rfl⟩
      rw [← hy] at hd
      have d0 := Hkp.out.cell (cell_later' hd HW.out) hxS.1 hxS.2
      have zx : xb < wr.heap.size := cell_lt d0
      have Hst : Hid (L.take (k + 1) = L.take k ++ [y]) := by show _ = _; rw [List.take_succ_eq_append_getElem hkl, hy]
      obtain ⟨fn, tmps, assign, body, hyy, hR⟩ := HY.out (L.take k) y wr HJ.out (by rw [List.length_take]; omega)
      rw [show encV y = #[.int .i64 y] from rfl] at hyy
      have HR := hid hR
      have Hpx : Hid (L.take k ++ [y] <+: L) := by
        have h := List.take_prefix (k + 1) L
        rw [Hst.out] at h
        exact h
      clear hcs hR hd hy
      gi_wp2
      refine HR.out.mono ?_
      rintro e W3 (⟨rfl, hJ3, hk3⟩ | ⟨rfl, hJx3⟩)
      · have HJ3 := hid hJ3
        have Hk3 := hid (keepE_t Hkp.out hk3)
        clear hJ3 hk3
        gi_wp2
        go_roundw
        case rel => exact ⟨k + 1, by omega, by go_num, by rw [Hst.out]; exact HJ3.out, Hk3.out⟩
        case measure => simp [intOf]; omega
      · have HJ3 := hid hJx3
        clear hJx3
        gi_wp2
        refine bodyPost_ret (results_none rfl _ _ _) rfl ?_
        exact ⟨⟨_, rfl⟩, .inr ⟨_, Hpx.out, HJ3.out⟩⟩
    · have Hall : Hid (L.take k = L) := List.take_of_length_le (by omega)
      gi_wp2
      go_end0
      exact ⟨⟨_, rfl⟩, .inl (by have h := HJ.out; rw [Hall.out] at h; exact h)⟩

/-- **slices.Values** hands back what goes through a list, for every loop over it that keeps what is read. -/
theorem values_stops (F : Fence) (n : Nat) (h : F.fn 81) (hro : F.round = none) (hn : 1 ≤ n) (Bs n₀ : Nat) (X : Nat → Prop) (a : Option Addr) (c : Nat) (L : List Int) (W0 w : World)
    (hL : L.length ≤ 1048576) (hb : SlAt (fun b => b < n₀ ∧ ¬ X b) W0 1 rInt (.slice a L.length c) L) (hBn : Bs < n₀ ∧ ¬ X Bs) (h0 : Below W0.heap.size W0 w) (hBs : w.cell? ⟨Bs, 0, none⟩ = some (.slice a L.length c)) :
    SeqStopsK F n Tryd.prog 81 #[.pointer (some ⟨Bs, 0, none⟩)] encV (KeepE n₀ X) (fun ys => ys = L) (fun pre => pre <+: L) L.length w :=
  fun l J Jx W hW _ _ hY hJ0 =>
    (values1_in F n h hro hn l Bs n₀ X a c L W0 hL hb hBn J Jx hY W (h0.trans (hW.mono h0.size)) (cell_later' hBs hW) hJ0).mono fun _ _ ⟨h1, h2⟩ => ⟨h1, h2.imp (fun h => ⟨_, rfl, h⟩) id⟩

/-- AppendSeq's variable and its row, between two rounds. -/
structure ApSt (w W : World) (BX : Nat) (l : List Int) (v : Value) : Prop where
  old : Below w.heap.size w W
  lo : w.heap.size ≤ BX
  box : W.heap[BX]? = some (.cells #[v] 26 (0, 0))
  own : W.ownsRow (BX + 1) 3 1 v l.length (l.map (Value.int .i64))
theorem ApSt.lt {w W : World} {BX : Nat} {l : List Int} {v : Value} (h : ApSt w W BX l v) : BX < W.heap.size := (Array.getElem?_eq_some_iff.1 h.box).1
theorem infoIntA : (Tryd.prog.info? 3).map (fun i => (i.zero, i.size, i.bytes)) = some (some (.int .i64 0), 1, 8) := by kernel_rfl

set_option maxRecDepth 100000 in
set_option maxHeartbeats 4000000 in
theorem appendSeq_any (Bs : Nat) (a : Option Addr) (c : Nat) (L : List Int) (w : World) (hL : L.length ≤ 1048576) (hb : SlAt (fun b => b < w.heap.size) w 1 rInt (.slice a L.length c) L) (hBs : w.cell? ⟨Bs, 0, none⟩ = some (.slice a L.length c)) :
    Calls Tryd.prog 109 #[.slice none 0 0, .func (.func 81) #[] #[.pointer (some ⟨Bs, 0, none⟩)]] w fun e w' =>
      ∃ v, e = .returned v ∧ w'.ownsRow w.heap.size 3 1 v L.length (L.map (Value.int .i64)) ∧ Below w.heap.size w w' := by
  have Hb := hid hb
  have HBs := hid hBs
  have zBs : Bs < w.heap.size := cell_lt hBs
  clear hb hBs
  obtain ⟨i0, hi, hz0, hz1, hz2⟩ := info_parts infoIntA
  refine (callsIn_wide (n := 6)).1 ?_
  refine callsIn_of_wp_marks Tryd.func109 rfl trivial ?_ rfl
  simp only [Tryd.ntmps109, List.size_toArray, List.length_cons, List.length_nil, Nat.reduceAdd, Nat.reduceSub, Array.replicate_succ, Array.replicate_zero, List.push_toArray, List.append_toArray, List.nil_append, List.cons_append]
  gi_wp2
  obtain ⟨Wk, hWk⟩ : ∃ Wk, Wk = w.alloc (.cells #[.slice none 0 0] 26) := ⟨_, rfl⟩
  have hsk : Wk.heap.size = w.heap.size + 1 := by rw [hWk]; simp
  have hbk : Below w.heap.size w Wk := by rw [hWk]; (repeat (first | exact Below.refl _ _ | refine Below.alloc ?_ (by first | omega | (simp <;> omega)) _ | refine Below.setCell ?_ (by first | omega | (simp <;> omega)) _ | refine below_drewN ?_ _ | refine Below.drew ?_))
  have hst0 : ApSt w Wk w.heap.size [] (.slice none 0 0) := ⟨hbk, Nat.le_refl _, by rw [hWk]; exact heap_alloc_new _ _, World.ownsRow_nil _ _ _ _⟩
  have Hst0 := hid hst0
  rw [← hWk]
  clear hWk hst0
  refine wpIn_rangeFunc_ownF (α := Int) rfl (by decide) (gf := 81) (lb := #[.pointer (some ⟨Bs, 0, none⟩)]) rfl trivial (enters_of Tryd.func81 (by kernel_rfl) rfl)
    (values_stops Fence.wide (6 - 1) trivial rfl (by decide) Bs w.heap.size (fun _ => False) a c L w Wk hL (Hb.out.mono rInt_mono (fun k hk => ⟨hk, fun h => h⟩) (Stays.refl _ _)) ⟨zBs, fun h => h⟩ hbk (cell_later' HBs.out hbk))
    (fun h k => keepE_t h k) (keepE_b (by omega)) (Below.refl _ _) (fun _ => rfl)
    (fun pre V => ∃ v, ApSt w V w.heap.size pre v)
    (fun _ _ _ => False)
    ?hI ?hIx ?h0 (fun x => { tmps := #[.slice none 0 0, (.func (.func 81) #[] #[.pointer (some ⟨Bs, 0, none⟩)]), .pointer (some ⟨w.heap.size, 0, none⟩), undef, .slice none 0 0, .int .i64 x, (.func (.func 81) #[] #[.pointer (some ⟨Bs, 0, none⟩)]), .int .i64 x, undef, undef, undef, undef, undef], defers := [] }) ?assign ?body ?done ?stop
  case hI =>
    rintro pr A B row ⟨v', hst⟩ hg hr
    have hrw : ∀ r, row = some r → Wk.heap.size ≤ r := fun r e => (hr r e).1
    have hz := hst.lt
    refine ⟨v', hst.old.grown hg hst.old.size (fun k e => by have := hrw k e; omega), hst.lo, ?_, hst.own.kept hg ?_⟩
    · rw [hg.block w.heap.size hz (fun e => by have := hrw _ e.symm; omega)]; exact hst.box
    · rcases hst.own.2 with ⟨rfl, -⟩ | ⟨g', cap, cur, rfl, -, h2, -⟩
      · exact .inl rfl
      · refine .inr (fun e => ?_)
        obtain ⟨-, o, ho, hc⟩ := hr g' e.symm
        rw [h2] at ho
        cases ho
        cases hc
  case hIx => exact fun _ _ _ _ _ h _ _ => h
  case h0 => exact ⟨_, Hst0.out⟩
  case assign =>
    intro l x V K hK
    unfold encV
    gi_wp2
    exact hK
  case body =>
    rintro l pre x V ⟨v', hst⟩ hpl
    have hc0 : V.cell? ⟨w.heap.size, 0, none⟩ = some v' := by simp [World.cell?, hst.box]
    have hz := hst.lt
    have Hst := hid hst
    have Hpl := hid hpl
    have Hown : Hid ((V.alloc (.cells #[.int .i64 x] 3)).ownsRow (w.heap.size + 1) 3 1 v' pre.length (pre.map (Value.int .i64))) := hst.own.alloc _
    obtain ⟨va, vc, hv⟩ : ∃ va vc, v' = .slice va pre.length vc := by
      rcases hst.own.2 with ⟨rfl, h0⟩ | ⟨g', cap, cur, rfl, -⟩
      · exact ⟨none, 0, by rw [h0]⟩
      · exact ⟨_, _, rfl⟩
    subst hv
    clear hst hpl
    gi_wp2_with (gi_at_builtin; refine wpListIn_append_own_at _ rfl _ _ 26 rfl (w.heap.size + 1) 3 i0 (.int .i64 0) 1 8 Tryd.underlying26 hi hz0 hz1 hz2 rfl (by decide) _ _ _ rfl Hown.out ⟨V.heap.size, 0, none⟩ 1 1 [.int .i64 x] rfl rfl (cell_one_new _ _ _) ?_ ?_ ?_ ?_ ?_)
    · intro u hu; simp at hu; subst hu; rfl
    · have := Hpl.out; unfold maxLen; omega
    · have := Hpl.out; omega
    · simp; omega
    · intro v9 w9 hown9 hgrow hnil hat
      obtain ⟨g, cap, rfl, hgb, hgl⟩ := own_shape hown9
      have hrow : ∀ r, (Value.slice va pre.length vc).ownBlock = some r → w.heap.size + 1 ≤ r ∧ ∃ o : Obj, V.heap[r]? = some o ∧ o.isCells = true := fun r e => by
        rcases Hst.out.own.2 with ⟨h1, -⟩ | ⟨g', cap', cur, h1, h2, h3, -⟩
        · rw [h1] at e; cases e
        · rw [h1] at e; cases e; exact ⟨h2, _, h3, rfl⟩
      have hk9 : ∀ k, k < V.heap.size → (Value.slice va pre.length vc).ownBlock ≠ some k → w9.heap[k]? = V.heap[k]? := fun k h1 h2 => by
        rw [hgrow.block k (by simp; omega) (fun e => h2 e.symm), Below.heap_alloc _ _ _ h1]
      have hL9 : w9.heap[w.heap.size]? = some (.cells #[.slice va pre.length vc] 26 (0, 0)) := by
        rw [hk9 _ hz (fun e => by have := (hrow _ e).1; omega)]; exact Hst.out.box
      have c9 : w9.cell? ⟨w.heap.size, 0, none⟩ = some (.slice va pre.length vc) := by simp [World.cell?, hL9]
      have f9 : w9.frozen? ⟨w.heap.size, 0, none⟩ = false := by simp [World.frozen?, hL9]
      have hb9 : Below w.heap.size w w9 := (Hst.out.old.alloc Hst.out.old.size _).grown hgrow (by have := Hst.out.old.size; simp; omega) (fun k e => by have := (hrow k e).1; omega)
      have Hb9 := hid hb9
      have Hown9 := hid hown9
      have Hgrow := hid hgrow
      have Hk9 := hid hk9
      have HL9 := hid hL9
      have Hrow := hid hrow
      clear hown9 hgrow hnil hat hk9 hL9 hrow hc0 hb9
      gi_wp2
      obtain ⟨W9, hW9⟩ : ∃ W9, W9 = w9.setCell ⟨w.heap.size, 0, none⟩ (.slice (some ⟨g, 0, none⟩) (pre.length + 1) cap) := ⟨_, rfl⟩
      rw [← hW9]
      have hs9 : W9.heap.size = w9.heap.size := by rw [hW9]; simp [World.setCell]
      have hw9s : V.heap.size + 1 ≤ w9.heap.size := by have := Hgrow.out.size; simpa using this
      have hk10 : ∀ k, k < V.heap.size → k ≠ w.heap.size → (Value.slice va pre.length vc).ownBlock ≠ some k → W9.heap[k]? = V.heap[k]? := fun k h1 h2 h3 => by
        rw [hW9, Below.heap_setCell _ _ _ _ (by dsimp only; exact h2)]; exact Hk9.out k h1 h3
      refine ⟨⟨by omega, fun k o hk hc => ?_⟩, ⟨by omega, fun b h1 _ => ?_⟩, .slice (some ⟨g, 0, none⟩) (pre.length + 1) cap, ?_, Nat.le_refl _, ?_, ?_⟩
      · have hkl : k < V.heap.size := (Array.getElem?_eq_some_iff.1 hk).1
        rw [hk10 k hkl (fun e => by rw [e, Hst.out.box] at hk; cases hk; cases hc) (fun e => by
          obtain ⟨-, o', ho, hc'⟩ := Hrow.out k e
          rw [hk] at ho
          cases ho
          rw [hc] at hc'
          cases hc')]
        exact hk
      · exact hk10 b (by omega) (by omega) (fun e => by have := (Hrow.out b e).1; omega)
      · rw [hW9]; exact Hb9.out.setCell (p := ⟨w.heap.size, 0, none⟩) (Nat.le_refl _) _
      · rw [hW9, heap_set_row HL9.out]; rfl
      · rw [hW9, List.length_append, List.length_singleton, List.map_append]
        exact ownsRow_setCell_below (a := ⟨w.heap.size, 0, none⟩) Hown9.out (by dsimp only; omega) _
  case done =>
    rintro D xs V hD hxs ⟨v', hst⟩ hd
    have hc0 : V.cell? ⟨w.heap.size, 0, none⟩ = some v' := by simp [World.cell?, hst.box]
    have Hst := hid hst
    have Hd := hid hd
    have Hxs := hid hxs
    have hz := hst.lt
    have hDV : D < V.heap.size := (Array.getElem?_eq_some_iff.1 hd).1
    clear hst hd hxs
    gi_wp2
    refine leaves_marks (B := Wk.heap.size) (C := D + 1) _ _ (by omega) ((Marks.nil Wk.heap.size D V).cons (Nat.le_refl _) hD (by omega) Hd.out) (fun W' hW => ?_)
    have hres : Tryd.f109.results = #[.tmp 4] := rfl
    refine ⟨v', by unfold results; rw [hres]; simp [go_sem], v', rfl, ?_, Hst.out.old.trans (hW.1.mono (by omega))⟩
    have hxl : xs = L := Hxs.out
    subst hxl
    have h := Hst.out.own
    refine ⟨h.1, ?_⟩
    rcases h.2 with h1 | ⟨g, cap, cur, e, h2, h3, h4⟩
    · exact .inl h1
    · exact .inr ⟨g, cap, cur, e, by omega, hW.2 _ _ _ _ h3, h4⟩
  case stop => exact fun _ _ _ _ _ _ h _ => h.elim

theorem collect_any (Bs : Nat) (a : Option Addr) (c : Nat) (L : List Int) (w : World) (hL : L.length ≤ 1048576) (hb : SlAt (fun b => b < w.heap.size) w 1 rInt (.slice a L.length c) L) (hBs : w.cell? ⟨Bs, 0, none⟩ = some (.slice a L.length c)) :
    Calls Tryd.prog 80 #[.func (.func 81) #[] #[.pointer (some ⟨Bs, 0, none⟩)]] w fun e w' =>
      ∃ v, e = .returned v ∧ w'.ownsRow w.heap.size 3 1 v L.length (L.map (Value.int .i64)) ∧ Below w.heap.size w w' := by
  have Hc := hid (appendSeq_any Bs a c L w hL hb hBs)
  clear hb hBs
  go_enter Tryd.func80, Tryd.ntmps80
  go_wp2_with (go_at_call 109; refine Hc.out.mono ?_; rintro e w1 ⟨v, rfl, h1, h2⟩; have H1 := hid h1; have H2 := hid h2; clear h1 h2)
  go_ret
  exact ⟨_, rfl, H1.out, H2.out⟩

set_option maxHeartbeats 1000000 in
/-- **slices.Sorted(slices.Values(l))**: a new row with the list, sorted. -/
theorem sorted_any (Bs : Nat) (a : Option Addr) (c : Nat) (L : List Int) (w : World) (hL : L.length ≤ 1048576) (hb : SlAt (fun b => b < w.heap.size) w 1 rInt (.slice a L.length c) L) (hBs : w.cell? ⟨Bs, 0, none⟩ = some (.slice a L.length c)) :
    Calls Tryd.prog 56 #[.func (.func 81) #[] #[.pointer (some ⟨Bs, 0, none⟩)]] w fun e w' =>
      ∃ v, e = .returned v ∧ OwnInts w.heap.size w' v (sortI L) ∧ Below w.heap.size w w' := by
  have Hc := hid (collect_any Bs a c L w hL hb hBs)
  have hi : ∀ x ∈ L, I64 x := by
    intro x hx
    obtain ⟨k, hk, rfl⟩ := List.getElem_of_mem hx
    obtain ⟨_, _, cs, _, _, ⟨_, h1⟩, _⟩ := hb.get hk
    exact h1
  have Hi := hid hi
  clear hb hBs hi
  go_enter Tryd.func56, Tryd.ntmps56
  go_wp2_with (first
    | (go_at_call 80; refine Hc.out.mono ?_; rintro e w1 ⟨v, rfl, h1, h2⟩; have H1 : Hid (OwnInts w.heap.size w1 v L) := ⟨h1, Hi.out⟩; have H2 := hid h2; clear h1 h2)
    | (go_at_call 33; refine (sort_own H1.out hL).mono ?_; rintro e w2 ⟨rfl, h3, h4⟩; have H3 := hid h3; have H4 := hid h4; clear h3 h4))
  go_ret
  exact ⟨_, rfl, H3.out, H2.out.grown H4.out H2.out.size (fun g hg => (own_ge H1.out hg).1)⟩

end Go.Proofs.YtnkogppgacappaaDoor
