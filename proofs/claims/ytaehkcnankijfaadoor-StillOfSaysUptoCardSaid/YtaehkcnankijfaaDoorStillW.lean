/- still.words: the words of the memory, as they are at first. -/
import Derived.Test.YtaehkcnankijfaaDoorStillA
import Derived.Test.YtaehkcnankijfaaDoorZeros
import Derived.Test.YtaehkcnankijfaaDoorClone
namespace Go.Proofs.YtaehkcnankijfaaDoor
open Go.RowKit

/-- A row of numbers of the call's own. -/
def OwnInts (base : Nat) (w : World) (v : Value) (l : List Int) : Prop := w.ownsRow base 3 1 v l.length (l.map fun x => .int .i64 x) ∧ ∀ x ∈ l, I64 x
theorem OwnInts.nil (base : Nat) (w : World) : OwnInts base w (.slice none 0 0) [] := ⟨World.ownsRow_nil w base _ 1, fun x h => by simp at h⟩
theorem OwnInts.shape {base : Nat} {w : World} {v : Value} {l : List Int} (h : OwnInts base w v l) : ∃ a c, v = .slice a l.length c := by
  rcases h.1.2 with ⟨rfl, h2⟩ | ⟨g, cap, cur, rfl, -⟩
  · exact ⟨none, 0, by rw [h2]⟩
  · exact ⟨_, _, rfl⟩
theorem OwnInts.later {base : Nat} {w w' : World} {v : Value} {l : List Int} (h : OwnInts base w v l) (hb : Below w.heap.size w w') : OwnInts base w' v l :=
  ⟨h.1.kept (grown_below (B := 0) hb none (Nat.zero_le _)) (by cases v.ownBlock <;> simp), h.2⟩
theorem OwnInts.sl {base : Nat} {w : World} {v : Value} {l : List Int} (h : OwnInts base w v l) : SlAt (iv base w.heap.size) w 1 rInt v l := by
  obtain ⟨h1, h2⟩ := h
  have hc := fun g hg => h1.cells (g := g) hg
  rcases id h1.2 with ⟨rfl, hl⟩ | ⟨g, cap, cur, rfl, hg, hgg, hn, hm, -⟩
  · have hl0 : l = [] := List.length_eq_zero_iff.1 hl
    subst hl0
    exact ⟨none, 0, rfl, Nat.le_refl _, by decide, fun h => absurd rfl h⟩
  · unfold maxLen at hm
    refine ⟨_, cap, rfl, hn, by omega, fun hne => ⟨g, 0, rfl, ⟨hg, (Array.getElem?_eq_some_iff.1 hgg).1⟩, fun i x hx => ?_⟩⟩
    obtain ⟨hi, rfl⟩ := List.getElem?_eq_some_iff.1 hx
    have hb := h2 _ (List.getElem_mem hi)
    refine ⟨_, ⟨rfl, hb.1, hb.2⟩, rfl, fun j u hj => ?_⟩
    match j, hj with
    | 0, hj =>
      cases hj
      have hcell := hc g rfl i (.int .i64 l[i]) (by rw [List.getElem?_map, List.getElem?_eq_getElem hi]; rfl)
      rw [show (⟨g, 0, none⟩ : Addr).add i = ⟨g, i, none⟩ by unfold Addr.add; split <;> simp_all] at hcell
      rw [Nat.zero_add, Nat.mul_one, Nat.add_zero]; exact hcell
    | j + 1, hj => simp at hj
theorem sl_news {S : Nat → Prop} {w : World} {b off n c : Nat} {l : List Int} (h : SlAt S w 1 rInt (.slice (some ⟨b, off, none⟩) n c) l) : ∀ (j : Nat) u, (l.map fun x => Value.int .i64 x)[j]? = some u → w.cell? ((⟨b, off, none⟩ : Addr).add j) = some u := by
  intro j u hj
  rw [List.getElem?_map] at hj
  cases hq : l[j]? with
  | none => rw [hq] at hj; cases hj
  | some x =>
    rw [hq] at hj
    cases hj
    obtain ⟨hi, rfl⟩ := List.getElem?_eq_some_iff.1 hq
    obtain ⟨b', off', e, hc⟩ := int_at h hi
    cases e
    rw [show (⟨b, off, none⟩ : Addr).add j = ⟨b, off + j, none⟩ by unfold Addr.add; split <;> simp_all]
    exact hc

/-- append of a list of numbers onto such a row, for the walk. -/
theorem wpList_append_ints {w : World} {ops : Array Oper} {rest : List Oper} {o : Oper} {a : Act} {Q : Exit → Act → World → Prop} (hgd : o.guard = none) (s x : Operand)
    (ho : o.op = .call { callee := .builtin .append, args := #[s, x], argTypes := #[26, 26] })
    (base : Nat) (v : Value) (l : List Int) (hs : a.eval s = v) (hown : OwnInts base w v l) {S : Nat → Prop} (sa : Option Addr) (m c : Nat) (L : List Int) (hx : a.eval x = .slice sa m c) (hsl : SlAt S w 1 rInt (.slice sa m c) L) (hm : L.length = m)
    (hn : l.length + m ≤ 1048576) (hbase : base ≤ w.heap.size)
    (h : ∀ v' w', OwnInts base w' v' (l ++ L) → w.grownBy w' v.ownBlock → wpList Tryd.prog ops Q rest (a.put o.dst v') w') :
    wpList Tryd.prog ops Q (o :: rest) a w := by
  subst hm
  obtain ⟨ii, hii, hz0, hz1, hz2⟩ := info_parts infoInt'
  have hi64 : ∀ x ∈ L, I64 x := fun x hx => by
    obtain ⟨i, hi, rfl⟩ := List.getElem_of_mem hx
    obtain ⟨-, -, cs9, -, -, ⟨-, h1, h2⟩, -⟩ := hsl.get hi
    exact ⟨h1, h2⟩
  have hall : ∀ x ∈ l ++ L, I64 x := fun x hx => (List.mem_append.1 hx).elim (hown.2 x) (hi64 x)
  refine wpList_plain hgd fun K hK => ?_
  cases sa with
  | none =>
    have hl := hsl.none
    subst hl
    rw [List.append_nil] at h hall
    have hrun : (Builtin.append_ #[26, 26] o.type #[v, .slice none 0 c]).run Tryd.prog w = .ok v w := by
      rcases hown.1.2 with ⟨rfl, -⟩ | ⟨g, cap, cur, rfl, -, -, hnc, -⟩
      · simp [Builtin.append_, run_underlying Tryd.underlying26, sizeOf, typeInfo, hii, Builtin.lenOf, Builtin.firstCells]
      · simp [Builtin.append_, run_underlying Tryd.underlying26, sizeOf, typeInfo, hii, Builtin.lenOf, Builtin.firstCells, hnc, storeCells]
    unfold Oper.wp execOp
    simp only [ho, resolve, invoke, builtin, Sem.run_bind, Sem.run_pure, Result.andThen_ok, List.map_toArray, List.map_cons, List.map_nil, hs, hx, List.length_nil, hrun]
    exact hK _ _ (h v w hown ⟨rfl, rfl, rfl, Nat.le_refl _, fun _ _ _ => rfl⟩)
  | some ad =>
    cases hL : L with
    | nil =>
      subst hL
      rw [List.append_nil] at h hall
      obtain ⟨v', w', hr, h2, h3, -⟩ := run_append_own (P := Tryd.prog) w base 26 o.type 3 ii (.int .i64 0) 1 8 Tryd.underlying26 hii hz0 hz1 hz2 rfl (by decide) v l.length _ hown.1 ad 0 c [] rfl (fun j u hj => by simp at hj) (fun u hu => by simp at hu) (by unfold maxLen; omega) (by omega) hbase
      unfold Oper.wp execOp
      simp only [ho, resolve, invoke, builtin, Sem.run_bind, Sem.run_pure, Result.andThen_ok, List.map_toArray, List.map_cons, List.map_nil, hs, hx, List.length_nil, hr]
      exact hK _ _ (h v' w' ⟨by simpa using h2, hall⟩ h3)
    | cons y L' =>
      obtain ⟨b, off, hab, -⟩ := int_at hsl (t := 0) (by rw [hL]; simp)
      cases hab
      obtain ⟨v', w', hr, h2, h3, -⟩ := run_append_own (P := Tryd.prog) w base 26 o.type 3 ii (.int .i64 0) 1 8 Tryd.underlying26 hii hz0 hz1 hz2 rfl (by decide) v l.length _ hown.1 ⟨b, off, none⟩ L.length c (L.map fun x => .int .i64 x) (by simp) (sl_news hsl) (fun u hu => by obtain ⟨x, -, rfl⟩ := List.mem_map.1 hu; rfl) (by unfold maxLen; omega) (by omega) hbase
      unfold Oper.wp execOp
      simp only [ho, resolve, invoke, builtin, Sem.run_bind, Sem.run_pure, Result.andThen_ok, List.map_toArray, List.map_cons, List.map_nil, hs, hx, hr]
      exact hK _ _ (h v' w' ⟨by rw [List.length_append, List.map_append]; exact h2, hall⟩ h3)
/-- append of so many zeros. -/
theorem wpList_append_zs {w : World} {ops : Array Oper} {rest : List Oper} {o : Oper} {a : Act} {Q : Exit → Act → World → Prop} (hgd : o.guard = none) (s x : Operand)
    (ho : o.op = .call { callee := .builtin .append, args := #[s, x], argTypes := #[26, 3] })
    (base : Nat) (v : Value) (l : List Int) (hs : a.eval s = v) (hown : OwnInts base w v l) (m : Nat) (hx : a.eval x = .int .i64 (m : Int))
    (hn : l.length + m ≤ 1048576) (hbase : base ≤ w.heap.size)
    (h : ∀ v' w', OwnInts base w' v' (l ++ List.replicate m 0) → w.grownBy w' v.ownBlock → wpList Tryd.prog ops Q rest (a.put o.dst v') w') :
    wpList Tryd.prog ops Q (o :: rest) a w := by
  obtain ⟨ii, hii, hz0, hz1, hz2⟩ := info_parts infoInt'
  refine wpList_append_zeros w hgd s x 26 3 ho base 3 ii (.int .i64 0) 8 Tryd.underlying26 Tryd.underlying3 hii hz0 hz1 hz2 rfl rfl v l.length _ hs hown.1 m hx (by unfold maxLen; omega) (by omega) hbase ?_
  intro v' w' h2 h3 _
  refine h v' w' ⟨?_, fun x hx => (List.mem_append.1 hx).elim (hown.2 x) (fun h => by rw [List.eq_of_mem_replicate h]; exact ⟨by decide, by decide⟩)⟩ h3
  rw [List.length_append, List.map_append, List.length_replicate, List.map_replicate]; exact h2

set_option maxRecDepth 100000 in
set_option maxHeartbeats 4000000 in
theorem words_any {S : Nat → Prop} (ga fa : Option Addr) (gc fn fc : Nat) (gs : List DGlobal) (w : World) (hg : SlAt S w 3 rGlobal (.slice ga gs.length gc) gs) (hn : gs.length ≤ 10) (hsz : ∀ g ∈ gs, 0 ≤ g.size ∧ g.size ≤ 200 ∧ (g.init.length : Int) ≤ g.size) :
    Calls Tryd.prog 47 #[.agg #[.slice ga gs.length gc, .slice fa fn fc]] w fun e w' => ∃ v, e = .returned v ∧ OwnInts w.heap.size w' v (wordsL gs) ∧ Below w.heap.size w w' := by
  have Hg := hid hg
  have Hsz := hid hsz
  clear hg hsz
  obtain ⟨ii, hii, hiz0, hiz1, hiz2⟩ := info_parts infoInt'
  go_enter Tryd.func47, Tryd.ntmps47
  go_wp2_with fail
  obtain ⟨W, hW⟩ : ∃ W, W = w.alloc (.cells #[.slice ga gs.length gc, .slice fa fn fc] 25) := ⟨_, rfl⟩
  have hbW : Below w.heap.size w W := by rw [hW]; (repeat (first | exact Below.refl _ _ | refine Below.alloc ?_ (by first | omega | (simp <;> omega)) _ | refine Below.setCell ?_ (by first | omega | (simp <;> omega)) _ | refine below_drewN ?_ _ | refine Below.drew ?_))
  have g0 : W.cell? ⟨w.heap.size, 0, none⟩ = some (.slice ga gs.length gc) := by rw [hW]; simp
  have hWs : W.heap.size = w.heap.size + 1 := by rw [hW]; simp
  rw [← hW]
  have HbW := hid hbW
  have HWs := hid hWs
  clear hW hbW g0 hWs
  go_loopw [3, 9] (fun v3 i wr => ∃ (k : Nat) (v : Value), v = v3 ∧ k ≤ gs.length ∧ i = .int .i64 k ∧ OwnInts W.heap.size wr v (wordsK gs k) ∧ Below W.heap.size W wr) (fun _ i _ => gs.length - (intOf i).toNat)
  case atStart => exact ⟨0, _, rfl, Nat.zero_le _, rfl, OwnInts.nil _ _, Below.refl _ _⟩
  case round =>
    obtain ⟨k, v, rfl, hk, rfl, ho, hb⟩ := hrel
    have Ho := hid ho
    have Hb := hid hb
    have Hw : Hid (Below w.heap.size w wr) := HbW.out.trans (hb.mono HbW.out.size)
    have zW : W.heap.size ≤ wr.heap.size := hb.size
    clear ho hb
    by_cases hkl : k < gs.length
    · obtain ⟨b, off, ia, ic, rfl, hcs, hin, -⟩ := global_at (Hg.out.later rGlobal_mono Hw.out) hkl
      obtain ⟨c0, c1, c2⟩ := hcs.get3
      have zb : b < wr.heap.size := cell_lt c0
      have hs := Hsz.out _ (List.getElem_mem hkl)
      have hs2 := (hs.2.2)
      have hw1 := wordsK_len (gs := gs) (fun g hg => (Hsz.out g hg).2.2) k hk
      have hw2 := wordsUp_bd (gs := gs) (fun g hg => ⟨(Hsz.out g hg).1, (Hsz.out g hg).2.1⟩) k hk
      have hwl : (wordsK gs k).length ≤ 2000 := by omega
      have Hwl := hid hwl
      have Hin := hid hin
      have Hi64 : Hid (∀ x ∈ gs[k].init, I64 x) := fun x hx => by
        obtain ⟨i, hi, rfl⟩ := List.getElem_of_mem hx
        obtain ⟨-, -, cs9, -, -, ⟨-, h1, h2⟩, -⟩ := hin.get hi
        exact ⟨h1, h2⟩
      have Hstep : Hid (wordsK gs (k + 1) = wordsK gs k ++ gs[k].init ++ List.replicate (gs[k].size - gs[k].init.length).toNat 0) := by
        show _ = _
        rw [wordsK_succ hkl, wordsG, List.append_assoc]
      obtain ⟨m, hm⟩ : ∃ m, gs[k].init.length = m := ⟨_, rfl⟩
      obtain ⟨z, hz⟩ : ∃ z, gs[k].size = z := ⟨_, rfl⟩
      rw [hm] at c2 hs2
      rw [hz] at hs hs2 c1
      have Hin2 : Hid (SlAt S wr 1 rInt (.slice ia m ic) gs[k].init) := by have h := Hin.out; rw [hm] at h; exact h
      have Hm := hid hm
      have Hz := hid hz
      have hm2 : m ≤ 200 := by omega
      obtain ⟨q, hq⟩ : ∃ q : Nat, z - (m : Int) = (q : Int) := Int.eq_ofNat_of_zero_le (by omega)
      have hq2 : q ≤ 200 := by omega
      have Hq := hid hq
      have hzq : z = (m : Int) + (q : Int) := by omega
      have Hzq := hid hzq
      clear hcs hin hw1 hw2 hwl hm hz hq hs hs2 hzq
      rw [Hzq.out] at c1
      go_wp2_with (first
        | (at_builtin; refine wpList_append_ints rfl _ _ rfl W.heap.size v (wordsK gs k) rfl ?_ ia m ic gs[k].init rfl (Hin2.out.later rInt_mono (by (repeat (first | exact Below.refl _ _ | refine Below.alloc ?_ (by first | omega | (simp <;> omega)) _ | refine Below.setCell ?_ (by first | omega | (simp <;> omega)) _ | refine below_drewN ?_ _ | refine Below.drew ?_)))) Hm.out ?_ ?_ ?_
           · exact Ho.out.later (by (repeat (first | exact Below.refl _ _ | refine Below.alloc ?_ (by first | omega | (simp <;> omega)) _ | refine Below.setCell ?_ (by first | omega | (simp <;> omega)) _ | refine below_drewN ?_ _ | refine Below.drew ?_)))
           · have := Hwl.out; omega
           · simp; omega
           intro v2 w2 ho2 hg2
           have Ho2 := hid ho2
           have hb2 : Below W.heap.size W w2 := by
             refine Below.grown ?_ hg2 (by simp; omega) (fun g hg => (Ho.out.1.lt g hg).1)
             have h := Hb.out
             (repeat (first | exact Below.refl _ _ | exact (h).mono (by first | omega | (simp <;> omega) | (have hh := (h).size; (try simp at hh); omega) | (have hh := (h).size; (try simp at hh); (try simp); omega)) | refine Below.trans ?_ ((h).mono (by first | omega | (simp <;> omega) | (have hh := (h).size; (try simp at hh); omega) | (have hh := (h).size; (try simp at hh); (try simp); omega))) | refine Below.alloc ?_ (by first | omega | (simp <;> omega) | (have hh := (h).size; (try simp at hh); omega) | (have hh := (h).size; (try simp at hh); (try simp); omega)) _ | refine Below.setCell ?_ (by first | omega | (simp <;> omega) | (have hh := (h).size; (try simp at hh); omega) | (have hh := (h).size; (try simp at hh); (try simp); omega)) _ | refine below_drewN ?_ _ | refine Below.drew ?_))
           have Hb2 := hid hb2
           have hvb : some wr.heap.size ≠ v.ownBlock := fun e => by have := (Ho.out.1.lt _ e.symm).2; omega
           have b1 : w2.cell? ⟨wr.heap.size, 1, none⟩ = some (.int .i64 ((m : Int) + (q : Int))) := hg2.cell (a := ⟨wr.heap.size, 1, none⟩) (by simp) hvb
           have b2 : w2.cell? ⟨wr.heap.size, 2, none⟩ = some (.slice ia m ic) := hg2.cell (a := ⟨wr.heap.size, 2, none⟩) (by simp) hvb
           have zb2 : wr.heap.size < w2.heap.size := cell_lt b1
           have hll : (wordsK gs k ++ gs[k].init).length + q ≤ 1048576 := by
             rw [List.length_append, Hm.out]; have := Hwl.out; omega
           have Hll := hid hll
           clear ho2 hg2 hb2 hvb hll c0 c1 c2)
        | (at_builtin; refine wpList_append_zs rfl _ _ rfl W.heap.size v2 (wordsK gs k ++ gs[k].init) rfl Ho2.out q (show Value.int .i64 ((m : Int) + (q : Int) - (m : Int)) = .int .i64 (q : Int) by rw [show (m : Int) + (q : Int) - (m : Int) = (q : Int) by omega]) Hll.out ?_ ?_
           · omega
           intro v3 w3 ho3 hg3
           have hb3 : Below W.heap.size W w3 := Below.grown Hb2.out hg3 (by omega) (fun g hg => (Ho2.out.1.lt g hg).1)
           have Hb3 := hid hb3
           have Hst : Hid (wordsK gs (k + 1) = wordsK gs k ++ gs[k].init ++ List.replicate q 0) := by
             show _ = _
             rw [Hstep.out, show (gs[k].size - (gs[k].init.length : Int)).toNat = q by rw [Hm.out, Hz.out, Hzq.out]; omega]
           have Ho3 : Hid (OwnInts W.heap.size w3 v3 (wordsK gs (k + 1))) := by show OwnInts _ _ _ _; rw [Hst.out]; exact ho3
           obtain ⟨a3, c3, rfl⟩ := Ho3.out.shape
           clear ho3 hg3 hb3))
      go_roundw
      case rel => exact ⟨k + 1, _, rfl, by omega, by go_num, Ho3.out, Hb3.out⟩
      case measure => simp [intOf]; omega
    · have hkn : k = gs.length := by omega
      have Ho9 : Hid (OwnInts W.heap.size wr v (wordsL gs)) := by have h := Ho.out; rw [hkn] at h; exact h
      clear hkn
      obtain ⟨a3, c3, rfl⟩ := Ho9.out.shape
      go_wp2_with fail
      go_ret
      refine ⟨_, rfl, ?_, Hw.out⟩
      have h := Ho9.out
      refine ⟨⟨h.1.1, ?_⟩, h.2⟩
      rcases h.1.2 with h1 | ⟨g, cap, cur, e1, h2, h3⟩
      · exact .inl h1
      · exact .inr ⟨g, cap, cur, e1, by have := HWs.out; omega, h3⟩

end Go.Proofs.YtaehkcnankijfaaDoor
