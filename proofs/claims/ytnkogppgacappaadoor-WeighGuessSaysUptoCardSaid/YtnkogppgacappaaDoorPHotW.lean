/- What every law of this seat shares around its walk: the arguments read behind the call as before; what the listed variable gives; what the bound gives. The law WeighOnce: its walk. The law WeighHot: its walk. -/
import Derived.Test.YtnkogppgacappaaDoorPPair
import Derived.Test.YtnkogppgacappaaDoorPSameU
import Derived.Test.YtnkogppgacappaaDoorCards
import Derived.Test.YtnkogppgacappaaDoorTie
import Derived.Deep.DeepHandedRow
import Derived.Lib.LaidTab
import Derived.Test.YtnkogppgacappaaDoorPOnce0
namespace Go.Proofs.YtnkogppgacappaaDoor
open Go.RowKit Go.ChangeShapes Go.WideShapes Go.ChangeAt Go.Deep

theorem own : ownKnob Tryd.prog.godebug = none := by kernel_rfl
theorem laidOut : laidOutB Tryd.prog = true := by kernel_rfl
theorem gWays : Tryd.prog.globalNamed "turnery/code.ways" = some 0 := by kernel_rfl
theorem gWaysType : (Tryd.prog.globals[0]?).map (·.type) = some 149 := by kernel_rfl
theorem cells4 : Tryd.prog.cellsOf 149 = 4 := by kernel_rfl

theorem ways_of {W : World} (h : laidMetH Tryd.prog [("turnery/code.ways", Rows.laid_turnery_code_ways)] W) : Ways W := by
  have t : Lib.TabIs Tryd.prog W "turnery/code.ways" .i64 [0, 0, 1, 2] := Lib.tabIs_of_head (rest := []) gWays gWaysType Tryd.underlying149 Tryd.underlying3 cells_int cells4 h
  exact ⟨t.cell gWays 1 (by decide), t.cell gWays 2 (by decide), t.cell gWays 3 (by decide)⟩

/-- A type whose readings may be carried into a later world. -/
def Carried (t : TypeId) : Prop := Tryd.prog.readableRec t = true ∧ t < Tryd.prog.types.size
theorem carried {t : TypeId} (h : (Tryd.prog.readableRec t && decide (t < Tryd.prog.types.size)) = true) : Carried t := by
  simp only [Bool.and_eq_true, decide_eq_true_eq] at h; exact h
theorem carried_unit : Carried 25 := carried (by kernel_rfl)
theorem carried_int : Carried 3 := carried (by kernel_rfl)
theorem args_keep {H : Type} {enc : TypeId × Value → H} {W W' : World} {sp : Nat → Bool} (hb : Below W.heap.size W W') : ∀ (ts : List TypeId) (vs : List Value) (ds : List (DataW H)) (ps : List MemPlace), (∀ t ∈ ts, Carried t) →
    DataW.TrodAll enc Tryd.prog W 0 (fun _ => true) true ts vs ds ps → (∀ p ∈ ps, p.block < W.heap.size) → (∀ p ∈ ps, sp p.block = true) → DataW.TrodAll enc Tryd.prog W' 0 sp true ts vs ds ps
  | [], _, _, _, _, h, _, _ => by
    obtain ⟨rfl, rfl, rfl⟩ := trodAll_nil h
    exact trodAll_mk0
  | t :: ts, _, _, _, hc, h, hlt, hsp => by
    obtain ⟨v, vs, d, ds, p, q, rfl, rfl, rfl, h1, h2⟩ := trodAll_cons h
    obtain ⟨c1, c2⟩ := hc t (by simp)
    exact trodAll_cons_mk (WideElems.Trod_stays laidOut c1 c2 h1 (fun x hx => hb.same (hlt x (by simp [hx]))) (fun x hx => hsp x (by simp [hx])))
      (args_keep hb ts vs ds q (fun t ht => hc t (by simp [ht])) h2 (fun x hx => hlt x (by simp [hx])) (fun x hx => hsp x (by simp [hx])))
theorem trodAll_len {H : Type} {enc : TypeId × Value → H} {W : World} {sp : Nat → Bool} {hd : Bool} {b : Nat} : ∀ (ts : List TypeId) (vs : List Value) (ds : List (DataW H)) (ps : List MemPlace), DataW.TrodAll enc Tryd.prog W b sp hd ts vs ds ps → ds.length = ts.length
  | [], _, _, _, h => by
    obtain ⟨rfl, rfl, rfl⟩ := trodAll_nil h
    rfl
  | t :: ts, _, _, _, h => by
    obtain ⟨v, vs, d, ds, p, q, rfl, rfl, rfl, h1, h2⟩ := trodAll_cons h
    simp [trodAll_len ts vs ds q h2]

set_option maxRecDepth 100000 in
/-- A law that answered true and left old memory alone has met its row. -/
theorem law_post {H : Type} {enc : TypeId × Value → H} {f : Func} {s : ChangeSpec} {W W' : World} {args : Array Value} {ds gs : List (DataW H)} {before : List MemPlace}
    (hv : s.vars = []) (hr : f.resultTypes = #[4]) (hfn : ∀ ds : List (DataW H), ds.length = f.params.toList.length → s.fn H ds = { results := [.lit (.bool true)], args := ds }) (hts : ∀ t ∈ f.params.toList, Carried t)
    (hW : DataW.Whole enc Tryd.prog f.params.toList s.vars false W args.toList ds gs before) (hb : Below W.heap.size W W') : s.post enc Tryd.prog f false true false false W args (.bool true) W' := by
  have hlt : ∀ p ∈ before, p.block < W.heap.size := fun p hp => hW.lt p hp
  have hold : ∀ p ∈ before, (fun b => decide (b < W.heap.size)) p.block = true := fun p hp => by simpa using hlt p hp
  have hW0 := hW
  obtain ⟨p, q, hA, hV, rfl, hz, hn⟩ := hW
  rw [hv] at hV
  obtain ⟨rfl, rfl⟩ := trodVars_none hV
  have hA0 : DataW.TrodAll enc Tryd.prog W 0 (fun _ => true) true f.params.toList args.toList ds p := hA
  rw [List.append_nil] at hlt hold hz hW0
  have e1 : s.fn H (ds ++ []) = { results := [.lit (.bool true)], args := ds } := by rw [List.append_nil]; exact hfn ds (trodAll_len _ _ _ _ hA0)
  have hres : ∀ (b : Nat) (sp : Nat → Bool) (hd : Bool), DataW.TrodAll enc Tryd.prog W' b sp hd f.resultTypes.toList ((Value.bool true).resultList f.resultTypes.size) (s.fn H (ds ++ [])).results [] := by
    intro b sp hd
    rw [e1, hr]
    exact trodAll_cons_mk (shut_bool Tryd.underlying4 _) trodAll_mk0
  have hargs : ∀ sp : Nat → Bool, (∀ x ∈ p, sp x.block = true) → DataW.TrodAll enc Tryd.prog W' 0 sp true f.params.toList args.toList (s.fn H (ds ++ [])).args p := by
    intro sp hsp
    rw [e1]
    exact args_keep hb _ _ _ _ hts hA0 hlt hsp
  have hvars : ∀ sp : Nat → Bool, DataW.TrodVars enc Tryd.prog W' sp s.vars (s.fn H (ds ++ [])).vars [] := by
    intro sp
    rw [e1, hv]
    exact rfl
  refine ⟨ds, [], p, [], p, [], by simpa using hW0, hres _ _ _, hargs _ hold, hvars _, World.keptBut_mono (fun x hx => ⟨hx, by simpa using hx⟩) (hb.frame (· ∈ p)), fun _ => ?_⟩
  refine ⟨?_, _, _, ([] ++ p) ++ [], ⟨[] ++ p, [], trodAll_append (hargs _ (fun _ _ => rfl)) (hres _ _ _), hvars _, rfl, ?_, fun h => by cases h⟩, fun x hx _ => by simpa using hx⟩
  · exact ok_one hr rfl (okWide_bool_mk Tryd.underlying4 _)
  · intro b off hx
    have hin : MemPlace.cell b off ∈ p := by simpa using hx
    rw [hb.frozen (hlt _ hin)]
    exact hz b off hin

theorem bulk_part {H : Type} {d : DataW H} {l : List (DataW H)} (h : d ∈ l) : Rows.uptoBulk d ≤ Rows.uptoBulkAll l := by
  induction l with
  | nil => cases h
  | cons x r ih =>
    simp only [Rows.uptoBulkAll]
    rcases List.mem_cons.1 h with e | e
    · subst e; omega
    · have := ih e; omega
theorem bulk_bound {H : Type} {l : List (DataW H)} (hk : Rows.uptoSmall H l = true) : Rows.uptoBulkAll l ≤ 1048576 := by
  have h := of_decide_eq_true hk
  exact h

/-- The sizes that a unit of small bulk has. -/
structure Small (gs : List DGlobal) (fs : List DFunc) : Prop where
  size : szUnit ⟨gs, fs⟩ ≤ 1048576
theorem szGlobal_pos (x : DGlobal) : 1 ≤ szGlobal x := by have := szL_pos szInt x.init; unfold szGlobal; omega
theorem szFunc_pos (x : DFunc) : 1 ≤ szFunc x := by have := szL_pos szBlock x.blocks; unfold szFunc; omega
theorem szBlock_pos (x : DBlock) : 1 ≤ szBlock x := by have := szL_pos szPhi x.phis; unfold szBlock; omega
theorem szPhi_pos (x : DPhi) : 1 ≤ szPhi x := szL_pos _ _
theorem szIns_pos (x : DIns) : 1 ≤ szIns x := szL_pos _ _
theorem many_le (l : List DBlock) : manyOf l ≤ (l.map szBlock).sum := by
  unfold manyOf
  induction l with
  | nil => exact Nat.le_refl _
  | cons b l ih =>
    have h1 := szL_len szPhi_pos b.phis
    have h2 := szL_len szIns_pos b.list
    simp only [List.map_cons, List.sum_cons]
    unfold szBlock at *
    omega
theorem Small.globals {gs : List DGlobal} {fs : List DFunc} (h : Small gs fs) : gs.length ≤ 1048576 := by
  have h1 := h.size
  have h2 := szL_len szGlobal_pos gs
  unfold szUnit at h1; dsimp only at h1; omega
theorem Small.funcs {gs : List DGlobal} {fs : List DFunc} (h : Small gs fs) : fs.length ≤ 1048576 := by
  have h1 := h.size
  have h2 := szL_len szFunc_pos fs
  unfold szUnit at h1; dsimp only at h1; omega
theorem Small.func {gs : List DGlobal} {fs : List DFunc} (h : Small gs fs) {k : Nat} {f : DFunc} (hf : fs[k]? = some f) : szFunc f ≤ 1048576 := by
  have h1 := h.size
  have h2 := szL_mem (f := szFunc) (List.mem_of_getElem? hf)
  unfold szUnit at h1; dsimp only at h1; omega
theorem Small.many {gs : List DGlobal} {fs : List DFunc} (h : Small gs fs) : ∀ (k : Nat) (f : DFunc), fs[k]? = some f → manyOf f.blocks ≤ 1048576 ∧ f.blocks.length ≤ 1048576 := by
  intro k f hf
  have h1 := h.func hf
  have h2 := many_le f.blocks
  have h3 := szL_len szBlock_pos f.blocks
  unfold szFunc szL at h1
  unfold szL at h3
  omega

set_option maxRecDepth 100000 in
/-- A unit that comes as an argument. -/
theorem arg_unit {H : Type} {enc : TypeId × Value → H} {W : World} {base : Nat} {v : Value} {d : DataW H} {p : List MemPlace} (hv : Value.okWide Tryd.prog W .any base 25 v) (h : DataW.Trod enc Tryd.prog W 0 (fun _ => true) true 25 v d p) :
    ∃ ga gc fa fc gs fs, v = .agg #[.slice ga gs.length gc, .slice fa fs.length fc] ∧ SlAt (fun b => b < W.heap.size) W 3 rGlobal (.slice ga gs.length gc) gs ∧ SlAt (fun b => b < W.heap.size) W 4 rFunc (.slice fa fs.length fc) fs ∧ szUnit ⟨gs, fs⟩ ≤ Rows.uptoBulk d := by
  obtain ⟨cs, rfl, -⟩ := okWide_struct Tryd.underlying25 hv
  obtain ⟨fuel, h⟩ := h
  obtain ⟨u, ⟨g, f, e, hg, hf⟩, -, hm⟩ := rd_unit _ _ _ _ _ _ _ _ _ h
  have e' : cs.toList = [g, f] := e
  obtain ⟨ga, gc, eg, -⟩ := id hg
  obtain ⟨fa, fc, ef, -⟩ := id hf
  subst eg ef
  refine ⟨ga, gc, fa, fc, u.globals, u.funcs, ?_, hg, hf, hm⟩
  obtain ⟨l⟩ := cs
  have e2 : l = _ := e'
  rw [e2]
/-- A WORLD FOR THE WITNESS: the settled one, the table holding what its initialiser lays. -/
noncomputable def laidWorld (os : Os) : World :=
  { World.holding Tryd.prog os ⟨#[], #[], []⟩ with heap := (World.holding Tryd.prog os ⟨#[], #[], []⟩).heap.modify 0 fun
      | .cells _ t frozen => .cells #[.int .i64 0, .int .i64 0, .int .i64 1, .int .i64 2] t frozen
      | o => o }

end Go.Proofs.YtnkogppgacappaaDoor

namespace Go.Proofs.YtnkogppgacappaaDoor
open Go.RowKit

theorem checkF_zero {u : DUnit} (h : (checkF u).1 = 0) : checkF u = (0, 0) := by
  have h0 := h
  unfold checkF at h ⊢
  by_cases h1 : 10 < u.globals.length ∨ 10 < u.funcs.length
  · rw [if_pos h1] at h; simp at h
  rw [if_neg h1] at h ⊢
  by_cases h2 : posF (globE u.globals) u.globals.length < u.globals.length
  · rw [if_pos h2] at h; exact absurd h (posF_ne h2)
  rw [if_neg h2] at h ⊢
  by_cases h3 : posF (headsE u.globals u.funcs) u.funcs.length < u.funcs.length
  · rw [if_pos h3] at h; exact absurd h (posF_ne h3)
  rw [if_neg h3] at h ⊢
  by_cases h4 : posF (bodiesE u.funcs) u.funcs.length < u.funcs.length
  · rw [if_pos h4] at h; exact absurd h (posF_ne h4)
  rw [if_neg h4] at h ⊢
  unfold lastE at h ⊢
  by_cases h5 : idxMain u.funcs < 0
  · rw [if_pos h5] at h; simp at h
  rw [if_neg h5] at h ⊢
  by_cases h6 : 0 < (u.funcs.getD (idxMain u.funcs).toNat ⟨ByteArray.empty, 0, 0, []⟩).params
  · rw [if_pos h6] at h; simp at h
  rw [if_neg h6]

end Go.Proofs.YtnkogppgacappaaDoor

namespace Go.Proofs.YtnkogppgacappaaDoor
open Go.RowKit

end Go.Proofs.YtnkogppgacappaaDoor
