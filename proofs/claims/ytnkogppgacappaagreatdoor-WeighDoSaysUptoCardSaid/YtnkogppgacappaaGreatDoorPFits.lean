/- What every law of this seat shares around its walk: the arguments read behind the call as before; what the listed variable gives; what the bound gives. The law WeighOnce: its walk. The law WeighHot: its walk. weigh.By, plainly: what it answers. What code.Check leaves: small units, functions whose blocks may be laid. A row of structs that is written one by one. WeighRest, plainly: laid twice it lies as laid once. code.Ahead of a unit in its form; turnerylaw6.weighFits. turnerylaw6.weighFits: are there as many counts as blocks? -/
import Derived.Test.YtnkogppgacappaaGreatDoorPPair
import Derived.Test.YtnkogppgacappaaGreatDoorPHasInt
import Derived.Test.YtnkogppgacappaaGreatDoorCards
import Derived.Test.YtnkogppgacappaaGreatDoorTie
import Derived.Deep.DeepHandedRow
import Derived.Lib.LaidTab
import Derived.Test.YtnkogppgacappaaGreatDoorPOnce0
import Derived.Test.YtnkogppgacappaaGreatDoorPRest0
import Derived.Test.YtnkogppgacappaaGreatDoorPQueue
import Derived.Test.YtnkogppgacappaaGreatDoorPCopy
import Derived.Test.YtnkogppgacappaaGreatDoorPGAhd
import Derived.BigQuiet
namespace Go.Proofs.YtnkogppgacappaaGreatDoor
open Go.RowKit Go.ChangeShapes Go.WideShapes Go.ChangeAt Go.Deep

theorem own : ownKnob Tryz.prog.godebug = none := by kernel_rfl
theorem laidOut : laidOutB Tryz.prog = true := by kernel_rfl
theorem gWays : Tryz.prog.globalNamed "turnery/code.ways" = some 0 := by kernel_rfl
theorem gWaysType : (Tryz.prog.globals[0]?).map (·.type) = some 123 := by kernel_rfl
theorem cells4 : Tryz.prog.cellsOf 123 = 4 := by kernel_rfl

theorem ways_of {W : World} (h : laidMetH Tryz.prog [("turnery/code.ways", Rows.laid_turnery_code_ways)] W) : Ways W := by
  have t : Lib.TabIs Tryz.prog W "turnery/code.ways" .i64 [0, 0, 1, 2] := Lib.tabIs_of_head (rest := []) gWays gWaysType Tryz.underlying123 Tryz.underlying3 cells_int cells4 h
  exact ⟨t.cell gWays 1 (by decide), t.cell gWays 2 (by decide), t.cell gWays 3 (by decide)⟩

/-- A type whose readings may be carried into a later world. -/
def Carried (t : TypeId) : Prop := Tryz.prog.readableRec t = true ∧ t < Tryz.prog.types.size
theorem carried {t : TypeId} (h : (Tryz.prog.readableRec t && decide (t < Tryz.prog.types.size)) = true) : Carried t := by
  simp only [Bool.and_eq_true, decide_eq_true_eq] at h; exact h
theorem carried_unit : Carried 25 := carried (by kernel_rfl)
theorem args_keep {H : Type} {enc : TypeId × Value → H} {W W' : World} {sp : Nat → Bool} (hb : Below W.heap.size W W') : ∀ (ts : List TypeId) (vs : List Value) (ds : List (DataW H)) (ps : List MemPlace), (∀ t ∈ ts, Carried t) →
    DataW.TrodAll enc Tryz.prog W 0 (fun _ => true) true ts vs ds ps → (∀ p ∈ ps, p.block < W.heap.size) → (∀ p ∈ ps, sp p.block = true) → DataW.TrodAll enc Tryz.prog W' 0 sp true ts vs ds ps
  | [], _, _, _, _, h, _, _ => by
    obtain ⟨rfl, rfl, rfl⟩ := trodAll_nil h
    exact trodAll_mk0
  | t :: ts, _, _, _, hc, h, hlt, hsp => by
    obtain ⟨v, vs, d, ds, p, q, rfl, rfl, rfl, h1, h2⟩ := trodAll_cons h
    obtain ⟨c1, c2⟩ := hc t (by simp)
    exact trodAll_cons_mk (WideElems.Trod_stays laidOut c1 c2 h1 (fun x hx => hb.same (hlt x (by simp [hx]))) (fun x hx => hsp x (by simp [hx])))
      (args_keep hb ts vs ds q (fun t ht => hc t (by simp [ht])) h2 (fun x hx => hlt x (by simp [hx])) (fun x hx => hsp x (by simp [hx])))
theorem trodAll_len {H : Type} {enc : TypeId × Value → H} {W : World} {sp : Nat → Bool} {hd : Bool} {b : Nat} : ∀ (ts : List TypeId) (vs : List Value) (ds : List (DataW H)) (ps : List MemPlace), DataW.TrodAll enc Tryz.prog W b sp hd ts vs ds ps → ds.length = ts.length
  | [], _, _, _, h => by
    obtain ⟨rfl, rfl, rfl⟩ := trodAll_nil h
    rfl
  | t :: ts, _, _, _, h => by
    obtain ⟨v, vs, d, ds, p, q, rfl, rfl, rfl, h1, h2⟩ := trodAll_cons h
    simp [trodAll_len ts vs ds q h2]

set_option maxRecDepth 100000 in
/-- A law that answered true and left old memory alone has met its row. -/
theorem law_post {H : Type} {enc : TypeId × Value → H} {f : Func} {s : ChangeSpec} {W W' : World} {args : Array Value} {ds gs : List (DataW H)} {before : List MemPlace}
    (hv : s.vars = []) (hr : f.resultTypes = #[4]) (hfn : ∀ ds : List (DataW H), ds.length = f.params.toList.length → s.fn H ds = { results := [.lit (.bool true)], args := ds }) (hts : ∀ t ∈ f.params.toList, Carried t)
    (hW : DataW.Whole enc Tryz.prog f.params.toList s.vars false W args.toList ds gs before) (hb : Below W.heap.size W W') : s.post enc Tryz.prog f false true false false W args (.bool true) W' := by
  have hlt : ∀ p ∈ before, p.block < W.heap.size := fun p hp => hW.lt p hp
  have hold : ∀ p ∈ before, (fun b => decide (b < W.heap.size)) p.block = true := fun p hp => by simpa using hlt p hp
  have hW0 := hW
  obtain ⟨p, q, hA, hV, rfl, hz, hn⟩ := hW
  rw [hv] at hV
  obtain ⟨rfl, rfl⟩ := trodVars_none hV
  have hA0 : DataW.TrodAll enc Tryz.prog W 0 (fun _ => true) true f.params.toList args.toList ds p := hA
  rw [List.append_nil] at hlt hold hz hW0
  have e1 : s.fn H (ds ++ []) = { results := [.lit (.bool true)], args := ds } := by rw [List.append_nil]; exact hfn ds (trodAll_len _ _ _ _ hA0)
  have hres : ∀ (b : Nat) (sp : Nat → Bool) (hd : Bool), DataW.TrodAll enc Tryz.prog W' b sp hd f.resultTypes.toList ((Value.bool true).resultList f.resultTypes.size) (s.fn H (ds ++ [])).results [] := by
    intro b sp hd
    rw [e1, hr]
    exact trodAll_cons_mk (shut_bool Tryz.underlying4 _) trodAll_mk0
  have hargs : ∀ sp : Nat → Bool, (∀ x ∈ p, sp x.block = true) → DataW.TrodAll enc Tryz.prog W' 0 sp true f.params.toList args.toList (s.fn H (ds ++ [])).args p := by
    intro sp hsp
    rw [e1]
    exact args_keep hb _ _ _ _ hts hA0 hlt hsp
  have hvars : ∀ sp : Nat → Bool, DataW.TrodVars enc Tryz.prog W' sp s.vars (s.fn H (ds ++ [])).vars [] := by
    intro sp
    rw [e1, hv]
    exact rfl
  refine ⟨ds, [], p, [], p, [], by simpa using hW0, hres _ _ _, hargs _ hold, hvars _, World.keptBut_mono (fun x hx => ⟨hx, by simpa using hx⟩) (hb.frame (· ∈ p)), fun _ => ?_⟩
  refine ⟨?_, _, _, ([] ++ p) ++ [], ⟨[] ++ p, [], trodAll_append (hargs _ (fun _ _ => rfl)) (hres _ _ _), hvars _, rfl, ?_, fun h => by cases h⟩, fun x hx _ => by simpa using hx⟩
  · exact ok_one hr rfl (okWide_bool_mk Tryz.underlying4 _)
  · intro b off hx
    have hin : MemPlace.cell b off ∈ p := by simpa using hx
    rw [hb.frozen (hlt _ hin)]
    exact hz b off hin

theorem bulk_part {H : Type} {d : DataW H} {l : List (DataW H)} (h : d ∈ l) : Rows.uptoBulk d ≤ Rows.uptoBulkAll l := by
  induction l with
  | nil => cases h
  | cons x r ih =>
    simp only [Rows.uptoBulkAll]
    rcases List.mem_cons.1 h with e | e
    · subst e; omega
    · have := ih e; omega
theorem bulk_bound {H : Type} {l : List (DataW H)} (hk : Rows.uptoSmall H l = true) : Rows.uptoBulkAll l ≤ 1048576 := by
  have h := of_decide_eq_true hk
  exact h

/-- The sizes that a unit of small bulk has. -/
structure Small (gs : List DGlobal) (fs : List DFunc) : Prop where
  size : szUnit ⟨gs, fs⟩ ≤ 1048576
theorem szGlobal_pos (x : DGlobal) : 1 ≤ szGlobal x := by have := szL_pos szInt x.init; unfold szGlobal; omega
theorem szFunc_pos (x : DFunc) : 1 ≤ szFunc x := by have := szL_pos szBlock x.blocks; unfold szFunc; omega
theorem szBlock_pos (x : DBlock) : 1 ≤ szBlock x := by have := szL_pos szPhi x.phis; unfold szBlock; omega
theorem szPhi_pos (x : DPhi) : 1 ≤ szPhi x := szL_pos _ _
theorem szIns_pos (x : DIns) : 1 ≤ szIns x := szL_pos _ _
theorem many_le (l : List DBlock) : manyOf l ≤ (l.map szBlock).sum := by
  unfold manyOf
  induction l with
  | nil => exact Nat.le_refl _
  | cons b l ih =>
    have h1 := szL_len szPhi_pos b.phis
    have h2 := szL_len szIns_pos b.list
    simp only [List.map_cons, List.sum_cons]
    unfold szBlock at *
    omega
theorem Small.globals {gs : List DGlobal} {fs : List DFunc} (h : Small gs fs) : gs.length ≤ 1048576 := by
  have h1 := h.size
  have h2 := szL_len szGlobal_pos gs
  unfold szUnit at h1; dsimp only at h1; omega
theorem Small.funcs {gs : List DGlobal} {fs : List DFunc} (h : Small gs fs) : fs.length ≤ 1048576 := by
  have h1 := h.size
  have h2 := szL_len szFunc_pos fs
  unfold szUnit at h1; dsimp only at h1; omega
theorem Small.func {gs : List DGlobal} {fs : List DFunc} (h : Small gs fs) {k : Nat} {f : DFunc} (hf : fs[k]? = some f) : szFunc f ≤ 1048576 := by
  have h1 := h.size
  have h2 := szL_mem (f := szFunc) (List.mem_of_getElem? hf)
  unfold szUnit at h1; dsimp only at h1; omega
theorem Small.many {gs : List DGlobal} {fs : List DFunc} (h : Small gs fs) : ∀ (k : Nat) (f : DFunc), fs[k]? = some f → manyOf f.blocks ≤ 1048576 ∧ f.blocks.length ≤ 1048576 := by
  intro k f hf
  have h1 := h.func hf
  have h2 := many_le f.blocks
  have h3 := szL_len szBlock_pos f.blocks
  unfold szFunc szL at h1
  unfold szL at h3
  omega

set_option maxRecDepth 100000 in
/-- A unit that comes as an argument. -/
theorem arg_unit {H : Type} {enc : TypeId × Value → H} {W : World} {base : Nat} {v : Value} {d : DataW H} {p : List MemPlace} (hv : Value.okWide Tryz.prog W .any base 25 v) (h : DataW.Trod enc Tryz.prog W 0 (fun _ => true) true 25 v d p) :
    ∃ ga gc fa fc gs fs, v = .agg #[.slice ga gs.length gc, .slice fa fs.length fc] ∧ SlAt (fun b => b < W.heap.size) W 3 rGlobal (.slice ga gs.length gc) gs ∧ SlAt (fun b => b < W.heap.size) W 4 rFunc (.slice fa fs.length fc) fs ∧ szUnit ⟨gs, fs⟩ ≤ Rows.uptoBulk d := by
  obtain ⟨cs, rfl, -⟩ := okWide_struct Tryz.underlying25 hv
  obtain ⟨fuel, h⟩ := h
  obtain ⟨u, ⟨g, f, e, hg, hf⟩, -, hm⟩ := rd_unit _ _ _ _ _ _ _ _ _ h
  have e' : cs.toList = [g, f] := e
  obtain ⟨ga, gc, eg, -⟩ := id hg
  obtain ⟨fa, fc, ef, -⟩ := id hf
  subst eg ef
  refine ⟨ga, gc, fa, fc, u.globals, u.funcs, ?_, hg, hf, hm⟩
  obtain ⟨l⟩ := cs
  have e2 : l = _ := e'
  rw [e2]
/-- A WORLD FOR THE WITNESS: the settled one, the table holding what its initialiser lays. -/
noncomputable def laidWorld (os : Os) : World :=
  { World.holding Tryz.prog os ⟨#[], #[], []⟩ with heap := (World.holding Tryz.prog os ⟨#[], #[], []⟩).heap.modify 0 fun
      | .cells _ t frozen => .cells #[.int .i64 0, .int .i64 0, .int .i64 1, .int .i64 2] t frozen
      | o => o }

end Go.Proofs.YtnkogppgacappaaGreatDoor

namespace Go.Proofs.YtnkogppgacappaaGreatDoor
open Go.RowKit

theorem checkF_zero {u : DUnit} (h : (checkF u).1 = 0) : checkF u = (0, 0) := by
  have h0 := h
  unfold checkF at h ⊢
  by_cases h1 : 10 < u.globals.length ∨ 10 < u.funcs.length
  · rw [if_pos h1] at h; simp at h
  rw [if_neg h1] at h ⊢
  by_cases h2 : posF (globE u.globals) u.globals.length < u.globals.length
  · rw [if_pos h2] at h; exact absurd h (posF_ne h2)
  rw [if_neg h2] at h ⊢
  by_cases h3 : posF (headsE u.globals u.funcs) u.funcs.length < u.funcs.length
  · rw [if_pos h3] at h; exact absurd h (posF_ne h3)
  rw [if_neg h3] at h ⊢
  by_cases h4 : posF (bodiesE u.funcs) u.funcs.length < u.funcs.length
  · rw [if_pos h4] at h; exact absurd h (posF_ne h4)
  rw [if_neg h4] at h ⊢
  unfold lastE at h ⊢
  by_cases h5 : idxMain u.funcs < 0
  · rw [if_pos h5] at h; simp at h
  rw [if_neg h5] at h ⊢
  by_cases h6 : 0 < (u.funcs.getD (idxMain u.funcs).toNat ⟨ByteArray.empty, 0, 0, []⟩).params
  · rw [if_pos h6] at h; simp at h
  rw [if_neg h6]

/-- A value that names a slice: its length. -/
theorem sl_len {α : Type} {r : Rp α} {S : Nat → Prop} {w : World} {sz : Nat} {v : Value} {l : List α} (h : SlAt S w sz r v l) : ∃ a c, v = .slice a l.length c := by
  obtain ⟨a, c, hv, _⟩ := h
  exact ⟨a, c, hv⟩

end Go.Proofs.YtnkogppgacappaaGreatDoor

namespace Go.Proofs.YtnkogppgacappaaGreatDoor
open Go.RowKit

/-- Between two rounds of WeighHot's first loop. -/
structure AtSt (w W3 wr : World) (H n : Nat) (r : List Nat) (k : Nat) : Prop where
  at_ : wr.rowIs H 3 n (fun b => .int .i64 ((atF r k b : Nat) : Int))
  below : Below w.heap.size w wr
  old : Below W3.heap.size W3 wr
theorem AtSt.next {w W3 wr : World} {H n : Nat} {r : List Nat} {k : Nat} (h : AtSt w W3 wr H n r k) (h1 : w.heap.size ≤ H) (h2 : W3.heap.size ≤ H) {x : Nat} (hx : ∀ y, atF r (k + 1) y = if y = x then k else atF r k y) :
    AtSt w W3 (wr.setCell ⟨H, x, none⟩ (.int .i64 k)) H n r (k + 1) := by
  refine ⟨(h.at_.set x (.int .i64 k)).congr (fun y hy => ?_), h.below.setCell (by exact h1) _, h.old.setCell (by exact h2) _⟩
  rw [hx y]
  by_cases hyb : y = x
  · rw [if_pos hyb, if_pos hyb]
  · rw [if_neg hyb, if_neg hyb]
end Go.Proofs.YtnkogppgacappaaGreatDoor

namespace Go.Proofs.YtnkogppgacappaaGreatDoor
open Go.RowKit

def rowE (fs : List DFunc) (Cs : List (List Int)) (k : Nat) : Int := if (Cs.getD k []).length = (fs.getD k noFunc).blocks.length then 0 else 9
/-- Are there as many counts as blocks? The fault that there is. -/
def fitsF (u : DUnit) (Cs : List (List Int)) : Int × Int :=
  if checkF u ≠ (0, 0) then checkF u
  else if Cs.length ≠ u.funcs.length then (9, -1)
  else if posF (rowE u.funcs Cs) Cs.length < Cs.length then (9, ((posF (rowE u.funcs Cs) Cs.length : Nat) : Int))
  else (0, 0)
def byF (f : DFunc) (C : List Int) : DFunc := turnF f (layF f.blocks (cntOf C))
def byL (fs : List DFunc) (Cs : List (List Int)) : List DFunc := (List.range fs.length).map fun k => byF (fs.getD k noFunc) (Cs.getD k [])

theorem fitsF_check {u : DUnit} {Cs : List (List Int)} (h : checkF u ≠ (0, 0)) : fitsF u Cs = checkF u := by unfold fitsF; rw [if_pos h]
theorem fitsF_size {u : DUnit} {Cs : List (List Int)} (h : checkF u = (0, 0)) (hl : Cs.length ≠ u.funcs.length) : fitsF u Cs = (9, -1) := by unfold fitsF; rw [if_neg (by simp [h]), if_pos hl]
theorem fitsF_row {u : DUnit} {Cs : List (List Int)} (h : checkF u = (0, 0)) (hl : Cs.length = u.funcs.length) {k : Nat} (hk : k < Cs.length) (h0 : ∀ j, j < k → rowE u.funcs Cs j = 0) (hk0 : rowE u.funcs Cs k ≠ 0) : fitsF u Cs = (9, ((k : Nat) : Int)) := by
  unfold fitsF
  rw [if_neg (by simp [h]), if_neg (by simp [hl]), posF_at h0 hk hk0, if_pos hk]
theorem fitsF_ok {u : DUnit} {Cs : List (List Int)} (h : checkF u = (0, 0)) (hl : Cs.length = u.funcs.length) (h0 : ∀ j, j < Cs.length → rowE u.funcs Cs j = 0) : fitsF u Cs = (0, 0) := by
  unfold fitsF
  rw [if_neg (by simp [h]), if_neg (by simp [hl]), posF_all h0, if_neg (Nat.lt_irrefl _)]
theorem rowE_zero {fs : List DFunc} {Cs : List (List Int)} {k : Nat} (h1 : k < fs.length) (h2 : k < Cs.length) : rowE fs Cs k = 0 ↔ Cs[k].length = fs[k].blocks.length := by
  unfold rowE
  rw [List.getD_eq_getElem?_getD, List.getD_eq_getElem?_getD, List.getElem?_eq_getElem h1, List.getElem?_eq_getElem h2, Option.getD_some, Option.getD_some]
  split <;> simp_all
theorem byL_len (fs : List DFunc) (Cs : List (List Int)) : (byL fs Cs).length = fs.length := by unfold byL; simp
/-- What the functions of a unit in its form keep: an order that weigh.lay gives. -/
theorem lay_perm {fs : List DFunc} {f : DFunc} (h : bodyE fs f = 0) (hn : 0 < f.blocks.length) (c : Nat → Int) : Perm (layF f.blocks c) f.blocks.length ∧ (layF f.blocks c)[0]? = some 0 ∧ OrdAt f.blocks c (layF f.blocks c) := by
  have hf := body_flow h
  have hT := targets_lt (bs := f.blocks) (fun k x hx t ht => by
    obtain ⟨hk, rfl⟩ := List.getElem?_eq_some_iff.1 hx
    exact hf.tgt k hk t (by rw [List.getD_eq_getElem?_getD, List.getElem?_eq_getElem hk]; exact ht))
  obtain ⟨hO, hl, hall⟩ := layF_once (bs := f.blocks) (c := c) hn hT
  refine ⟨⟨hl, hO.lt, fun z hz => hadB_mem.1 (hall z hz), ?_⟩, hO.head, hO⟩
  rw [List.nodup_iff_pairwise_ne, List.pairwise_iff_getElem]
  intro i j hi hj hij he
  have := hO.inj hT hi hj he
  omega

end Go.Proofs.YtnkogppgacappaaGreatDoor

namespace Go.Proofs.YtnkogppgacappaaGreatDoor
open Go.RowKit

theorem checkF_pos {u : DUnit} (h : checkF u = (0, 0)) : 0 < u.funcs.length := by
  rcases Nat.eq_zero_or_pos u.funcs.length with h0 | h0
  · exfalso
    obtain ⟨h1, h2, h3, h4, h5⟩ := checkF_ok (u := u) (by rw [h])
    unfold checkF at h
    rw [if_neg (by omega), posF_all (fun j _ => h3 j), posF_all (fun j _ => h4 j), posF_all (fun j _ => h5 j)] at h
    simp only [Nat.lt_irrefl, if_false] at h
    have h6 : u.funcs = [] := List.length_eq_zero_iff.1 h0
    rw [h6] at h
    unfold lastE idxMain at h
    simp at h
  · exact h0
/-- The facts of one function of a unit in its form. -/
theorem checkF_at {u : DUnit} (h : checkF u = (0, 0)) {k : Nat} {f : DFunc} (hf : u.funcs[k]? = some f) :
    headE (fNames u.globals u.funcs k) f = 0 ∧ bodyE u.funcs f = 0 := by
  obtain ⟨-, -, -, h2, h3⟩ := checkF_ok (u := u) (by rw [h])
  have g2 := h2 k
  have g3 := h3 k
  unfold headsE at g2
  unfold bodiesE at g3
  rw [hf] at g2 g3
  exact ⟨g2, g3⟩
theorem manyOf_mem {l : List DBlock} {x : DBlock} (h : x ∈ l) : x.phis.length + x.list.length ≤ manyOf l := by
  unfold manyOf
  induction l with
  | nil => cases h
  | cons a l ih =>
    rw [List.map_cons, List.sum_cons]
    rcases List.mem_cons.1 h with rfl | h
    · omega
    · have := ih h; omega
theorem insE_args {fs : List DFunc} {regs : Int} {x : DIns} (h : insE fs regs x = 0) : x.args.length = 0 ∨ ∃ f ∈ fs, (x.args.length : Int) = f.params := by
  unfold insE at h
  by_cases h1 : ¬ (1 ≤ x.op ∧ x.op ≤ 22)
  · rw [if_pos h1] at h; omega
  rw [if_neg h1] at h
  by_cases h2 : formBad x = true
  · rw [if_pos h2] at h; omega
  rw [if_neg h2] at h
  by_cases h3 : (shpD x.op = true ∧ ¬ (x.op = 20 ∧ x.dst = -1)) ∧ dstE regs x.dst ≠ 0
  · rw [if_pos h3] at h; omega
  rw [if_neg h3] at h
  by_cases hop : x.op = 20
  · right
    unfold firstE at h
    by_cases a1 : valE regs x.a ≠ 0
    · rw [if_pos a1] at h; exact absurd h a1
    rw [if_neg a1] at h
    by_cases a2 : valE regs x.b ≠ 0
    · rw [if_pos a2] at h; exact absurd h a2
    rw [if_neg a2] at h
    unfold callE at h
    rw [if_neg (by simpa using hop)] at h
    by_cases b1 : ¬ (0 ≤ x.fn ∧ x.fn ≤ (fs.length : Int) - 1)
    · rw [if_pos b1] at h; omega
    rw [if_neg b1] at h
    by_cases b2 : (x.args.length : Int) ≠ (fs.getD x.fn.toNat ⟨ByteArray.empty, 0, 0, []⟩).params
    · rw [if_pos b2] at h; omega
    have hk : x.fn.toNat < fs.length := by omega
    rw [List.getD_eq_getElem?_getD, List.getElem?_eq_getElem hk, Option.getD_some] at b2
    exact ⟨_, List.getElem_mem hk, by omega⟩
  · left
    unfold formBad at h2
    simp only [Bool.or_eq_true, Bool.and_eq_true, decide_eq_true_eq, not_or, not_and] at h2
    have := (h2.2 hop).2
    omega
theorem checkF_small {u : DUnit} (h : checkF u = (0, 0)) : (∀ g ∈ u.globals, g.init.length ≤ 1048576) ∧ ∀ f ∈ u.funcs, SmallF f := by
  obtain ⟨-, -, h1, -, -⟩ := checkF_ok (u := u) (by rw [h])
  have hpar : ∀ f ∈ u.funcs, f.params ≤ 6 := fun f hf => by
    obtain ⟨i, hi, rfl⟩ := List.getElem_of_mem hf
    exact (headE_ok (checkF_at h (List.getElem?_eq_getElem hi)).1).2.2.2.1
  refine ⟨fun g hg => ?_, fun f hf => ?_⟩
  · obtain ⟨i, hi, rfl⟩ := List.getElem_of_mem hg
    have g1 := h1 i
    unfold globE at g1
    rw [List.getElem?_eq_getElem hi] at g1
    have := globErr_ok g1
    omega
  · obtain ⟨i, hi, rfl⟩ := List.getElem_of_mem hf
    obtain ⟨hh, hb⟩ := checkF_at h (List.getElem?_eq_getElem hi)
    obtain ⟨-, -, -, -, -, -, -, h40, hm⟩ := headE_ok hh
    refine ⟨by omega, fun x hx => ?_⟩
    have hmx := manyOf_mem hx
    obtain ⟨j, hj, rfl⟩ := List.getElem_of_mem hx
    obtain ⟨e1, e2⟩ := bodyE_zero.1 hb
    have he := e1 j hj
    unfold endsE at he
    rw [List.getElem?_eq_getElem hj] at he
    have he' := endE_iff.1 he
    obtain ⟨hph, hin⟩ := (blockE_zero (List.getElem?_eq_getElem hj)).1 (e2 j hj)
    refine ⟨by omega, by omega, by omega, fun p hp => ?_, fun x hx => ?_⟩
    · have h3 := phiE_iff.1 (hph p hp)
      rw [aheadF_getD hj] at h3
      rw [h3.2.2.1]
      have := predsOf_len j u.funcs[i].blocks 0 (fun x hx => by
        obtain ⟨j', hj', rfl⟩ := List.getElem_of_mem hx
        have he := e1 j' hj'
        unfold endsE at he
        rw [List.getElem?_eq_getElem hj'] at he
        have := endE_iff.1 he
        omega)
      omega
    · rcases insE_args (hin x hx) with h4 | ⟨f, hf, h4⟩
      · omega
      · have := hpar f hf; omega

/-- Four cells of a row written in a row. -/
theorem row_set4 {w : World} {R o : Nat} {cur : Array Value} {T : TypeId} (u0 u1 u2 u3 : Value) (h : w.heap[R]? = some (.cells cur T (0, 0))) (ho : o + 4 ≤ cur.size) :
    ∃ cur', (((((w.setCell ⟨R, o, none⟩ u0).setCell ⟨R, o + 1, none⟩ u1).setCell ⟨R, o + 2, none⟩ u2).setCell ⟨R, o + 3, none⟩ u3).heap[R]? = some (.cells cur' T (0, 0))) ∧ cur'.size = cur.size ∧
      CellsAt ((((w.setCell ⟨R, o, none⟩ u0).setCell ⟨R, o + 1, none⟩ u1).setCell ⟨R, o + 2, none⟩ u2).setCell ⟨R, o + 3, none⟩ u3) R o [u0, u1, u2, u3] ∧
      ∀ j, (j < o ∨ o + 4 ≤ j) → ((((w.setCell ⟨R, o, none⟩ u0).setCell ⟨R, o + 1, none⟩ u1).setCell ⟨R, o + 2, none⟩ u2).setCell ⟨R, o + 3, none⟩ u3).cell? ⟨R, j, none⟩ = w.cell? ⟨R, j, none⟩ := by
  have h1 := heap_set_row (i := o) h u0
  have h2 := heap_set_row (i := o + 1) h1 u1
  have h3 := heap_set_row (i := o + 2) h2 u2
  have h4 := heap_set_row (i := o + 3) h3 u3
  refine ⟨_, h4, by simp, fun j v hj => ?_, fun j hj => ?_⟩
  · rw [cell_row h4]
    have hj6 : j < 4 := by have := (List.getElem?_eq_some_iff.1 hj).1; simpa using this
    simp only [Array.getElem?_setIfInBounds, Array.size_setIfInBounds]
    match j, hj with
    | 0, hj => cases hj; simp; omega
    | 1, hj => cases hj; simp; omega
    | 2, hj => cases hj; simp; omega
    | 3, hj => cases hj; simp; omega
    | k + 4, hj => simp at hj
  · rw [cell_row h4, cell_row h]
    simp only [Array.getElem?_setIfInBounds, Array.size_setIfInBounds]
    rw [if_neg (by omega), if_neg (by omega), if_neg (by omega), if_neg (by omega)]

/-- Between two rounds of a loop that writes a row's functions one by one. -/
structure RSt (w W6 wr : World) (R cap : Nat) (L : Nat → DFunc) (k : Nat) : Prop where
  below : Below w.heap.size w wr
  size : W6.heap.size ≤ wr.heap.size
  keep : ∀ b, b < W6.heap.size → b ≠ R → wr.heap[b]? = W6.heap[b]?
  row : ∃ cur, wr.heap[R]? = some (.cells cur 38 (0, 0)) ∧ cur.size = cap * 4
  done : ∀ (j : Nat), j < k → ∃ cs, cs.length = 4 ∧ CellsAt wr R (j * 4) cs ∧ rFunc (iv W6.heap.size wr.heap.size) wr cs (L j)
section
variable {w W6 wo wr : World} {R cap : Nat} {L : Nat → DFunc} {k : Nat}
theorem RSt.cell (h : RSt w W6 wr R cap L k) {b o : Nat} {v : Value} (hc : W6.cell? ⟨b, o, none⟩ = some v) (hb : b ≠ R) : wr.cell? ⟨b, o, none⟩ = some v := by
  rw [World.cell?_of_block (w := W6) (a := ⟨b, o, none⟩) (h.keep b (cell_lt hc) hb)]; exact hc
theorem RSt.later (h : RSt w W6 wo R cap L k) (hb : Below wo.heap.size wo wr) (hR : R < wo.heap.size) : RSt w W6 wr R cap L k := by
  refine ⟨h.below.trans (hb.mono h.below.size), Nat.le_trans h.size hb.size, fun b h1 h2 => ?_, ?_, fun j h1 => ?_⟩
  · rw [hb.block b (Nat.lt_of_lt_of_le h1 h.size), h.keep b h1 h2]
  · obtain ⟨cur, h1, h2⟩ := h.row
    exact ⟨cur, by rw [hb.block R hR]; exact h1, h2⟩
  · obtain ⟨cs, h3, h4, h5⟩ := h.done j h1
    exact ⟨cs, h3, h4.later hb, rFunc_mono.out _ _ _ _ _ _ (fun b h => ⟨h.1, Nat.lt_of_lt_of_le h.2 hb.size⟩) (Stays.below' hb) h5⟩
theorem RSt.next (h : RSt w W6 wr R cap L k) (hw : w.heap.size ≤ R) (hR : R < W6.heap.size) (hk : k < cap) (u0 u1 u2 u3 : Value)
    (hx : rFunc (iv W6.heap.size wr.heap.size) wr [u0, u1, u2, u3] (L k)) :
    RSt w W6 ((((wr.setCell ⟨R, k * 4, none⟩ u0).setCell ⟨R, k * 4 + 1, none⟩ u1).setCell ⟨R, k * 4 + 2, none⟩ u2).setCell ⟨R, k * 4 + 3, none⟩ u3) R cap L (k + 1) := by
  obtain ⟨cur, hc1, hc2⟩ := h.row
  obtain ⟨cur', r1, r2, r3, r4⟩ := row_set4 (o := k * 4) u0 u1 u2 u3 hc1 (by omega)
  have hsz : ((((wr.setCell ⟨R, k * 4, none⟩ u0).setCell ⟨R, k * 4 + 1, none⟩ u1).setCell ⟨R, k * 4 + 2, none⟩ u2).setCell ⟨R, k * 4 + 3, none⟩ u3).heap.size = wr.heap.size := by simp [World.setCell]
  have hk' : ∀ b, b ≠ R → ((((wr.setCell ⟨R, k * 4, none⟩ u0).setCell ⟨R, k * 4 + 1, none⟩ u1).setCell ⟨R, k * 4 + 2, none⟩ u2).setCell ⟨R, k * 4 + 3, none⟩ u3).heap[b]? = wr.heap[b]? := fun b hb => by
    iterate 4 rw [Below.heap_setCell _ _ _ _ (by dsimp only; exact hb)]
  have hbel : Below w.heap.size w ((((wr.setCell ⟨R, k * 4, none⟩ u0).setCell ⟨R, k * 4 + 1, none⟩ u1).setCell ⟨R, k * 4 + 2, none⟩ u2).setCell ⟨R, k * 4 + 3, none⟩ u3) :=
    (((h.below.setCell (p := ⟨R, k * 4, none⟩) hw _).setCell (p := ⟨R, k * 4 + 1, none⟩) hw _).setCell (p := ⟨R, k * 4 + 2, none⟩) hw _).setCell (p := ⟨R, k * 4 + 3, none⟩) hw _
  generalize ((((wr.setCell ⟨R, k * 4, none⟩ u0).setCell ⟨R, k * 4 + 1, none⟩ u1).setCell ⟨R, k * 4 + 2, none⟩ u2).setCell ⟨R, k * 4 + 3, none⟩ u3) = WN at *
  have hst : Stays (iv W6.heap.size wr.heap.size) wr WN := stays_at fun b hb _ => hk' b (by have := hb.1; omega)
  refine ⟨hbel, by rw [hsz]; exact h.size, fun b h1 h2 => by rw [hk' b h2, h.keep b h1 h2], ⟨cur', r1, by rw [r2, hc2]⟩, fun j h1 => ?_⟩
  rw [hsz]
  by_cases hjk : j = k
  · subst hjk
    exact ⟨_, rfl, r3, rFunc_mono.out _ _ _ _ _ _ (fun _ h => h) hst hx⟩
  · obtain ⟨cs, h3, h4, h5⟩ := h.done j (by omega)
    refine ⟨cs, h3, fun i u hu => ?_, rFunc_mono.out _ _ _ _ _ _ (fun _ h => h) hst h5⟩
    have hi : i < 4 := by rw [← h3]; exact (List.getElem?_eq_some_iff.1 hu).1
    rw [r4 _ (by omega)]
    exact h4 i u hu
theorem RSt.sl {n : Nat} (h : RSt w W6 wr R cap L n) {c : Nat} (hc : n ≤ c) (hm : c ≤ 9223372036854775807) {lo : Nat} (hw : lo ≤ R) (hR : R < W6.heap.size) {l : List DFunc} (hl : l.length = n) (hL : ∀ (j : Nat) (f : DFunc), l[j]? = some f → f = L j) : SlAt (iv lo wr.heap.size) wr 4 rFunc (.slice (some ⟨R, 0, none⟩) n c) l := by
  refine ⟨_, c, by rw [hl], by rw [hl]; exact hc, hm, fun _ => ⟨R, 0, rfl, ⟨hw, Nat.lt_of_lt_of_le hR h.size⟩, fun i x hx => ?_⟩⟩
  have hi : i < n := by rw [← hl]; exact (List.getElem?_eq_some_iff.1 hx).1
  obtain ⟨cs, h3, h4, h5⟩ := h.done i hi
  rw [← hL i x hx] at h5
  exact ⟨cs, rFunc_mono.out _ _ _ _ _ _ (fun b h => ⟨by have := h.1; omega, h.2⟩) (Stays.refl _ _) h5, h3, by rw [Nat.zero_add]; exact h4⟩
end
end Go.Proofs.YtnkogppgacappaaGreatDoor

namespace Go.Proofs.YtnkogppgacappaaGreatDoor
open Go.RowKit

def nowRow (f : DFunc) (C : List Int) : List Int := (layF f.blocks (cntOf C)).map (cntOf C)
/-- The first k rows of the counts in their new places. -/
def nowL (fs : List DFunc) (Cs : List (List Int)) (k : Nat) : List (List Int) := (List.range k).map fun k => nowRow (fs.getD k noFunc) (Cs.getD k [])

theorem nowL_len (fs : List DFunc) (Cs : List (List Int)) (k : Nat) : (nowL fs Cs k).length = k := by unfold nowL; simp
theorem nowL_getD {fs : List DFunc} {Cs : List (List Int)} {n k : Nat} (hk : k < n) : (nowL fs Cs n).getD k [] = nowRow (fs.getD k noFunc) (Cs.getD k []) := by
  unfold nowL
  rw [List.getD_eq_getElem?_getD, List.getElem?_map, List.getElem?_range hk]; rfl
theorem byL_getD {fs : List DFunc} {Cs : List (List Int)} {k : Nat} (hk : k < fs.length) : (byL fs Cs).getD k noFunc = byF (fs.getD k noFunc) (Cs.getD k []) := by
  unfold byL
  rw [List.getD_eq_getElem?_getD, List.getElem?_map, List.getElem?_range hk]; rfl
theorem fitsF_inv {u : DUnit} {Cs : List (List Int)} (h : fitsF u Cs = (0, 0)) : checkF u = (0, 0) ∧ Cs.length = u.funcs.length ∧ ∀ k, k < Cs.length → rowE u.funcs Cs k = 0 := by
  unfold fitsF at h
  by_cases h1 : checkF u ≠ (0, 0)
  · rw [if_pos h1] at h; exact absurd h h1
  rw [if_neg h1] at h
  by_cases h2 : Cs.length ≠ u.funcs.length
  · rw [if_pos h2] at h; exact absurd (congrArg Prod.fst h) (by decide)
  rw [if_neg h2] at h
  by_cases h3 : posF (rowE u.funcs Cs) Cs.length < Cs.length
  · rw [if_pos h3] at h; exact absurd (congrArg Prod.fst h) (show ¬ (9 : Int) = 0 by decide)
  exact ⟨Classical.not_not.1 h1, Classical.not_not.1 h2, posF_inv h3⟩
theorem byF_rest {fs : List DFunc} {f : DFunc} {C : List Int} (hb : bodyE fs f = 0) (hn : 0 < f.blocks.length) : byF (byF f C) (nowRow f C) = byF f C := by
  obtain ⟨hp, h0, hO⟩ := lay_perm hb hn (cntOf C)
  have hf := body_flow hb
  have e : layF (byF f C).blocks (cntOf (nowRow f C)) = List.range f.blocks.length := by
    refine layF_turn (bs := f.blocks) hf hn hp (fun i hi => ?_) hO
    show (List.map (cntOf C) _).getD i 0 = _
    rw [List.getD_eq_getElem?_getD, List.getElem?_map, List.getElem?_eq_getElem hi]; rfl
  show turnF (byF f C) _ = _
  rw [e]
  show (⟨f.name, f.params, f.regs, turnL (turnL f.blocks _) _⟩ : DFunc) = ⟨f.name, f.params, f.regs, _⟩
  rw [turnL_range (hf.turn hp)]

/-- Laid again by the same counts in their new places, all lies as it did. -/
theorem rest_plain {gs : List DGlobal} {fs : List DFunc} {Cs : List (List Int)} (h : fitsF ⟨gs, fs⟩ Cs = (0, 0)) :
    fitsF ⟨gs, byL fs Cs⟩ (nowL fs Cs fs.length) = (0, 0) ∧ byL (byL fs Cs) (nowL fs Cs fs.length) = byL fs Cs := by
  obtain ⟨h1, h2, h3⟩ := fitsF_inv h
  dsimp only at h2 h3
  have hg : ∀ k (f : DFunc), fs[k]? = some f → fs.getD k noFunc = f := fun k f hf => by rw [List.getD_eq_getElem?_getD, hf]; rfl
  have hpos : ∀ k (f : DFunc), fs[k]? = some f → bodyE fs f = 0 ∧ 0 < f.blocks.length := fun k f hf => by
    obtain ⟨hh, hb⟩ := checkF_at (u := ⟨gs, fs⟩) h1 hf
    obtain ⟨-, -, -, -, -, -, g1, -, -⟩ := headE_ok hh
    exact ⟨hb, by omega⟩
  have hck : checkF ⟨gs, byL fs Cs⟩ = (0, 0) := by
    rw [checkF_turn (fs := fs) (by rw [h1]) (byL_len fs Cs) (fun k f hf => ?_), h1]
    obtain ⟨hk, he⟩ := List.getElem?_eq_some_iff.1 hf
    obtain ⟨hb, hn⟩ := hpos k f hf
    obtain ⟨hp, h0, -⟩ := lay_perm hb hn (cntOf (Cs.getD k []))
    refine ⟨layF f.blocks (cntOf (Cs.getD k [])), ?_, hp, h0⟩
    unfold byL
    rw [List.getElem?_map, List.getElem?_range hk, Option.map_some, hg k f hf]
    rfl
  refine ⟨fitsF_ok hck (by rw [nowL_len]; exact (byL_len fs Cs).symm) (fun k hk => ?_), ?_⟩
  · rw [nowL_len] at hk
    unfold rowE
    dsimp only
    rw [nowL_getD hk, byL_getD hk]
    refine if_pos ?_
    show (nowRow _ _).length = (turnL _ _).length
    rw [turnL_len]
    unfold nowRow
    rw [List.length_map]
  · refine List.ext_getElem? fun k => ?_
    by_cases hk : k < fs.length
    · have hk2 : k < (byL fs Cs).length := by rw [byL_len]; exact hk
      have e1 : (byL (byL fs Cs) (nowL fs Cs fs.length))[k]? = some (byF ((byL fs Cs).getD k noFunc) ((nowL fs Cs fs.length).getD k [])) := by
        show ((List.range _).map _)[k]? = _
        rw [List.getElem?_map, List.getElem?_range hk2]; rfl
      have e2 : (byL fs Cs)[k]? = some (byF (fs.getD k noFunc) (Cs.getD k [])) := by
        unfold byL
        rw [List.getElem?_map, List.getElem?_range hk]; rfl
      obtain ⟨hb, hn⟩ := hpos k _ (List.getElem?_eq_getElem hk)
      rw [e1, e2, byL_getD hk, nowL_getD hk, hg k _ (List.getElem?_eq_getElem hk), byF_rest hb hn]
    · rw [List.getElem?_eq_none (by rw [byL_len, byL_len]; omega), List.getElem?_eq_none (by rw [byL_len]; omega)]

end Go.Proofs.YtnkogppgacappaaGreatDoor

namespace Go.Proofs.YtnkogppgacappaaGreatDoor
open Go.RowKit

theorem ahead_any' {S : Nat → Prop} (nm : ByteArray) (p r : Int) (ba : Option Addr) (bc : Nat) (bs : List DBlock) (n : Nat) (w : World) (hb : SlAt S w 6 rBlock (.slice ba n bc) bs) (hbn : bs.length = n) (hn : n ≤ 1048576)
    (hto : ∀ (k : Nat) (x : DBlock), bs[k]? = some x → x.fin.to.length ≤ 2 ∧ ∀ t ∈ x.fin.to, 0 ≤ t ∧ t < (bs.length : Int)) :
    Calls Tryz.prog 49 #[.agg #[.string nm, .int .i64 p, .int .i64 r, .slice ba n bc]] w fun e w' =>
      ∃ a c, e = .returned (.slice a n c) ∧ SlAt (fun b => w.heap.size ≤ b) w' 1 rRow (.slice a n c) (aheadF bs) ∧ Below w.heap.size w w' := by
  subst hbn
  refine (ahead_any nm p r ba bc bs w hb hn hto).mono ?_
  rintro e w' ⟨v, rfl, hv, hb⟩
  obtain ⟨a, c, rfl⟩ := sl_len hv
  have hl : (aheadF bs).length = bs.length := by unfold aheadF; simp
  rw [hl] at hv ⊢
  exact ⟨a, c, rfl, hv, hb⟩

theorem res_ahead {fn : Func} (hfn : fn.results = #[.tmp 4, .cell 5 27]) {tmps : Array Value} {b : Nat} {v : Value} (hv : tmps.getD 4 undef = v) (ht : tmps.getD 5 undef = .pointer (some ⟨b, 0, none⟩)) {c a : Int} {W : World}
    (h0 : W.cell? ⟨b, 0, none⟩ = some (.int .i64 c)) (h1 : W.cell? ⟨b, 1, none⟩ = some (.int .i64 a)) : (results fn tmps).run Tryz.prog W = .ok (.tuple #[v, .agg #[.int .i64 c, .int .i64 a]]) W := by
  simp only [Array.getD_eq_getD_getElem?] at ht hv
  simp [results, hfn, ht, hv, go_sem, h0, h1]

set_option maxRecDepth 100000 in
set_option maxHeartbeats 2000000 in
theorem Ahead_ok {S : Nat → Prop} (ga : Option Addr) (gc : Nat) (fa : Option Addr) (fc : Nat) (gs : List DGlobal) (fs : List DFunc) (kk : Nat) (w : World)
    (hg : SlAt S w 3 rGlobal (.slice ga gs.length gc) gs) (hf : SlAt S w 4 rFunc (.slice fa fs.length fc) fs) (hw : Ways w)
    (hgl : gs.length ≤ 1048576) (hfl : fs.length ≤ 1048576) (hsm : ∀ (k : Nat) (f : DFunc), fs[k]? = some f → manyOf f.blocks ≤ 1048576 ∧ f.blocks.length ≤ 1048576)
    (hck : checkF ⟨gs, fs⟩ = (0, 0)) (hkn : kk < fs.length) :
    Calls Tryz.prog 44 #[.agg #[.slice ga gs.length gc, .slice fa fs.length fc], .int .i64 kk] w fun e w' =>
      ∃ a c, e = .returned (.tuple #[.slice a fs[kk].blocks.length c, .agg #[.int .i64 0, .int .i64 0]]) ∧ SlAt (fun b => w.heap.size ≤ b) w' 1 rRow (.slice a fs[kk].blocks.length c) (aheadF fs[kk].blocks) ∧ Below w.heap.size w w' := by
  have Hg := hid hg
  have Hf := hid hf
  have Hw := hid hw
  have Hsm := hid hsm
  have Hck := hid hck
  clear hg hf hw hsm hck
  go_enter Tryz.func44, Tryz.ntmps44
  obtain ⟨W, hW⟩ : ∃ W, W = (w.alloc (.cells #[.slice ga gs.length gc, .slice fa fs.length fc] 25)).alloc (.cells #[.int .i64 0, .int .i64 0] 27) := ⟨_, rfl⟩
  have hbW : Below w.heap.size w W := by rw [hW]; (repeat (first | exact Below.refl _ _ | refine Below.alloc ?_ (by first | omega | (simp <;> omega)) _ | refine Below.setCell ?_ (by first | omega | (simp <;> omega)) _ | refine below_drewN ?_ _ | refine Below.drew ?_))
  have HbW := hid hbW
  have W0 : Hid (W.cell? ⟨w.heap.size, 0, none⟩ = some (.slice ga gs.length gc)) := by show _ = _; rw [hW]; simp
  have W1 : Hid (W.cell? ⟨w.heap.size, 1, none⟩ = some (.slice fa fs.length fc)) := by show _ = _; rw [hW]; simp
  have R0 : Hid (W.cell? ⟨w.heap.size + 1, 0, none⟩ = some (.int .i64 0)) := by show _ = _; rw [hW]; simp
  have R1 : Hid (W.cell? ⟨w.heap.size + 1, 1, none⟩ = some (.int .i64 0)) := by show _ = _; rw [hW]; simp
  have F0 : Hid (W.frozen? ⟨w.heap.size + 1, 0, none⟩ = false) := by show _ = _; rw [hW]; simp
  have F1 : Hid (W.frozen? ⟨w.heap.size + 1, 1, none⟩ = false) := by show _ = _; rw [hW]; simp
  have hWs : W.heap.size = w.heap.size + 2 := by rw [hW]; simp
  go_wp2_with fail
  rw [← hW]
  have hwW : Ways W := Ways.below Hw.out hbW
  refine (check_any (S := S) ga gc fa fc gs fs W (Hg.out.later rGlobal_mono hbW) (Hf.out.later rFunc_mono hbW) hwW hgl hfl Hsm.out).mono ?_
  rintro e w1 ⟨rfl, hb1⟩
  have g0 := cell_later' W0.out hb1
  have g1 := cell_later' W1.out hb1
  have g2 := cell_later' R0.out hb1
  have g3 := cell_later' R1.out hb1
  have k2 := (hb1.frozen (p := ⟨w.heap.size + 1, 0, none⟩) (by simp; omega)).trans F0.out
  have k3 := (hb1.frozen (p := ⟨w.heap.size + 1, 1, none⟩) (by simp; omega)).trans F1.out
  have z1 : w.heap.size + 1 < w1.heap.size := cell_lt g2
  have z0 : w.heap.size < w1.heap.size := cell_lt g0
  rw [Hck.out]
  have Hw1 : Hid (Below w.heap.size w w1) := HbW.out.trans (hb1.mono (by omega))
  clear hb1 hW hbW hwW
  obtain ⟨b, off, xa, xc, rfl, hcs, hxb, -, -⟩ := func_at Hf.out hkn
  obtain ⟨c0, c1, c2, c3⟩ := (hcs.later Hw1.out).get4
  obtain ⟨n1, n2, n3⟩ := checkF_func (u := ⟨gs, fs⟩) (k := kk) (f := fs[kk]) (by rw [Hck.out]) (List.getElem?_eq_getElem hkn)
  have N3 := hid n3
  have Hxb := hid hxb
  have hb9 : b < w1.heap.size := cell_lt c3
  have hwi : decide ((0 : Int) ≤ (kk : Int) ∧ (kk : Int) ≤ (fs.length : Int) - 1) = true := decide_eq_true ⟨by omega, by omega⟩
  clear hcs n3 hxb
  go_wp2_with (first
    | (go_at_call 22; ((with_reducible refine (within_any _ _ _ _).mono ?_); rintro e w' ⟨rfl, rfl⟩; rw [hwi])))
  refine (ahead_any' _ _ _ xa xc fs[kk].blocks _ _ (Hxb.out.later rBlock_mono ?_) rfl (by omega) ?_).mono ?_
  · have h := Hw1.out; (repeat (first | exact Below.refl _ _ | exact (h).mono (by first | omega | (simp <;> omega) | (have hh := (h).size; (try simp at hh); omega) | (have hh := (h).size; (try simp at hh); (try simp); omega)) | refine Below.trans ?_ ((h).mono (by first | omega | (simp <;> omega) | (have hh := (h).size; (try simp at hh); omega) | (have hh := (h).size; (try simp at hh); (try simp); omega))) | refine Below.alloc ?_ (by first | omega | (simp <;> omega) | (have hh := (h).size; (try simp at hh); omega) | (have hh := (h).size; (try simp at hh); (try simp); omega)) _ | refine Below.setCell ?_ (by first | omega | (simp <;> omega) | (have hh := (h).size; (try simp at hh); omega) | (have hh := (h).size; (try simp at hh); (try simp); omega)) _ | refine below_drewN ?_ _ | refine Below.drew ?_))
  · intro i x hx
    have h := endE_ok (N3.out i x hx)
    refine ⟨by omega, fun t ht => ?_⟩
    have := h.2.2.2.1 t ht
    omega
  · rintro e w2 ⟨a, c, rfl, hv, hb2⟩
    have hq2 : Below w1.heap.size w1 w2 := by (repeat (first | exact Below.refl _ _ | exact (hb2).mono (by first | omega | (simp <;> omega) | (have hh := (hb2).size; (try simp at hh); omega) | (have hh := (hb2).size; (try simp at hh); (try simp); omega)) | refine Below.trans ?_ ((hb2).mono (by first | omega | (simp <;> omega) | (have hh := (hb2).size; (try simp at hh); omega) | (have hh := (hb2).size; (try simp at hh); (try simp); omega))) | refine Below.alloc ?_ (by first | omega | (simp <;> omega) | (have hh := (hb2).size; (try simp at hh); omega) | (have hh := (hb2).size; (try simp at hh); (try simp); omega)) _ | refine Below.setCell ?_ (by first | omega | (simp <;> omega) | (have hh := (hb2).size; (try simp at hh); omega) | (have hh := (hb2).size; (try simp at hh); (try simp); omega)) _ | refine below_drewN ?_ _ | refine Below.drew ?_))
    have g4 := cell_later' g2 hq2
    have g5 := cell_later' g3 hq2
    have k4 := (hq2.frozen (p := ⟨w.heap.size + 1, 0, none⟩) z1).trans k2
    have k5 := (hq2.frozen (p := ⟨w.heap.size + 1, 1, none⟩) z1).trans k3
    have Hv := hid hv
    have Hq2 := hid hq2
    clear hv hq2 hb2
    go_wp2_with fail
    have q := set_two (u := .int .i64 0) (v := .int .i64 0) g4 g5
    refine bodyPost_ret (res_ahead rfl rfl rfl (c := 0) (a := 0) q.1 q.2) rfl ⟨_, _, rfl, ?_, ?_⟩
    · refine Hv.out.mono rRow_mono (fun b hb => ?_) ((stays_set _ ?_).trans (stays_set _ ?_))
      · simp at hb; omega
      · intro b hb; simp at hb; simp; omega
      · intro b hb; simp at hb; simp; omega
    · have h := Hw1.out; have h2 := Hq2.out; (repeat (first | exact Below.refl _ _ | exact (h2).mono (by first | omega | (simp <;> omega) | (have hh := (h2).size; (try simp at hh); omega) | (have hh := (h2).size; (try simp at hh); (try simp); omega) | (have hh := (h).size; (try simp at hh); omega) | (have hh := (h).size; (try simp at hh); (try simp); omega)) | refine Below.trans ?_ ((h2).mono (by first | omega | (simp <;> omega) | (have hh := (h2).size; (try simp at hh); omega) | (have hh := (h2).size; (try simp at hh); (try simp); omega) | (have hh := (h).size; (try simp at hh); omega) | (have hh := (h).size; (try simp at hh); (try simp); omega))) | exact (h).mono (by first | omega | (simp <;> omega) | (have hh := (h2).size; (try simp at hh); omega) | (have hh := (h2).size; (try simp at hh); (try simp); omega) | (have hh := (h).size; (try simp at hh); omega) | (have hh := (h).size; (try simp at hh); (try simp); omega)) | refine Below.trans ?_ ((h).mono (by first | omega | (simp <;> omega) | (have hh := (h2).size; (try simp at hh); omega) | (have hh := (h2).size; (try simp at hh); (try simp); omega) | (have hh := (h).size; (try simp at hh); omega) | (have hh := (h).size; (try simp at hh); (try simp); omega))) | refine Below.alloc ?_ (by first | omega | (simp <;> omega) | (have hh := (h2).size; (try simp at hh); omega) | (have hh := (h2).size; (try simp at hh); (try simp); omega) | (have hh := (h).size; (try simp at hh); omega) | (have hh := (h).size; (try simp at hh); (try simp); omega)) _ | refine Below.setCell ?_ (by first | omega | (simp <;> omega) | (have hh := (h2).size; (try simp at hh); omega) | (have hh := (h2).size; (try simp at hh); (try simp); omega) | (have hh := (h).size; (try simp at hh); omega) | (have hh := (h).size; (try simp at hh); (try simp); omega)) _ | refine below_drewN ?_ _ | refine Below.drew ?_))

end Go.Proofs.YtnkogppgacappaaGreatDoor

namespace Go.Proofs.YtnkogppgacappaaGreatDoor
open Go.RowKit

theorem rows_at {S : Nat → Prop} {w : World} {a : Option Addr} {n c : Nat} {l : List (List Int)} (h : SlAt S w 1 rRow (.slice a n c) l) {t : Nat} (ht : t < l.length) : ∃ b off ra rc, a = some ⟨b, off, none⟩ ∧ w.cell? ⟨b, off + t, none⟩ = some (.slice ra l[t].length rc) ∧ SlAt S w 1 rInt (.slice ra l[t].length rc) l[t] := by
  obtain ⟨b, off, cs, ha, -, ⟨v, rfl, hv⟩, -, hcs⟩ := h.get ht
  have d := hcs.get1
  rw [Nat.mul_one] at d
  obtain ⟨ra, rc, rfl, -⟩ := hv.val
  exact ⟨b, off, ra, rc, ha, d, hv⟩


end Go.Proofs.YtnkogppgacappaaGreatDoor
