/- UnrollOther: the law's row and card: where what it reads is of bulk at most 1048576, the law answers true for every input. -/
import Derived.Test.YtaehkcnankijfaaDoorPUnrSay
namespace Go.Proofs.YtaehkcnankijfaaDoor
open Go.RowKit Go.ChangeShapes Go.WideShapes Go.ChangeAt Go.Deep

set_option maxRecDepth 100000 in
theorem unrollOther_contract (H : Type) (enc : TypeId × Value → H) (W : World) (base : Nat) (args : Array Value) (ds gs : List (DataW H)) (before : List MemPlace)
    (hval : ∀ (j : Nat) t v, Tryd.f12.params[j]? = some t → args[j]? = some v → Value.okWide Tryd.prog W .any base t v)
    (hW : DataW.Whole enc Tryd.prog Tryd.f12.params.toList Rows.unrollOtherSpec.vars false W args.toList ds gs before) (hk : Rows.uptoSmall H (ds ++ gs) = true) (hL : laidMetH Tryd.prog Rows.unrollOtherRow.laid W) :
    Calls Tryd.prog 12 args W fun e W' => ∃ v, e = .returned v ∧ Rows.unrollOtherSpec.post enc Tryd.prog Tryd.f12 false true false false W args v W' := by
  have hW' := hW
  obtain ⟨p, q, hA0, hV, rfl, hfz, hnd⟩ := hW
  have hA : DataW.TrodAll enc Tryd.prog W 0 (fun _ => true) true Tryd.f12.params.toList args.toList ds p := hA0
  have hpar : Tryd.f12.params = #[25, 3, 3] := Tryd.params12
  have hts : ∀ t ∈ Tryd.f12.params.toList, Carried t := by
    intro t ht
    rw [hpar] at ht
    simp only [List.mem_cons, List.not_mem_nil, or_false] at ht
    rcases ht with rfl | rfl | rfl
    · exact carried_unit
    · exact carried_int
    · exact carried_int
  rw [hpar] at hA hval
  obtain ⟨v0, vs0, d0, ds0, p0, q0, hargs, rfl, rfl, h0, r0⟩ := trodAll_cons hA
  obtain ⟨v1, vs1, d1, ds1, p1, q1, rfl, rfl, rfl, h1, r1⟩ := trodAll_cons r0
  obtain ⟨v2, vs2, d2, ds2, p2, q2, rfl, rfl, rfl, h2, r2⟩ := trodAll_cons r1
  obtain ⟨rfl, rfl, rfl⟩ := trodAll_nil r2
  obtain rfl : args = #[v0, v1, v2] := by cases args; simp_all
  obtain ⟨rfl, rfl⟩ := trodVars_none hV
  have hbulk := bulk_bound hk
  rw [List.append_nil] at hbulk
  have hways : Ways W := ways_of hL
  have m0 : Rows.uptoBulk d0 ≤ 1048576 := Nat.le_trans (bulk_part (by simp)) hbulk
  obtain ⟨ga, gc, fa, fc, gs, fs, rfl, hg, hf, hu⟩ := arg_unit (hval 0 _ v0 rfl rfl) h0
  have m1 : Rows.uptoBulk d1 ≤ 1048576 := Nat.le_trans (bulk_part (by simp)) hbulk
  obtain ⟨k0, rfl, hd0, -, wk0⟩ := open_int Tryd.underlying3 (hval 1 _ v1 rfl rfl) h1
  have bk0 := bounds_i64 wk0
  have m2 : Rows.uptoBulk d2 ≤ 1048576 := Nat.le_trans (bulk_part (by simp)) hbulk
  obtain ⟨k1, rfl, hd1, -, wk1⟩ := open_int Tryd.underlying3 (hval 2 _ v2 rfl rfl) h2
  have bk1 := bounds_i64 wk1
  refine (unrollOther_any W hways ga gc fa fc gs fs hg hf ⟨by omega⟩ k0 bk0.1 bk0.2 k1 bk1.1 bk1.2).mono fun e W' ⟨he, hb⟩ => ?_
  subst he
  exact ⟨_, rfl, law_post rfl rfl (fun ds h => by rw [hpar] at h; obtain ⟨e0, e1, e2, rfl⟩ := list3 h; rfl) hts hW' hb⟩

theorem unrollOther_laidMet (os : Os) : laidMet Tryd.prog Rows.unrollOtherRow.laid ((laidWorld os).forCall (fun _ _ => 0) ⟨#[], #[Value.agg #[.slice none 0 0, .slice none 0 0], Value.int .i64 0, Value.int .i64 0], []⟩).memory :=
  laidMet_of_run' 8 (by kernel_rfl) (by kernel_rfl)
theorem unrollOther_reads (os : Os) {H : Type} (enc : TypeId × Value → H) : ∃ places, DataW.whole enc Tryd.prog ((laidWorld os).forCall (fun _ _ => 0) ⟨#[], #[Value.agg #[.slice none 0 0, .slice none 0 0], Value.int .i64 0, Value.int .i64 0], []⟩).memory Tryd.f12.params.toList Rows.unrollOtherSpec.vars false (#[Value.agg #[.slice none 0 0, .slice none 0 0], Value.int .i64 0, Value.int .i64 0] : Array Value).toList 8 = some ([.agg [.nil, .nil], .lit (.int .i64 0), .lit (.int .i64 0)], [], places) :=
  ⟨[], by kernel_rfl⟩
set_option maxRecDepth 100000 in
theorem unrollOther_lifted (os : Os) (started : os.Started) (H : Type) (enc : TypeId × Value → H) (F : Stop.Interp) :
    ReturnsInHanded {} Tryd.checked os 12 .any ((Rows.OpenSpec.upto Rows.unrollOtherSpec).preRow enc Tryd.prog Tryd.f12 Rows.unrollOtherUptoRow.domain false Rows.unrollOtherUptoRow.laid) (((Rows.OpenSpec.upto Rows.unrollOtherSpec).at F).post enc Tryd.prog Tryd.f12 false true false false) := by
  obtain ⟨places, hx⟩ := unrollOther_reads os enc
  refine returnsInHanded_of_row (C := Tryd.checked) (s := Rows.OpenSpec.upto Rows.unrollOtherSpec) own started (by kernel_rfl) Tryd.func12
    (witness_row_at (enc := enc) (C := Tryd.checked) false (laidWorld os) #[Value.agg #[.slice none 0 0, .slice none 0 0], Value.int .i64 0, Value.int .i64 0] rfl (by kernel_rfl) (by kernel_rfl) (by kernel_rfl)
      (OpenSpec.preRow_of_cond 8 hx (by kernel_rfl) (fun k hk => by cases hk; kernel_rfl) (by kernel_rfl) (unrollOther_laidMet os))) ?_
  intro W base args ds gs before hval hW _ hcond _ hL _ _
  exact unrollOther_contract H enc W base args ds gs before hval hW (hcond _ rfl) hL
theorem unrollOther_saidUpto : Rows.UnrollOtherUptoSaid :=
  OpenClaim.holds_of_cond 12 Tryd.f12 rfl rfl rfl rfl rfl rfl rfl ⟨rfl, rfl, rfl, rfl, rfl⟩ rfl rfl rfl rfl rfl (by kernel_rfl) Tryd.func12 (by kernel_rfl)
    (of_decide_eq_true (by kernel_rfl)) (by unfold Func.isWrapper; first | (rw [if_pos (by decide +kernel)]; kernel_rfl) | (rw [if_neg (by decide +kernel)]; exact ⟨rfl, rfl⟩))
    (fun os started H enc _ F => by rw [OpenClaim.pre_eq_preRow]; exact unrollOther_lifted os started H enc F)
theorem unrollOther_plain (f : FuncId) (fn : Func) (hf : Tryd.pinned.checked.prog.funcNamed "turnery/turnerylaw6.UnrollOther" = some f) (hfn : Tryd.pinned.checked.prog.funcs[f]? = some fn) :
    true = Tryd.pinned.checked.prog.looks [] ∧ ∀ (j : Nat) t, fn.params[j]? = some t → Tryd.pinned.checked.prog.wantsStandIn t = false := by
  obtain rfl : f = 12 := Option.some.inj ((show Tryd.prog.funcNamed "turnery/turnerylaw6.UnrollOther" = some 12 by kernel_rfl).symm.trans hf) |>.symm
  obtain rfl : fn = Tryd.f12 := (Option.some.inj (Tryd.func12.symm.trans hfn)).symm
  refine ⟨by kernel_rfl, fun j t ht => ?_⟩
  have hpar : Tryd.f12.params = #[25, 3, 3] := Tryd.params12
  rw [hpar] at ht
  have hm := Array.mem_of_getElem? ht
  simp only [List.mem_toArray, List.mem_cons, List.not_mem_nil, or_false] at hm
  rcases hm with rfl | rfl | rfl
  · exact (show Tryd.prog.wantsStandIn 25 = false by kernel_rfl)
  · exact (show Tryd.prog.wantsStandIn 3 = false by kernel_rfl)
  · exact (show Tryd.prog.wantsStandIn 3 = false by kernel_rfl)

/-- THE CARD of UnrollOther, where what it reads is of bulk at most 1048576. -/
theorem unrollOther_holds : Rows.UnrollOtherUptoCardSaid :=
  Claim7.holds_tied_plain_at .later [] _ _ _ _ unrollOther_saidUpto (fun _ h => by cases h) (by kernel_rfl) (fun _ h => by cases h) unrollOtherUpto_row_tie rfl ⟨rfl, rfl⟩ (by kernel_rfl) rfl unrollOther_plain (by kernel_rfl)

end Go.Proofs.YtaehkcnankijfaaDoor
