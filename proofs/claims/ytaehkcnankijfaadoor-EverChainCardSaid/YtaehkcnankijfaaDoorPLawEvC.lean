/- EverChain: the law's row and card: the law answers true for every input. -/
import Derived.Test.YtaehkcnankijfaaDoorPChain
import Derived.Test.YtaehkcnankijfaaDoorPHotW
import Derived.JoinedOf
namespace Go.Proofs.YtaehkcnankijfaaDoor
open Go.RowKit Go.ChangeShapes Go.WideShapes Go.ChangeAt Go.Deep

theorem carried_int : Carried 3 := carried (by kernel_rfl)
theorem carried_bool : Carried 4 := carried (by kernel_rfl)

set_option maxRecDepth 100000 in
theorem everChain_contract (H : Type) (enc : TypeId × Value → H) (W : World) (base : Nat) (args : Array Value) (ds gs : List (DataW H)) (before : List MemPlace)
    (hval : ∀ (j : Nat) t v, Tryd.f14.params[j]? = some t → args[j]? = some v → Value.okWide Tryd.prog W .any base t v)
    (hW : DataW.Whole enc Tryd.prog Tryd.f14.params.toList Rows.everChainSpec.vars false W args.toList ds gs before) (hL : laidMetH Tryd.prog Rows.everChainRow.laid W) :
    Calls Tryd.prog 14 args W fun e W' => ∃ v, e = .returned v ∧ Rows.everChainSpec.post enc Tryd.prog Tryd.f14 false true false false W args v W' := by
  have hW' := hW
  obtain ⟨p, q, hA0, hV, rfl, hfz, hnd⟩ := hW
  have hA : DataW.TrodAll enc Tryd.prog W 0 (fun _ => true) true Tryd.f14.params.toList args.toList ds p := hA0
  have hpar : Tryd.f14.params = #[3, 3, 4] := Tryd.params14
  have hts : ∀ t ∈ Tryd.f14.params.toList, Carried t := by
    intro t ht
    rw [hpar] at ht
    simp only [List.mem_cons, List.not_mem_nil, or_false] at ht
    rcases ht with rfl | rfl | rfl
    · exact carried_int
    · exact carried_int
    · exact carried_bool
  rw [hpar] at hA hval
  obtain ⟨v0, vs0, d0, ds0, p0, q0, hargs, rfl, rfl, h0, r0⟩ := trodAll_cons hA
  obtain ⟨v1, vs1, d1, ds1, p1, q1, rfl, rfl, rfl, h1, r1⟩ := trodAll_cons r0
  obtain ⟨v2, vs2, d2, ds2, p2, q2, rfl, rfl, rfl, h2, r2⟩ := trodAll_cons r1
  obtain ⟨rfl, rfl, rfl⟩ := trodAll_nil r2
  obtain rfl : args = #[v0, v1, v2] := by cases args; simp_all
  obtain ⟨rfl, rfl⟩ := trodVars_none hV
  have hways : Ways W := ways_of hL
  obtain ⟨k0, rfl, hd0, -, wk0⟩ := open_int Tryd.underlying3 (hval 0 _ v0 rfl rfl) h0
  have bk0 := bounds_i64 wk0
  obtain ⟨k1, rfl, hd1, -, wk1⟩ := open_int Tryd.underlying3 (hval 1 _ v1 rfl rfl) h1
  have bk1 := bounds_i64 wk1
  obtain ⟨b2, rfl, hd2, -⟩ := open_bool Tryd.underlying4 (hval 2 _ v2 rfl rfl) h2
  refine (everChain_any W hways k0 bk0.1 bk0.2 k1 bk1.1 bk1.2 b2).mono fun e W' ⟨he, hb⟩ => ?_
  subst he
  exact ⟨_, rfl, law_post rfl rfl (fun ds h => by rw [hpar] at h; obtain ⟨e0, e1, e2, rfl⟩ := list3 h; rfl) hts hW' hb⟩

theorem everChain_laidMet (os : Os) : laidMet Tryd.prog Rows.everChainRow.laid ((laidWorld os).forCall (fun _ _ => 0) ⟨#[], #[Value.int .i64 0, Value.int .i64 0, Value.bool false], []⟩).memory :=
  laidMet_of_run' 8 (by kernel_rfl) (by kernel_rfl)
theorem everChain_reads (os : Os) {H : Type} (enc : TypeId × Value → H) : ∃ places, DataW.whole enc Tryd.prog ((laidWorld os).forCall (fun _ _ => 0) ⟨#[], #[Value.int .i64 0, Value.int .i64 0, Value.bool false], []⟩).memory Tryd.f14.params.toList Rows.everChainSpec.vars false (#[Value.int .i64 0, Value.int .i64 0, Value.bool false] : Array Value).toList 8 = some ([.lit (.int .i64 0), .lit (.int .i64 0), .lit (.bool false)], [], places) :=
  ⟨[], by kernel_rfl⟩
set_option maxRecDepth 100000 in
theorem everChain_lifted (os : Os) (started : os.Started) (H : Type) (enc : TypeId × Value → H) (F : Stop.Interp) :
    ReturnsInHanded {} Tryd.checked os 14 .any ((OpenSpec.ofChange Rows.everChainSpec).preRow enc Tryd.prog Tryd.f14 Rows.everChainRow.domain false Rows.everChainRow.laid) (((OpenSpec.ofChange Rows.everChainSpec).at F).post enc Tryd.prog Tryd.f14 false true false false) := by
  obtain ⟨places, hx⟩ := everChain_reads os enc
  refine returnsInHanded_of_row (C := Tryd.checked) (s := OpenSpec.ofChange Rows.everChainSpec) own started (by kernel_rfl) Tryd.func14
    (witness_row_at (enc := enc) (C := Tryd.checked) false (laidWorld os) #[Value.int .i64 0, Value.int .i64 0, Value.bool false] rfl (by kernel_rfl) (by kernel_rfl) (by kernel_rfl)
      (OpenSpec.preRow_of_cond 8 hx (by kernel_rfl) (fun k hk => by cases hk) (by kernel_rfl) (everChain_laidMet os))) ?_
  intro W base args ds gs before hval hW _ hcond _ hL _ _
  exact everChain_contract H enc W base args ds gs before hval hW hL
theorem everChain_said : Rows.EverChainSaid :=
  OpenClaim.holds_of_wide 14 Tryd.f14 rfl rfl rfl rfl rfl rfl rfl ⟨rfl, rfl, rfl, rfl, rfl⟩ rfl rfl rfl rfl rfl (by kernel_rfl) Tryd.func14 (by kernel_rfl)
    (of_decide_eq_true (by kernel_rfl)) (by unfold Func.isWrapper; first | (rw [if_pos (by decide +kernel)]; kernel_rfl) | (rw [if_neg (by decide +kernel)]; exact ⟨rfl, rfl⟩))
    (fun os started H enc _ => by rw [OpenClaim.pre_eq_preRow]; exact everChain_lifted os started H enc (fun _ _ _ => 0))
theorem everChain_plain (f : FuncId) (fn : Func) (hf : Tryd.pinned.checked.prog.funcNamed "turnery/turnerylaw6.EverChain" = some f) (hfn : Tryd.pinned.checked.prog.funcs[f]? = some fn) :
    true = Tryd.pinned.checked.prog.looks [] ∧ ∀ (j : Nat) t, fn.params[j]? = some t → Tryd.pinned.checked.prog.wantsStandIn t = false := by
  obtain rfl : f = 14 := Option.some.inj ((show Tryd.prog.funcNamed "turnery/turnerylaw6.EverChain" = some 14 by kernel_rfl).symm.trans hf) |>.symm
  obtain rfl : fn = Tryd.f14 := (Option.some.inj (Tryd.func14.symm.trans hfn)).symm
  refine ⟨by kernel_rfl, fun j t ht => ?_⟩
  have hpar : Tryd.f14.params = #[3, 3, 4] := Tryd.params14
  rw [hpar] at ht
  have hm := Array.mem_of_getElem? ht
  simp only [List.mem_toArray, List.mem_cons, List.not_mem_nil, or_false] at hm
  rcases hm with rfl | rfl | rfl
  · exact (show Tryd.prog.wantsStandIn 3 = false by kernel_rfl)
  · exact (show Tryd.prog.wantsStandIn 3 = false by kernel_rfl)
  · exact (show Tryd.prog.wantsStandIn 4 = false by kernel_rfl)

/-- THE CARD of EverChain. -/
theorem everChain_holds : Rows.EverChainCardSaid :=
  Claim7.holds_tied_plain_at .later [] _ _ _ _ everChain_said (fun _ h => by cases h) (by kernel_rfl) (fun _ h => by cases h) everChain_row_tie rfl ⟨rfl, rfl⟩ (by kernel_rfl) rfl everChain_plain (by kernel_rfl)

end Go.Proofs.YtaehkcnankijfaaDoor
