/- StillOfSays: the law's walk, and its row and card: where what it reads is of bulk at most 1048576, the law answers true for every input. -/
import Derived.Test.YtaehkcnankijfaaDoorStillOf
import Derived.Test.YtaehkcnankijfaaDoorStillR
import Derived.Test.YtaehkcnankijfaaDoorFrame
namespace Go.Proofs.YtaehkcnankijfaaDoor
open Go.RowKit

set_option maxRecDepth 100000 in
set_option maxHeartbeats 4000000 in
theorem stillOfSays_any (w : World) (hw : Ways w) (ga : Option Addr) (gc : Nat) (fa : Option Addr) (fc : Nat) (gs : List DGlobal) (fs : List DFunc) (hg : SlAt (fun b => b < w.heap.size) w 3 rGlobal (.slice ga gs.length gc) gs) (hf : SlAt (fun b => b < w.heap.size) w 4 rFunc (.slice fa fs.length fc) fs)
    (hsm : Small gs fs) :
    Calls Tryd.prog 6 #[.agg #[.slice ga gs.length gc, .slice fa fs.length fc]] w fun e w' => e = .returned (.bool true) ∧ Below w.heap.size w w' := by
  have hgl := hsm.globals
  have hfl := hsm.funcs
  have Hsm := hid hsm.many
  have Hg := hid hg
  have Hf := hid hf
  have Hw := hid hw
  clear hg hf hw hsm
  go_enter Tryd.func6, Tryd.ntmps6
  obtain ⟨W, hW⟩ : ∃ W, W = (w.alloc (.cells #[.slice ga gs.length gc, .slice fa fs.length fc] 25)) := ⟨_, rfl⟩
  have hbW : Below w.heap.size w W := by rw [hW]; (repeat (first | exact Below.refl _ _ | refine Below.alloc ?_ (by first | omega | (simp <;> omega)) _ | refine Below.setCell ?_ (by first | omega | (simp <;> omega)) _ | refine below_drewN ?_ _ | refine Below.drew ?_))
  have HbW := hid hbW
  have W0 : Hid (W.cell? ⟨w.heap.size, 0, none⟩ = some (.slice ga gs.length gc)) := by show _ = _; rw [hW]; simp
  have W1 : Hid (W.cell? ⟨w.heap.size, 1, none⟩ = some (.slice fa fs.length fc)) := by show _ = _; rw [hW]; simp
  have hWs : W.heap.size = w.heap.size + 1 := by rw [hW]; simp
  have g0 := W0.out
  have g1 := W1.out
  go_wp2_with fail
  rw [← hW]
  have hwW : Ways W := Ways.below Hw.out hbW
  refine (stillOf_any (S := fun b => b < w.heap.size) ga gc fa fc gs fs W (Hg.out.later rGlobal_mono hbW) (Hf.out.later rFunc_mono hbW) hwW (fun b hb => by omega) hgl hfl Hsm.out).mono ?_
  rintro e w1 ⟨a1, e1, rfl, hv1, hb1⟩
  obtain ⟨L1, c1, d1, hr1⟩ : ∃ L1 c1 d1, ofS ⟨gs, fs⟩ = (L1, c1, d1) := ⟨_, _, _, rfl⟩
  rw [hr1] at hv1 ⊢
  have Hr1 := hid hr1
  have Hv1 := hid hv1
  have Hw1 : Hid (Below w.heap.size w w1) := hbW.trans (hb1.mono (by omega))
  have z1 : w.heap.size < w1.heap.size := by have := hb1.size; omega
  have g0' := cell_later' g0 hb1
  have g1' := cell_later' g1 hb1
  clear hr1 hv1 hb1 hbW hwW hW g0 g1
  simp only []
  go_wp2_with fail
  obtain ⟨W2, hW2⟩ : ∃ W2, W2 = w1.alloc (.cells #[.int .i64 c1, .int .i64 d1] 28) := ⟨_, rfl⟩
  rw [← hW2]
  have hb2 : Below w.heap.size w W2 := by rw [hW2]; have h := Hw1.out; (repeat (first | exact Below.refl _ _ | exact (h).mono (by first | omega | (simp <;> omega) | (have hh := (h).size; (try simp at hh); omega) | (have hh := (h).size; (try simp at hh); (try simp); omega)) | refine Below.trans ?_ ((h).mono (by first | omega | (simp <;> omega) | (have hh := (h).size; (try simp at hh); omega) | (have hh := (h).size; (try simp at hh); (try simp); omega))) | refine Below.alloc ?_ (by first | omega | (simp <;> omega) | (have hh := (h).size; (try simp at hh); omega) | (have hh := (h).size; (try simp at hh); (try simp); omega)) _ | refine Below.setCell ?_ (by first | omega | (simp <;> omega) | (have hh := (h).size; (try simp at hh); omega) | (have hh := (h).size; (try simp at hh); (try simp); omega)) _ | refine below_drewN ?_ _ | refine Below.drew ?_))
  have q0 : W2.cell? ⟨w.heap.size, 0, none⟩ = some (.slice ga gs.length gc) := by rw [hW2, World.cell?_alloc_past _ _ _ z1]; exact g0'
  have q1 : W2.cell? ⟨w.heap.size, 1, none⟩ = some (.slice fa fs.length fc) := by rw [hW2, World.cell?_alloc_past _ _ _ z1]; exact g1'
  have q2 : W2.cell? ⟨w1.heap.size, 0, none⟩ = some (.int .i64 c1) := by rw [hW2]; simp
  have q3 : W2.cell? ⟨w1.heap.size, 1, none⟩ = some (.int .i64 d1) := by rw [hW2]; simp
  have hV2 : SlAt (fun b => W.heap.size ≤ b) W2 1 rBool (.slice a1 L1.length e1) L1 := Hv1.out.later rBool_mono (by rw [hW2]; (repeat (first | exact Below.refl _ _ | refine Below.alloc ?_ (by first | omega | (simp <;> omega)) _ | refine Below.setCell ?_ (by first | omega | (simp <;> omega)) _ | refine below_drewN ?_ _ | refine Below.drew ?_)))
  have hz2 : W2.heap.size = w1.heap.size + 1 := by rw [hW2]; simp
  refine (check_any ga gc fa fc gs fs W2 (Hg.out.later rGlobal_mono hb2) (Hf.out.later rFunc_mono hb2) (Ways.below Hw.out hb2) hgl hfl Hsm.out).mono ?_
  rintro e w3 ⟨rfl, hb3⟩
  have Hw3 : Hid (Below w.heap.size w w3) := hb2.trans (hb3.mono (by omega))
  have r0 := cell_later' q0 hb3
  have r1 := cell_later' q1 hb3
  have r2 := cell_later' q2 hb3
  have r3 := cell_later' q3 hb3
  have z3 : w.heap.size < w3.heap.size := cell_lt r0
  have z4 : w1.heap.size < w3.heap.size := cell_lt r2
  have HV3 := hid (hV2.later rBool_mono hb3)
  obtain ⟨c, hc⟩ : ∃ c, c = (checkF ⟨gs, fs⟩).1 := ⟨_, rfl⟩
  obtain ⟨d, hd⟩ : ∃ d, d = (checkF ⟨gs, fs⟩).2 := ⟨_, rfl⟩
  have Hcd : Hid (checkF ⟨gs, fs⟩ = (c, d)) := by show _ = _; rw [hc, hd]
  rw [← hc, ← hd]
  clear hb3 hb2 q0 q1 q2 q3 hV2 hW2 g0' g1' Hv1 hc hd hz2
  by_cases hc0 : c = 0
  · subst hc0
    have hd0 : d = 0 := by
      have h := checkF_zero (u := ⟨gs, fs⟩) (by rw [Hcd.out])
      rw [Hcd.out] at h
      exact congrArg Prod.snd h
    subst hd0
    have h1 : ofS ⟨gs, fs⟩ = (stillF (wordsL gs) (insU fs), 0, 0) := by
      unfold ofS
      rw [Hcd.out, if_neg (by simp)]
    rw [Hr1.out] at h1
    obtain ⟨hL, rfl, rfl⟩ : L1 = stillF (wordsL gs) (insU fs) ∧ c1 = 0 ∧ d1 = 0 := by simpa using h1
    have HL := hid hL
    obtain ⟨h10, hsz, hup, hl200⟩ := checkF_globs (u := ⟨gs, fs⟩) (by rw [Hcd.out])
    clear h1 hL
    go_wp2_with fail
    obtain ⟨W4, hW4⟩ : ∃ W4, W4 = w3.alloc (.cells #[.int .i64 0, .int .i64 0] 28) := ⟨_, rfl⟩
    rw [← hW4]
    have hb4 : Below w3.heap.size w3 W4 := by rw [hW4]; (repeat (first | exact Below.refl _ _ | refine Below.alloc ?_ (by first | omega | (simp <;> omega)) _ | refine Below.setCell ?_ (by first | omega | (simp <;> omega)) _ | refine below_drewN ?_ _ | refine Below.drew ?_))
    have Hw4 : Hid (Below w.heap.size w W4) := Hw3.out.trans (hb4.mono Hw3.out.size)
    have HV4 := hid (HV3.out.later rBool_mono hb4)
    clear hW4 hb4 HV3
    refine (refStillOf_any (S := fun b => b < w.heap.size) ga fa gc fc gs fs W4 (Hg.out.later rGlobal_mono Hw4.out) (Hf.out.later rFunc_mono Hw4.out) h10 (fun g hg => ⟨(hsz g hg).1, (hsz g hg).2.1⟩) _ hup hl200 hfl (fun f hf => by
        obtain ⟨k, hk, rfl⟩ := List.getElem_of_mem hf
        obtain ⟨a1, a2⟩ := Hsm.out k _ (List.getElem?_eq_getElem hk)
        exact ⟨a2, fun x hx => by have := manyOf_mem hx; omega⟩)).mono ?_
    rintro e w5 ⟨a5, e5, rfl, hv5, hb5⟩
    have hse := still_eq (fun g hg => (hsz g hg).2.2) (insU fs)
    rw [hse, ← HL.out] at hv5
    have hln : L1.length = (wordsL gs).length := by
      have h := congrArg List.length hse
      rw [← HL.out] at h
      unfold refStill at h
      rw [← h, List.length_map, List.length_range]
    rw [← hln] at hv5 hl200 ⊢
    have Hv5 := hid hv5
    have Hw5 : Hid (Below w.heap.size w w5) := Hw4.out.trans (hb5.mono Hw4.out.size)
    have HV5 := hid (HV4.out.later rBool_mono hb5)
    clear hv5 hb5 hse hup hln
    simp only []
    go_wp2_with fail
    refine (bools_same a1 e1 L1 L1.length a5 e5 w5 HV5.out Hv5.out rfl (by omega)).mono ?_
    rintro e w6 ⟨rfl, hb6⟩
    have Hw6 : Hid (Below w.heap.size w w6) := Hw5.out.trans (hb6.mono Hw5.out.size)
    clear hb6
    simp only []
    go_wp2_with fail
    go_ret
    exact ⟨rfl, Hw6.out⟩
  · have hq : (decide (c < 0) || decide (0 < c)) = true := by rw [Bool.eq_iff_iff]; simp; omega
    have h1 : ofS ⟨gs, fs⟩ = ([], c, d) := by
      unfold ofS
      rw [Hcd.out, if_pos (fun e => hc0 (congrArg Prod.fst e))]
    rw [Hr1.out] at h1
    cases h1
    go_wp2_with fail
    go_ret
    exact ⟨rfl, by have h := Hw3.out; (repeat (first | exact Below.refl _ _ | exact (h).mono (by first | omega | (simp <;> omega) | (have hh := (h).size; (try simp at hh); omega) | (have hh := (h).size; (try simp at hh); (try simp); omega)) | refine Below.trans ?_ ((h).mono (by first | omega | (simp <;> omega) | (have hh := (h).size; (try simp at hh); omega) | (have hh := (h).size; (try simp at hh); (try simp); omega))) | refine Below.alloc ?_ (by first | omega | (simp <;> omega) | (have hh := (h).size; (try simp at hh); omega) | (have hh := (h).size; (try simp at hh); (try simp); omega)) _ | refine Below.setCell ?_ (by first | omega | (simp <;> omega) | (have hh := (h).size; (try simp at hh); omega) | (have hh := (h).size; (try simp at hh); (try simp); omega)) _ | refine below_drewN ?_ _ | refine Below.drew ?_))⟩

end Go.Proofs.YtaehkcnankijfaaDoor

namespace Go.Proofs.YtaehkcnankijfaaDoor
open Go.RowKit Go.ChangeShapes Go.WideShapes Go.ChangeAt Go.Deep

set_option maxRecDepth 100000 in
theorem stillOfSays_contract (H : Type) (enc : TypeId × Value → H) (W : World) (base : Nat) (args : Array Value) (ds gs : List (DataW H)) (before : List MemPlace)
    (hval : ∀ (j : Nat) t v, Tryd.f6.params[j]? = some t → args[j]? = some v → Value.okWide Tryd.prog W .any base t v)
    (hW : DataW.Whole enc Tryd.prog Tryd.f6.params.toList Rows.stillOfSaysSpec.vars false W args.toList ds gs before) (hk : Rows.uptoSmall H (ds ++ gs) = true) (hL : laidMetH Tryd.prog Rows.stillOfSaysRow.laid W) :
    Calls Tryd.prog 6 args W fun e W' => ∃ v, e = .returned v ∧ Rows.stillOfSaysSpec.post enc Tryd.prog Tryd.f6 false true false false W args v W' := by
  have hW' := hW
  obtain ⟨p, q, hA0, hV, rfl, hfz, hnd⟩ := hW
  have hA : DataW.TrodAll enc Tryd.prog W 0 (fun _ => true) true Tryd.f6.params.toList args.toList ds p := hA0
  have hpar : Tryd.f6.params = #[25] := Tryd.params6
  have hts : ∀ t ∈ Tryd.f6.params.toList, Carried t := by
    intro t ht
    rw [hpar] at ht
    simp only [List.mem_cons, List.not_mem_nil, or_false] at ht
    rcases ht with rfl
    · exact carried_unit
  rw [hpar] at hA hval
  obtain ⟨v0, vs0, d0, ds0, p0, q0, hargs, rfl, rfl, h0, r0⟩ := trodAll_cons hA
  obtain ⟨rfl, rfl, rfl⟩ := trodAll_nil r0
  obtain rfl : args = #[v0] := by cases args; simp_all
  obtain ⟨rfl, rfl⟩ := trodVars_none hV
  have hbulk := bulk_bound hk
  rw [List.append_nil] at hbulk
  have hways : Ways W := ways_of hL
  have m0 : Rows.uptoBulk d0 ≤ 1048576 := Nat.le_trans (bulk_part (by simp)) hbulk
  obtain ⟨ga, gc, fa, fc, gs, fs, rfl, hg, hf, hu⟩ := arg_unit (hval 0 _ v0 rfl rfl) h0
  refine (stillOfSays_any W hways ga gc fa fc gs fs hg hf ⟨by omega⟩).mono fun e W' ⟨he, hb⟩ => ?_
  subst he
  exact ⟨_, rfl, law_post rfl rfl (fun ds h => by rw [hpar] at h; obtain ⟨e0, rfl⟩ := list1 h; rfl) hts hW' hb⟩

theorem stillOfSays_laidMet (os : Os) : laidMet Tryd.prog Rows.stillOfSaysRow.laid ((laidWorld os).forCall (fun _ _ => 0) ⟨#[], #[Value.agg #[.slice none 0 0, .slice none 0 0]], []⟩).memory :=
  laidMet_of_run' 8 (by kernel_rfl) (by kernel_rfl)
theorem stillOfSays_reads (os : Os) {H : Type} (enc : TypeId × Value → H) : ∃ places, DataW.whole enc Tryd.prog ((laidWorld os).forCall (fun _ _ => 0) ⟨#[], #[Value.agg #[.slice none 0 0, .slice none 0 0]], []⟩).memory Tryd.f6.params.toList Rows.stillOfSaysSpec.vars false (#[Value.agg #[.slice none 0 0, .slice none 0 0]] : Array Value).toList 8 = some ([.agg [.nil, .nil]], [], places) :=
  ⟨[], by kernel_rfl⟩
set_option maxRecDepth 100000 in
theorem stillOfSays_lifted (os : Os) (started : os.Started) (H : Type) (enc : TypeId × Value → H) (F : Stop.Interp) :
    ReturnsInHanded {} Tryd.checked os 6 .any ((Rows.OpenSpec.upto Rows.stillOfSaysSpec).preRow enc Tryd.prog Tryd.f6 Rows.stillOfSaysUptoRow.domain false Rows.stillOfSaysUptoRow.laid) (((Rows.OpenSpec.upto Rows.stillOfSaysSpec).at F).post enc Tryd.prog Tryd.f6 false true false false) := by
  obtain ⟨places, hx⟩ := stillOfSays_reads os enc
  refine returnsInHanded_of_row (C := Tryd.checked) (s := Rows.OpenSpec.upto Rows.stillOfSaysSpec) own started (by kernel_rfl) Tryd.func6
    (witness_row_at (enc := enc) (C := Tryd.checked) false (laidWorld os) #[Value.agg #[.slice none 0 0, .slice none 0 0]] rfl (by kernel_rfl) (by kernel_rfl) (by kernel_rfl)
      (OpenSpec.preRow_of_cond 8 hx (by kernel_rfl) (fun k hk => by cases hk; kernel_rfl) (by kernel_rfl) (stillOfSays_laidMet os))) ?_
  intro W base args ds gs before hval hW _ hcond _ hL _ _
  exact stillOfSays_contract H enc W base args ds gs before hval hW (hcond _ rfl) hL
theorem stillOfSays_saidUpto : Rows.StillOfSaysUptoSaid :=
  OpenClaim.holds_of_cond 6 Tryd.f6 rfl rfl rfl rfl rfl rfl rfl ⟨rfl, rfl, rfl, rfl, rfl⟩ rfl rfl rfl rfl rfl (by kernel_rfl) Tryd.func6 (by kernel_rfl)
    (of_decide_eq_true (by kernel_rfl)) (by unfold Func.isWrapper; first | (rw [if_pos (by decide +kernel)]; kernel_rfl) | (rw [if_neg (by decide +kernel)]; exact ⟨rfl, rfl⟩))
    (fun os started H enc _ F => by rw [OpenClaim.pre_eq_preRow]; exact stillOfSays_lifted os started H enc F)
theorem stillOfSays_plain (f : FuncId) (fn : Func) (hf : Tryd.pinned.checked.prog.funcNamed "turnery/turnerylaw6.StillOfSays" = some f) (hfn : Tryd.pinned.checked.prog.funcs[f]? = some fn) :
    true = Tryd.pinned.checked.prog.looks [] ∧ ∀ (j : Nat) t, fn.params[j]? = some t → Tryd.pinned.checked.prog.wantsStandIn t = false := by
  obtain rfl : f = 6 := Option.some.inj ((show Tryd.prog.funcNamed "turnery/turnerylaw6.StillOfSays" = some 6 by kernel_rfl).symm.trans hf) |>.symm
  obtain rfl : fn = Tryd.f6 := (Option.some.inj (Tryd.func6.symm.trans hfn)).symm
  refine ⟨by kernel_rfl, fun j t ht => ?_⟩
  have hpar : Tryd.f6.params = #[25] := Tryd.params6
  rw [hpar] at ht
  have hm := Array.mem_of_getElem? ht
  simp only [List.mem_toArray, List.mem_cons, List.not_mem_nil, or_false] at hm
  rcases hm with rfl
  · exact (show Tryd.prog.wantsStandIn 25 = false by kernel_rfl)

/-- THE CARD of StillOfSays, where what it reads is of bulk at most 1048576. -/
theorem stillOfSays_holds : Rows.StillOfSaysUptoCardSaid :=
  Claim7.holds_tied_plain_at .later [] _ _ _ _ stillOfSays_saidUpto (fun _ h => by cases h) (by kernel_rfl) (fun _ h => by cases h) stillOfSaysUpto_row_tie rfl ⟨rfl, rfl⟩ (by kernel_rfl) rfl stillOfSays_plain (by kernel_rfl)

end Go.Proofs.YtaehkcnankijfaaDoor
