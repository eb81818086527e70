/- The law WeighBySays: its walk. WeighBySays: where what it reads is of bulk at most 1048576, the law answers true for every input, and each argument reads behind the call as before. Its listed variable is code.ways, as the program's text lays it. -/
import Derived.Test.YtaehkcnankijfaaDoorRefBy
import Derived.Test.YtaehkcnankijfaaDoorSameU
import Derived.Test.YtaehkcnankijfaaDoorArgR
import Derived.Test.YtaehkcnankijfaaDoorFrame
namespace Go.Proofs.YtaehkcnankijfaaDoor
open Go.RowKit

theorem byL_small {gs : List DGlobal} {fs : List DFunc} {Cs : List (List Int)} (h : fitsF ⟨gs, fs⟩ Cs = (0, 0)) : (∀ g ∈ gs, g.init.length ≤ 1048576) ∧ ∀ f ∈ byL fs Cs, SmallF f := by
  have h2 := (rest_plain h).1
  obtain ⟨h3, -⟩ := fitsF_inv h2
  exact checkF_small (u := ⟨gs, byL fs Cs⟩) h3

set_option maxRecDepth 100000 in
set_option maxHeartbeats 4000000 in
theorem weighBySays_any (w : World) (hw : Ways w) (ga : Option Addr) (gc : Nat) (fa : Option Addr) (fc : Nat) (gs : List DGlobal) (fs : List DFunc) (hg : SlAt (fun b => b < w.heap.size) w 3 rGlobal (.slice ga gs.length gc) gs) (hf : SlAt (fun b => b < w.heap.size) w 4 rFunc (.slice fa fs.length fc) fs)
    (hsm : Small gs fs) (ca : Option Addr) (cc : Nat) (Cs : List (List Int)) (hC : SlAt (fun b => b < w.heap.size) w 1 rRow (.slice ca Cs.length cc) Cs) (hcs : szL (szL szInt) Cs ≤ 1048576) :
    Calls Tryd.prog 7 #[.agg #[.slice ga gs.length gc, .slice fa fs.length fc], .slice ca Cs.length cc] w fun e w' => e = .returned (.bool true) ∧ Below w.heap.size w w' := by
  obtain ⟨hcl, hcm⟩ := rows_small hcs
  have Hg := hid hg
  have Hf := hid hf
  have HC := hid hC
  have Hw := hid hw
  have Hsm := hid hsm
  have Hcm := hid hcm
  clear hg hf hC hw hsm hcm hcs
  go_enter Tryd.func7, Tryd.ntmps7
  obtain ⟨W, hW⟩ : ∃ W, W = (w.alloc (.cells #[.slice ga gs.length gc, .slice fa fs.length fc] 25)) := ⟨_, rfl⟩
  have hbW : Below w.heap.size w W := by rw [hW]; (repeat (first | exact Below.refl _ _ | refine Below.alloc ?_ (by first | omega | (simp <;> omega)) _ | refine Below.setCell ?_ (by first | omega | (simp <;> omega)) _ | refine below_drewN ?_ _ | refine Below.drew ?_))
  have B0 : CellsAt W w.heap.size 0 [.slice ga gs.length gc, .slice fa fs.length fc] := by
    intro j u hj; rw [hW, Nat.zero_add, World.cell?_alloc_new]; simpa using hj
  have hWs : W.heap.size = w.heap.size + 1 := by rw [hW]; simp
  have HW := hid hW
  clear hW
  go_wp2_with fail
  rw [← HW.out]
  refine (by_any ga gc fa fc gs fs ca cc Cs W (Hg.out.later rGlobal_mono hbW) (Hf.out.later rFunc_mono hbW) (HC.out.later rRow_mono hbW) (Ways.below Hw.out hbW) Hsm.out.globals Hsm.out.funcs hcl Hsm.out.many Hcm.out).mono ?_
  rintro e w1 ⟨hb1, hcase⟩
  have Hb1 : Hid (Below w.heap.size w w1) := hbW.trans (hb1.mono (by omega))
  obtain ⟨g0, g1⟩ := (B0.later hb1).get2
  rw [Nat.zero_add] at g1
  have z0 : w.heap.size < w1.heap.size := cell_lt g0
  have HB0 := hid (B0.later hb1)
  obtain ⟨c, d, va, vn, vc, wa, wn, wc, hfit, rfl, Hcase⟩ : ∃ c d va vn vc wa wn wc, fitsF ⟨gs, fs⟩ Cs = (c, d) ∧ e = .returned (.tuple #[.agg #[.slice va vn vc, .slice wa wn wc], .agg #[.int .i64 c, .int .i64 d]]) ∧
      Hid ((c ≠ 0 ∧ vn = 0 ∧ wn = 0) ∨ (c = 0 ∧ d = 0 ∧ vn = gs.length ∧ wn = fs.length ∧ SlAt (iv W.heap.size w1.heap.size) w1 3 rGlobal (.slice va vn vc) gs ∧ SlAt (iv W.heap.size w1.heap.size) w1 4 rFunc (.slice wa wn wc) (byL fs Cs))) := by
    rcases hcase with ⟨c, d, hfit, hcd, rfl⟩ | ⟨hfit, ga2, gc2, fa2, fc2, rfl, hg2, hf2⟩
    · refine ⟨c, d, none, 0, 0, none, 0, 0, hfit, rfl, .inl ⟨fun e => hcd ?_, rfl, rfl⟩⟩
      have h := fitsF_code (u := ⟨gs, fs⟩) (Cs := Cs) (by rw [hfit]; exact e)
      rw [hfit] at h
      exact ⟨congrArg Prod.fst h, congrArg Prod.snd h⟩
    · exact ⟨0, 0, _, _, _, _, _, _, hfit, rfl, .inr ⟨rfl, rfl, rfl, rfl, hg2, hf2⟩⟩
  have Hfit := hid hfit
  clear hcase hfit hb1 hbW B0 hWs HW
  go_wp2_with fail
  obtain ⟨W3, hW3⟩ : ∃ W3, W3 = (w1.alloc (.cells #[.slice va vn vc, .slice wa wn wc] 25)).alloc (.cells #[.int .i64 c, .int .i64 d] 28) := ⟨_, rfl⟩
  have hb13 : Below w1.heap.size w1 W3 := by rw [hW3]; (repeat (first | exact Below.refl _ _ | refine Below.alloc ?_ (by first | omega | (simp <;> omega)) _ | refine Below.setCell ?_ (by first | omega | (simp <;> omega)) _ | refine below_drewN ?_ _ | refine Below.drew ?_))
  have hs3 : W3.heap.size = w1.heap.size + 2 := by rw [hW3]; simp
  have V0 : CellsAt W3 w1.heap.size 0 [.slice va vn vc, .slice wa wn wc] := by
    intro j u hj; rw [hW3, Nat.zero_add, World.cell?_alloc2_first]; simpa using hj
  have V1 : CellsAt W3 (w1.heap.size + 1) 0 [.int .i64 c, .int .i64 d] := by
    intro j u hj; rw [hW3, Nat.zero_add, World.cell?_alloc2_new]; simpa using hj
  rw [← hW3]
  have Hb13 := hid hb13
  have Hw3 : Hid (Below w.heap.size w W3) := Hb1.out.trans (hb13.mono Hb1.out.size)
  have Hs3 := hid hs3
  have HV0 := hid V0
  have HV1 := hid V1
  clear hb13 hs3 V0 V1 hW3
  refine (fits_any (S := fun b => b < w.heap.size) (S' := fun b => b < w.heap.size) ga gc fa fc gs fs ca cc Cs W3 (Hg.out.later rGlobal_mono Hw3.out) (Hf.out.later rFunc_mono Hw3.out) (HC.out.later rRow_mono Hw3.out) (Ways.below Hw.out Hw3.out) Hsm.out.globals Hsm.out.funcs hcl Hsm.out.many Hcm.out).mono ?_
  rintro e w4 ⟨rfl, hb4⟩
  rw [Hfit.out]
  have hb14 : Below w1.heap.size w1 w4 := Hb13.out.trans (hb4.mono (by have := Hs3.out; omega))
  have Hb14 := hid hb14
  have Hw4 : Hid (Below w.heap.size w w4) := Hb1.out.trans (hb14.mono Hb1.out.size)
  obtain ⟨g2, g3⟩ := (HB0.out.later hb14).get2
  obtain ⟨v0, v1⟩ := (HV0.out.later hb4).get2
  obtain ⟨f0, f1⟩ := (HV1.out.later hb4).get2
  simp only [Nat.zero_add] at g3 v1 f1
  have z1 : w.heap.size < w4.heap.size := cell_lt g2
  have z2 : w1.heap.size < w4.heap.size := cell_lt v0
  have z3 : w1.heap.size + 1 < w4.heap.size := cell_lt f0
  clear g0 g1 z0 hb14 hb4
  dsimp only
  by_cases hc : c = 0
  · obtain ⟨rfl, rfl, rfl, Hgv, Hfv⟩ : d = 0 ∧ vn = gs.length ∧ wn = fs.length ∧ Hid (SlAt (iv W.heap.size w1.heap.size) w1 3 rGlobal (.slice va vn vc) gs) ∧ Hid (SlAt (iv W.heap.size w1.heap.size) w1 4 rFunc (.slice wa wn wc) (byL fs Cs)) := by
      rcases Hcase.out with h | h
      · exact absurd hc h.1
      · exact ⟨h.2.1, h.2.2.1, h.2.2.2.1, h.2.2.2.2.1, h.2.2.2.2.2⟩
    subst hc
    clear Hcase
    go_wp2_with fail
    obtain ⟨W5, hW5⟩ : ∃ W5, W5 = w4.alloc (.cells #[.int .i64 0, .int .i64 0] 28) := ⟨_, rfl⟩
    have hb5 : Below w4.heap.size w4 W5 := by rw [hW5]; (repeat (first | exact Below.refl _ _ | refine Below.alloc ?_ (by first | omega | (simp <;> omega)) _ | refine Below.setCell ?_ (by first | omega | (simp <;> omega)) _ | refine below_drewN ?_ _ | refine Below.drew ?_))
    try rw [← hW5]
    have HS0 : Hid (W5.cell? ⟨w.heap.size, 0, none⟩ = some (.slice ga gs.length gc) ∧ W5.cell? ⟨w.heap.size, 1, none⟩ = some (.slice fa fs.length fc) ∧ W5.cell? ⟨w1.heap.size, 0, none⟩ = some (.slice va gs.length vc) ∧ W5.cell? ⟨w1.heap.size, 1, none⟩ = some (.slice wa fs.length wc) ∧ W5.cell? ⟨w1.heap.size + 1, 0, none⟩ = some (.int .i64 0)) :=
      ⟨cell_later' g2 hb5, cell_later' g3 hb5, cell_later' v0 hb5, cell_later' v1 hb5, cell_later' f0 hb5⟩
    have HSd : Hid (W5.drew.cell? ⟨w.heap.size, 0, none⟩ = some (.slice ga gs.length gc) ∧ W5.drew.cell? ⟨w.heap.size, 1, none⟩ = some (.slice fa fs.length fc) ∧ W5.drew.cell? ⟨w1.heap.size, 0, none⟩ = some (.slice va gs.length vc) ∧ W5.drew.cell? ⟨w1.heap.size, 1, none⟩ = some (.slice wa fs.length wc) ∧ W5.drew.cell? ⟨w1.heap.size + 1, 0, none⟩ = some (.int .i64 0)) := HS0.out
    have Hw5 : Hid (Below w.heap.size w W5) := Hw4.out.trans (hb5.mono Hw4.out.size)
    have Hb15 : Hid (Below w1.heap.size w1 W5) := Hb14.out.trans (hb5.mono Hb14.out.size)
    have Hw5d : Hid (Below w.heap.size w W5.drew) := Hw5.out.drew
    obtain ⟨HsG, HsF⟩ := byL_small Hfit.out
    have HsG := hid HsG
    have HsF := hid HsF
    clear hW5 hb5 g2 g3 v0 v1 f0 f1
    go_region_held3 (fun w' => w'.cell? ⟨w.heap.size, 0, none⟩ = some (.slice ga gs.length gc) ∧ w'.cell? ⟨w.heap.size, 1, none⟩ = some (.slice fa fs.length fc) ∧ w'.cell? ⟨w1.heap.size, 0, none⟩ = some (.slice va gs.length vc) ∧ w'.cell? ⟨w1.heap.size, 1, none⟩ = some (.slice wa fs.length wc) ∧ w'.cell? ⟨w1.heap.size + 1, 0, none⟩ = some (.int .i64 0)) ((first | with_reducible exact HS8.out | with_reducible exact HS7.out | with_reducible exact HSd.out))
      ((first
        | (go_at_call 27; (with_reducible refine (refBy_any (S := fun b => b < w.heap.size) (S' := fun b => b < w.heap.size) ga gc fa fc gs fs ca cc Cs W5.drew (Hg.out.later rGlobal_mono Hw5d.out) (Hf.out.later rFunc_mono Hw5d.out) (HC.out.later rRow_mono Hw5d.out) Hsm.out.globals Hsm.out.funcs Hfit.out).mono ?_); rintro e w7 ⟨ga7, gc7, fa7, fc7, rfl, hg7, hf7, hb7⟩
           have hb57 : Below W5.heap.size W5 w7 := (Below.refl W5.heap.size W5).drew.trans hb7
           have HS7 : Hid (w7.cell? ⟨w.heap.size, 0, none⟩ = some (.slice ga gs.length gc) ∧ w7.cell? ⟨w.heap.size, 1, none⟩ = some (.slice fa fs.length fc) ∧ w7.cell? ⟨w1.heap.size, 0, none⟩ = some (.slice va gs.length vc) ∧ w7.cell? ⟨w1.heap.size, 1, none⟩ = some (.slice wa fs.length wc) ∧ w7.cell? ⟨w1.heap.size + 1, 0, none⟩ = some (.int .i64 0)) := by
             obtain ⟨s0, s1, s2, s3, s4⟩ := HS0.out
             exact ⟨cell_later' s0 hb57, cell_later' s1 hb57, cell_later' s2 hb57, cell_later' s3 hb57, cell_later' s4 hb57⟩
           have Hb57 := hid hb57
           have Hg7 := hid hg7
           have Hf7 := hid hf7
           clear hb57 hb7 hg7 hf7)
        | (go_at_call 26; (with_reducible refine (units_same' (S := iv W.heap.size w1.heap.size) (S' := iv W5.drew.heap.size w7.heap.size) va ga7 wa fa7 vc gc7 wc fc7 gs (byL fs Cs) fs.length w7 ((Hgv.out.later rGlobal_mono Hb15.out).later rGlobal_mono Hb57.out) Hg7.out ((Hfv.out.later rFunc_mono Hb15.out).later rFunc_mono Hb57.out) Hf7.out (byL_len fs Cs) Hsm.out.globals HsG.out Hsm.out.funcs HsF.out).mono ?_); rintro e w8 ⟨rfl, hb8⟩
           have HS8 : Hid (w8.cell? ⟨w.heap.size, 0, none⟩ = some (.slice ga gs.length gc) ∧ w8.cell? ⟨w.heap.size, 1, none⟩ = some (.slice fa fs.length fc) ∧ w8.cell? ⟨w1.heap.size, 0, none⟩ = some (.slice va gs.length vc) ∧ w8.cell? ⟨w1.heap.size, 1, none⟩ = some (.slice wa fs.length wc) ∧ w8.cell? ⟨w1.heap.size + 1, 0, none⟩ = some (.int .i64 0)) := by
             obtain ⟨s0, s1, s2, s3, s4⟩ := HS7.out
             exact ⟨cell_later' s0 hb8, cell_later' s1 hb8, cell_later' s2 hb8, cell_later' s3 hb8, cell_later' s4 hb8⟩
           have Hw8 : Hid (Below w.heap.size w w8) := Hw5.out.trans ((Hb57.out.trans (hb8.mono Hb57.out.size)).mono Hw5.out.size)
           clear hb8)))
    all_goals
      go_wp2_with fail
      go_ret
      exact ⟨rfl, Hw8.out⟩
  · obtain ⟨rfl, rfl⟩ : vn = 0 ∧ wn = 0 := by
      rcases Hcase.out with h | h
      · exact ⟨h.2.1, h.2.2⟩
      · exact absurd h.1 hc
    have hq : (decide (c < 0) || decide (0 < c)) = true := ne_yes hc
    clear Hcase hc
    go_wp2_with (first
      | (go_at_call 25; refine (none_any _ _ _ _ 0 0 _).mono ?_; rintro e w6 ⟨rfl, hb6⟩))
    go_ret
    exact ⟨rfl, by have h := Hw4.out; (repeat (first | exact Below.refl _ _ | exact (hb6).mono (by first | omega | (simp <;> omega) | (have hh := (hb6).size; (try simp at hh); omega) | (have hh := (hb6).size; (try simp at hh); (try simp); omega) | (have hh := (h).size; (try simp at hh); omega) | (have hh := (h).size; (try simp at hh); (try simp); omega)) | refine Below.trans ?_ ((hb6).mono (by first | omega | (simp <;> omega) | (have hh := (hb6).size; (try simp at hh); omega) | (have hh := (hb6).size; (try simp at hh); (try simp); omega) | (have hh := (h).size; (try simp at hh); omega) | (have hh := (h).size; (try simp at hh); (try simp); omega))) | exact (h).mono (by first | omega | (simp <;> omega) | (have hh := (hb6).size; (try simp at hh); omega) | (have hh := (hb6).size; (try simp at hh); (try simp); omega) | (have hh := (h).size; (try simp at hh); omega) | (have hh := (h).size; (try simp at hh); (try simp); omega)) | refine Below.trans ?_ ((h).mono (by first | omega | (simp <;> omega) | (have hh := (hb6).size; (try simp at hh); omega) | (have hh := (hb6).size; (try simp at hh); (try simp); omega) | (have hh := (h).size; (try simp at hh); omega) | (have hh := (h).size; (try simp at hh); (try simp); omega))) | refine Below.alloc ?_ (by first | omega | (simp <;> omega) | (have hh := (hb6).size; (try simp at hh); omega) | (have hh := (hb6).size; (try simp at hh); (try simp); omega) | (have hh := (h).size; (try simp at hh); omega) | (have hh := (h).size; (try simp at hh); (try simp); omega)) _ | refine Below.setCell ?_ (by first | omega | (simp <;> omega) | (have hh := (hb6).size; (try simp at hh); omega) | (have hh := (hb6).size; (try simp at hh); (try simp); omega) | (have hh := (h).size; (try simp at hh); omega) | (have hh := (h).size; (try simp at hh); (try simp); omega)) _ | refine below_drewN ?_ _ | refine Below.drew ?_))⟩

end Go.Proofs.YtaehkcnankijfaaDoor

namespace Go.Proofs.YtaehkcnankijfaaDoor
open Go.RowKit Go.ChangeShapes Go.WideShapes Go.ChangeAt Go.Deep

set_option maxRecDepth 100000 in
theorem weighBySays_contract (H : Type) (enc : TypeId × Value → H) (W : World) (base : Nat) (args : Array Value) (ds gs : List (DataW H)) (before : List MemPlace)
    (hval : ∀ (j : Nat) t v, Tryd.f7.params[j]? = some t → args[j]? = some v → Value.okWide Tryd.prog W .any base t v)
    (hW : DataW.Whole enc Tryd.prog Tryd.f7.params.toList Rows.weighBySaysSpec.vars false W args.toList ds gs before) (hk : Rows.uptoSmall H (ds ++ gs) = true) (hL : laidMetH Tryd.prog Rows.weighBySaysRow.laid W) :
    Calls Tryd.prog 7 args W fun e W' => ∃ v, e = .returned v ∧ Rows.weighBySaysSpec.post enc Tryd.prog Tryd.f7 false true false false W args v W' := by
  have hW' := hW
  obtain ⟨p, q, hA0, hV, rfl, hfz, hnd⟩ := hW
  have hA : DataW.TrodAll enc Tryd.prog W 0 (fun _ => true) true Tryd.f7.params.toList args.toList ds p := hA0
  have hpar : Tryd.f7.params = #[25, 53] := Tryd.params7
  have hts : ∀ t ∈ Tryd.f7.params.toList, Carried t := by
    intro t ht
    rw [hpar] at ht
    simp only [List.mem_cons, List.not_mem_nil, or_false] at ht
    rcases ht with rfl | rfl
    · exact carried_unit
    · exact carried_rows
  rw [hpar] at hA hval
  obtain ⟨v0, vs0, d0, ds0, p0, q0, hargs, rfl, rfl, h0, r0⟩ := trodAll_cons hA
  obtain ⟨v1, vs1, d1, ds1, p1, q1, rfl, rfl, rfl, h1, r1⟩ := trodAll_cons r0
  obtain ⟨rfl, rfl, rfl⟩ := trodAll_nil r1
  obtain rfl : args = #[v0, v1] := by cases args; simp_all
  obtain ⟨rfl, rfl⟩ := trodVars_none hV
  have hbulk := bulk_bound hk
  rw [List.append_nil] at hbulk
  have hways : Ways W := ways_of hL
  have m0 : Rows.uptoBulk d0 ≤ 1048576 := Nat.le_trans (bulk_part (by simp)) hbulk
  obtain ⟨ga, gc, fa, fc, gs, fs, rfl, hg, hf, hu⟩ := arg_unit (hval 0 _ v0 rfl rfl) h0
  have m1 : Rows.uptoBulk d1 ≤ 1048576 := Nat.le_trans (bulk_part (by simp)) hbulk
  obtain ⟨ca, cc, C, rfl, hC, hc⟩ := arg_rows (hval 1 _ v1 rfl rfl) h1
  refine (weighBySays_any W hways ga gc fa fc gs fs hg hf ⟨by omega⟩ ca cc C hC (by omega)).mono fun e W' ⟨he, hb⟩ => ?_
  subst he
  exact ⟨_, rfl, law_post rfl rfl (fun ds h => by rw [hpar] at h; obtain ⟨e0, e1, rfl⟩ := list2 h; rfl) hts hW' hb⟩

theorem weighBySays_laidMet (os : Os) : laidMet Tryd.prog Rows.weighBySaysRow.laid ((laidWorld os).forCall (fun _ _ => 0) ⟨#[], #[Value.agg #[.slice none 0 0, .slice none 0 0], Value.slice none 0 0], []⟩).memory :=
  laidMet_of_run' 8 (by kernel_rfl) (by kernel_rfl)
theorem weighBySays_reads (os : Os) {H : Type} (enc : TypeId × Value → H) : ∃ places, DataW.whole enc Tryd.prog ((laidWorld os).forCall (fun _ _ => 0) ⟨#[], #[Value.agg #[.slice none 0 0, .slice none 0 0], Value.slice none 0 0], []⟩).memory Tryd.f7.params.toList Rows.weighBySaysSpec.vars false (#[Value.agg #[.slice none 0 0, .slice none 0 0], Value.slice none 0 0] : Array Value).toList 8 = some ([.agg [.nil, .nil], .nil], [], places) :=
  ⟨[], by kernel_rfl⟩
set_option maxRecDepth 100000 in
theorem weighBySays_lifted (os : Os) (started : os.Started) (H : Type) (enc : TypeId × Value → H) (F : Stop.Interp) :
    ReturnsInHanded {} Tryd.checked os 7 .any ((Rows.OpenSpec.upto Rows.weighBySaysSpec).preRow enc Tryd.prog Tryd.f7 Rows.weighBySaysUptoRow.domain false Rows.weighBySaysUptoRow.laid) (((Rows.OpenSpec.upto Rows.weighBySaysSpec).at F).post enc Tryd.prog Tryd.f7 false true false false) := by
  obtain ⟨places, hx⟩ := weighBySays_reads os enc
  refine returnsInHanded_of_row (C := Tryd.checked) (s := Rows.OpenSpec.upto Rows.weighBySaysSpec) own started (by kernel_rfl) Tryd.func7
    (witness_row_at (enc := enc) (C := Tryd.checked) false (laidWorld os) #[Value.agg #[.slice none 0 0, .slice none 0 0], Value.slice none 0 0] rfl (by kernel_rfl) (by kernel_rfl) (by kernel_rfl)
      (OpenSpec.preRow_of_cond 8 hx (by kernel_rfl) (fun k hk => by cases hk; kernel_rfl) (by kernel_rfl) (weighBySays_laidMet os))) ?_
  intro W base args ds gs before hval hW _ hcond _ hL _ _
  exact weighBySays_contract H enc W base args ds gs before hval hW (hcond _ rfl) hL
theorem weighBySays_saidUpto : Rows.WeighBySaysUptoSaid :=
  OpenClaim.holds_of_cond 7 Tryd.f7 rfl rfl rfl rfl rfl rfl rfl ⟨rfl, rfl, rfl, rfl, rfl⟩ rfl rfl rfl rfl rfl (by kernel_rfl) Tryd.func7 (by kernel_rfl)
    (of_decide_eq_true (by kernel_rfl)) (by unfold Func.isWrapper; first | (rw [if_pos (by decide +kernel)]; kernel_rfl) | (rw [if_neg (by decide +kernel)]; exact ⟨rfl, rfl⟩))
    (fun os started H enc _ F => by rw [OpenClaim.pre_eq_preRow]; exact weighBySays_lifted os started H enc F)
theorem weighBySays_plain (f : FuncId) (fn : Func) (hf : Tryd.pinned.checked.prog.funcNamed "turnery/turnerylaw6.WeighBySays" = some f) (hfn : Tryd.pinned.checked.prog.funcs[f]? = some fn) :
    true = Tryd.pinned.checked.prog.looks [] ∧ ∀ (j : Nat) t, fn.params[j]? = some t → Tryd.pinned.checked.prog.wantsStandIn t = false := by
  obtain rfl : f = 7 := Option.some.inj ((show Tryd.prog.funcNamed "turnery/turnerylaw6.WeighBySays" = some 7 by kernel_rfl).symm.trans hf) |>.symm
  obtain rfl : fn = Tryd.f7 := (Option.some.inj (Tryd.func7.symm.trans hfn)).symm
  refine ⟨by kernel_rfl, fun j t ht => ?_⟩
  have hpar : Tryd.f7.params = #[25, 53] := Tryd.params7
  rw [hpar] at ht
  have hm := Array.mem_of_getElem? ht
  simp only [List.mem_toArray, List.mem_cons, List.not_mem_nil, or_false] at hm
  rcases hm with rfl | rfl
  · exact (show Tryd.prog.wantsStandIn 25 = false by kernel_rfl)
  · exact (show Tryd.prog.wantsStandIn 53 = false by kernel_rfl)

/-- THE CARD of WeighBySays, where what it reads is of bulk at most 1048576. -/
theorem weighBySays_holds : Rows.WeighBySaysUptoCardSaid :=
  Claim7.holds_tied_plain_at .later [] _ _ _ _ weighBySays_saidUpto (fun _ h => by cases h) (by kernel_rfl) (fun _ h => by cases h) weighBySaysUpto_row_tie rfl ⟨rfl, rfl⟩ (by kernel_rfl) rfl weighBySays_plain (by kernel_rfl)

end Go.Proofs.YtaehkcnankijfaaDoor
