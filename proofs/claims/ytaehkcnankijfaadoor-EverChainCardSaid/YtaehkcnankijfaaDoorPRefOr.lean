/- turneryref5.CallsOrder. -/
import Derived.Test.YtaehkcnankijfaaDoorPRefRi
import Derived.Test.YtaehkcnankijfaaDoorPHeldR
namespace Go.Proofs.YtaehkcnankijfaaDoor
open Go.RowKit Go.Sort

/-- One walk of the text's order serves every order, the callees making memory. -/
theorem wp_region_quiet_open {P : Program} {id : Nat} {Q : Exit → Act → World → Prop} {a : Act} {w : World} {l : List Oper} (hm : P.follows .mixedOrders = true) (hB : Region.lexB .any l.toArray = true)
    (h : wpQuietIn Fence.wide 6 P l.toArray (fun w' => ∃ p : Regrown, w' = grow (redrawn w p.d) p.os) (fun a' => ∀ w', (∃ p : Regrown, w' = grow (redrawn w p.d) p.os) → Q .normal a' w') l a) : (Code.region id l.toArray true).wp P Q a w :=
  wpIn_wide.1 (wpIn_region_quiet (n := 6) (C := fun w' => ∃ p : Regrown, w' = grow (redrawn w p.d) p.os) rfl hm hB ⟨⟨w.drawn + 1, #[]⟩, by rw [grow_empty]; rfl⟩ (by simpa using h))

/-- May it go next, as far as it is looked through? -/
def rdyUp (a : Nat → Nat → Bool) (r : Nat → Nat) (t : List Bool) (k x : Nat) : Bool := !(t.getD k true) && (List.range x).all fun y => !(a k y && !(t.getD y true) && decide (r y ≠ r k))
theorem rdyUp_zero (a : Nat → Nat → Bool) (r : Nat → Nat) (t : List Bool) (k : Nat) : rdyUp a r t k 0 = !(t.getD k true) := by unfold rdyUp; simp
theorem rdyUp_succ (a : Nat → Nat → Bool) (r : Nat → Nat) (t : List Bool) (k x : Nat) : rdyUp a r t k (x + 1) = (rdyUp a r t k x && !(a k x && !(t.getD x true) && decide (r x ≠ r k))) := by
  unfold rdyUp
  rw [List.range_succ, List.all_append, Bool.and_assoc]
  simp
set_option maxRecDepth 100000 in
set_option maxHeartbeats 4000000 in
theorem callsOrder_any {S : Nat → Prop} (ga : Option Addr) (gn gc : Nat) (fa : Option Addr) (fc n : Nat) (fs : List DFunc) (w : World) (hf : SlAt S w 4 rFunc (.slice fa n fc) fs) (hS : ∀ b, S b → b < w.heap.size) (hn : fs.length = n) (hn1 : n ≤ 1048575) (ha : ∀ k x, callB fs k x = true → x < n)
    (hsm : ∀ k, k < n → (fs.getD k noFunc).blocks.length ≤ 1048576 ∧ ∀ b ∈ (fs.getD k noFunc).blocks, b.list.length ≤ 1048576) :
    Calls Tryd.prog 69 #[.agg #[.slice ga gn gc, .slice fa n fc]] w fun e w' => ∃ v, e = .returned v ∧ OwnInts w.heap.size w' v (ordF (callB fs) (ringF (viaF (callB fs) n) n) n) ∧ Below w.heap.size w w' := by
  have Hn := hid hn
  have Ha := hid ha
  have Hsm := hid hsm
  have HS := hid hS
  obtain ⟨W, hW⟩ : ∃ W, W = w.alloc (.cells #[.slice ga gn gc, .slice fa n fc] 25) := ⟨_, rfl⟩
  have hbW : Below w.heap.size w W := by rw [hW]; (repeat (first | exact Below.refl _ _ | refine Below.alloc ?_ (by first | omega | (simp <;> omega)) _ | refine Below.setCell ?_ (by first | omega | (simp <;> omega)) _ | refine below_drewN ?_ _ | refine Below.drew ?_))
  have u0 : W.cell? ⟨w.heap.size, 0, none⟩ = some (.slice ga gn gc) := by rw [hW]; simp
  have u1 : W.cell? ⟨w.heap.size, 1, none⟩ = some (.slice fa n fc) := by rw [hW]; simp
  have Hring := hid (callsRings_any (S := S) ga gn gc fa fc n fs W (hf.later rFunc_mono hbW) (fun b hb => Nat.lt_of_lt_of_le (hS b hb) hbW.size) hn hn1 ha hsm)
  have Hf := hid (hf.later rFunc_mono hbW)
  have HW := hid hW
  have HbW := hid hbW
  have zU0 : w.heap.size < W.heap.size := cell_lt u0
  have hmk := run_make_row' (P := Tryd.prog) 39 4 (.bool false) 1 Tryd.underlying39 infoBool rfl .i64 .i64 n (by omega) (by omega)
  have Hmk := hid hmk
  clear hf hS hn ha hsm hW hbW hmk
  go_enter Tryd.func69, Tryd.ntmps69
  go_upto_region 1 with (fail)
  rw [← HW.out]
  obtain ⟨UB, hUB⟩ : ∃ UB, UB = w.heap.size := ⟨_, rfl⟩
  rw [← hUB] at u0 u1 zU0 ⊢
  have HUB := hid hUB
  clear hUB
  go_upto_region 3 with (go_at_call 116; (with_reducible refine Hring.out.mono ?_); rintro e w1 ⟨rv, rfl, hrv, hb1⟩; have Hrv := hid hrv; have Hb1 := hid hb1; clear hrv hb1)
  obtain ⟨ra, rc, hrvs⟩ := Hrv.out.shape
  rw [show (ringsF (callB fs) n).length = n by simp [ringsF]] at hrvs
  subst hrvs
  have hmk := Hmk.out
  have zU1 : UB < w1.heap.size := Nat.lt_of_lt_of_le zU0 Hb1.out.size
  go_wp2_with fail
  obtain ⟨W2, hW2⟩ : ∃ W2, W2 = w1.alloc (.cells (madeCells #[.bool false] n) 4) := ⟨_, rfl⟩
  obtain ⟨TB, hTB⟩ : ∃ TB, TB = w1.heap.size := ⟨_, rfl⟩
  have hb2 : Below w1.heap.size w1 W2 := by rw [hW2]; (repeat (first | exact Below.refl _ _ | refine Below.alloc ?_ (by first | omega | (simp <;> omega)) _ | refine Below.setCell ?_ (by first | omega | (simp <;> omega)) _ | refine below_drewN ?_ _ | refine Below.drew ?_))
  have hst0 : RowSt W2 W2 TB 4 ((ordSt (callB fs) (ringF (viaF (callB fs) n) n) n 0).1.map Value.bool) := ⟨Nat.le_refl _, fun _ _ _ => rfl, ⟨rfl, rfl, rfl⟩, by rw [hW2, hTB, heap_alloc_new, madeCells_rep, ordSt, List.map_replicate]⟩
  have Hst0 := hid hst0
  have Hb12 : Hid (Below W.heap.size W W2) := Hb1.out.trans (hb2.mono Hb1.out.size)
  have Hw2 : Hid (Below w.heap.size w W2) := HbW.out.trans (Hb12.out.mono HbW.out.size)
  have U0 := hid (cell_later' u0 Hb12.out)
  have U1 := hid (cell_later' u1 Hb12.out)
  have Hrs := hid ((Hrv.out.sl).later rInt_mono hb2)
  have hUT : UB ≠ TB := by omega
  have zT2 := hst0.lt
  have Hwz : Hid (w.heap.size ≤ W2.heap.size) := Hw2.out.size
  have HwT : Hid (w.heap.size ≤ TB) := by show _ ≤ _; have := HbW.out.size; have := Hb1.out.size; omega
  have HST : Hid (∀ b, S b → b ≠ TB) := fun b hb => by have := HS.out b hb; have := HUB.out; omega
  have HRT : Hid (∀ b, iv W.heap.size w1.heap.size b → b ≠ TB) := fun b hb => by have := hb.2; omega
  have Hf2 := hid (Hf.out.later rFunc_mono Hb12.out)
  obtain ⟨A, hA⟩ : ∃ A, A = callB fs := ⟨_, rfl⟩
  obtain ⟨r, hr⟩ : ∃ r, r = ringF (viaF A n) n := ⟨_, rfl⟩
  have Hord : Hid (∀ j, j ≤ n → OrdOk n j (ordSt A r n j)) := fun j hj => by rw [hr]; exact ord_ok (fun k x => by rw [hA]; exact viaF_reach Ha.out) j hj
  have Hnext : Hid (∀ j, j < n → ∃ k, k < n ∧ readyF A r n (ordSt A r n j).1 k = true ∧ (∀ i, i < k → readyF A r n (ordSt A r n j).1 i = false) ∧ ordSt A r n (j + 1) = ((ordSt A r n j).1.set k true, (ordSt A r n j).2 ++ [(k : Int)])) := fun j hj => by
    rw [hr]
    exact ord_readyK (fun k x => by rw [hA]; exact viaF_reach Ha.out) hj
  have Hrx : Hid (∀ x, x < n → (ringsF A n)[x]? = some ((r x : Nat) : Int)) := fun x hx => by
    unfold ringsF
    rw [List.getElem?_map, List.getElem?_range hx, hr]; rfl
  have HA := hid hA
  have Hr := hid hr
  rw [← hA] at Hst0 Hrs
  rw [← hr] at Hst0
  rw [← hW2, ← hTB]
  clear hmk hW2 hb2 hst0 u0 u1 hTB hA hr Hring
  go_loopw [6, 7] (fun s6 s7 wr => ∃ (j : Nat) (v : Value), v = s6 ∧ j ≤ n ∧ s7 = .int .i64 (j : Int) ∧ RowSt W2 wr TB 4 ((ordSt A r n j).1.map Value.bool) ∧ OwnInts W2.heap.size wr v (ordSt A r n j).2) (fun _ s7 _ => n - (intOf s7).toNat)
  case atStart => exact ⟨0, _, rfl, Nat.zero_le _, rfl, Hst0.out, OwnInts.nil _ _⟩
  case round =>
    obtain ⟨j, v, rfl, hj, rfl, hst, hown⟩ := hrel
    have Hst := hid hst
    have Hown := hid hown
    have Ho := hid (Hord.out j hj)
    obtain ⟨s, hs⟩ : ∃ s, s = (ordSt A r n j).1 := ⟨_, rfl⟩
    obtain ⟨out, hout⟩ : ∃ out, out = (ordSt A r n j).2 := ⟨_, rfl⟩
    have hsl : s.length = n := by rw [hs]; exact Ho.out.len
    have hol : out.length = j := by rw [hout]; exact Ho.out.many
    rw [← hs] at Hst
    rw [← hout] at Hown
    have Hhs := hid hs
    have Hhout := hid hout
    have Hsl := hid hsl
    have Hol := hid hol
    obtain ⟨la, lc, hv⟩ := Hown.out.shape
    rw [hol] at hv
    subst hv
    obtain ⟨wo, hwo⟩ : ∃ wo : World, wo = wr := ⟨_, rfl⟩
    subst hwo
    clear hst hown hs hout hsl hol Hst0
    by_cases hjn : j < n
    · obtain ⟨k0, hk0, hready, hnot, hsucc⟩ := Hnext.out j hjn
      rw [← Hhs.out] at hready hnot hsucc
      rw [← Hhout.out] at hsucc
      have Hready := hid hready
      have Hnot := hid hnot
      have Hsucc := hid hsucc
      clear hready hnot hsucc
      go_wp2_with fail
      go_loopw [6, 8] (fun s6 s8 wi => ∃ k : Nat, k ≤ k0 ∧ s6 = .slice la j lc ∧ s8 = .int .i64 (k : Int) ∧ Below wo.heap.size wo wi) (fun _ s8 _ => k0 + 1 - (intOf s8).toNat)
      case atStart => exact ⟨0, Nat.zero_le _, rfl, rfl, Below.refl _ _⟩
      case round =>
        obtain ⟨k, hk, rfl, rfl, hbk⟩ := hrel
        have Hbk := hid hbk
        have hkn : k < n := by omega
        have hst := Hst.out.later hbk
        have t0 : wr.cell? ⟨TB, k, none⟩ = some (.bool (s.getD k true)) := hst.at (by rw [List.getElem?_map, List.getD_eq_getElem?_getD, List.getElem?_eq_getElem (by rw [Hsl.out]; exact hkn)]; rfl)
        have zT : TB < wr.heap.size := cell_lt t0
        have i0 : (0 : Int) ≤ (k : Int) := by omega
        have i1 : (k : Int) < (n : Int) := by omega
        obtain ⟨wk, hwk⟩ : ∃ wk : World, wk = wr := ⟨_, rfl⟩
        subst hwk
        have Hr0 : Hid (rdyUp A r s k 0 = !(s.getD k true)) := rdyUp_zero A r s k
        obtain ⟨sk, hsk⟩ : ∃ sk, sk = s.getD k true := ⟨_, rfl⟩
        rw [← hsk] at t0 Hr0
        clear hbk hst hsk
        go_wp2_with fail
        go_loopw [9, 10] (fun s9 s10 wi => ∃ x : Nat, x ≤ n ∧ s9 = .bool (rdyUp A r s k x) ∧ s10 = .int .i64 (x : Int) ∧ Below wk.heap.size wk wi) (fun _ s10 _ => n - (intOf s10).toNat)
        case atStart => exact ⟨0, Nat.zero_le _, by rw [Hr0.out], rfl, Below.refl _ _⟩
        case round =>
          obtain ⟨x, hx, rfl, rfl, hbx⟩ := hrel
          have Hbx := hid hbx
          have Hbo : Hid (Below wo.heap.size wo wr) := Hbk.out.trans (hbx.mono Hbk.out.size)
          have hst := Hst.out.later Hbo.out
          have Hst2 := hid hst
          by_cases hxn : x < n
          · have u0 := hst.cellOf U0.out hUT
            have u1 := hst.cellOf U1.out hUT
            have t1 : wr.cell? ⟨TB, x, none⟩ = some (.bool (s.getD x true)) := hst.at (by rw [List.getElem?_map, List.getD_eq_getElem?_getD, List.getElem?_eq_getElem (by rw [Hsl.out]; exact hxn)]; rfl)
            obtain ⟨rb, roff, rae, rx⟩ := int_at9 (hst.sl rInt_mono HRT.out Hrs.out) (t := x) (by rw [show (ringsF A n).length = n by simp [ringsF]]; exact hxn)
            obtain ⟨rb', roff', rae', rk⟩ := int_at9 (hst.sl rInt_mono HRT.out Hrs.out) (t := k) (by rw [show (ringsF A n).length = n by simp [ringsF]]; exact hkn)
            rw [rae] at rae'
            injection rae' with rae'
            injection rae' with h1 h2 h3
            subst h1
            subst h2
            have hvx := Hrx.out x hxn
            have hvk := Hrx.out k hkn
            rw [List.getElem?_eq_getElem (by rw [show (ringsF A n).length = n by simp [ringsF]]; exact hxn)] at hvx
            rw [List.getElem?_eq_getElem (by rw [show (ringsF A n).length = n by simp [ringsF]]; exact hkn)] at hvk
            rw [Option.some.inj hvx] at rx
            rw [Option.some.inj hvk] at rk
            obtain ⟨vx, hvxe⟩ : ∃ vx : Int, vx = ((r x : Nat) : Int) := ⟨_, rfl⟩
            obtain ⟨vk, hvke⟩ : ∃ vk : Int, vk = ((r k : Nat) : Int) := ⟨_, rfl⟩
            rw [← hvxe] at rx
            rw [← hvke] at rk
            subst rae
            obtain ⟨cb, hcb⟩ : ∃ cb, cb = A k x := ⟨_, rfl⟩
            obtain ⟨sx, hsx⟩ : ∃ sx, sx = s.getD x true := ⟨_, rfl⟩
            obtain ⟨rd, hrd⟩ : ∃ rd, rd = rdyUp A r s k x := ⟨_, rfl⟩
            have Hsucc2 : Hid (rdyUp A r s k (x + 1) = (rd && !(cb && !sx && decide (vx ≠ vk)))) := by
              show _ = _
              rw [rdyUp_succ, ← hcb, ← hsx, ← hrd, hvxe, hvke]
              congr 3
              rw [Bool.eq_iff_iff]
              simp
              omega
            rw [← hsx] at t1
            rw [← hrd]
            have hone : ∀ V, Below wr.heap.size wr V → Calls Tryd.prog 117 #[.agg #[.slice ga gn gc, .slice fa n fc], .int .i64 (k : Int), .int .i64 (x : Int)] V fun e w' => e = .returned (.bool cb) ∧ Below V.heap.size V w' := fun V hV => by
              have h := callsOne_any (S := S) (.slice ga gn gc) ga gn gc rfl fa fc fs k x V (by rw [Hn.out]; exact (Hst2.out.later hV).sl rFunc_mono HST.out Hf2.out) (by rw [Hn.out]; exact hkn) (by omega) (Hsm.out k hkn)
              rw [Hn.out, ← HA.out, ← hcb] at h
              exact h
            have Hone := hid hone
            have hS0 : ∀ V, Below wr.heap.size wr V → V.cell? ⟨UB, 0, none⟩ = some (.slice ga gn gc) ∧ V.cell? ⟨UB, 1, none⟩ = some (.slice fa n fc) ∧ V.cell? ⟨TB, x, none⟩ = some (.bool sx) ∧ V.cell? ⟨rb, roff + x, none⟩ = some (.int .i64 vx) ∧ V.cell? ⟨rb, roff + k, none⟩ = some (.int .i64 vk) := fun V hV => ⟨cell_later' u0 hV, cell_later' u1 hV, cell_later' t1 hV, cell_later' rx hV, cell_later' rk hV⟩
            have HS0 := hid hS0
            have i2 : (0 : Int) ≤ (x : Int) := by omega
            have i3 : (x : Int) < (n : Int) := by omega
            clear hst hvx hvk hvxe hvke hcb hsx hrd hone hS0 h3 t0 u0 u1 t1 rx rk hbx
            have main : ∀ (cond : Bool), cond = (rd && cb && !sx && decide (vx ≠ vk)) → rdyUp A r s k (x + 1) = if cond = true then false else rd := fun cond h => by
              rw [Hsucc2.out, h]
              cases rd <;> cases cb <;> cases sx <;> cases decide (vx ≠ vk) <;> rfl
            have Hmain := hid main
            clear main
            have HcW : Hid (∀ m d os, CallsIn Fence.wide m Tryd.prog 117 #[.agg #[.slice ga gn gc, .slice fa n fc], .int .i64 (k : Int), .int .i64 (x : Int)] (grow (redrawn wr d) os) fun e w'' => e = .returned (.bool cb) ∧ ∃ p : Regrown, w'' = grow (redrawn wr p.d) p.os) := fun m d os =>
              CallsIn.regrown_of (callsIn_wide (n := m).2 (Hone.out _ (below_regrown wr d os)))
            cases rd with
            | false =>
              have Hm := hid (Hmain.out false (by first | rfl | simp [q1] | simp))
              go_wp2_with fail
              obtain ⟨s0, s1, s2, s3, s4⟩ := HS0.out _ (Below.refl _ _)
              have k0 := cell_regrown s0
              have k1 := cell_regrown s1
              have k2 := cell_regrown s2
              have k3 := cell_regrown s3
              have k4 := cell_regrown s4
              clear s0 s1 s2 s3 s4
              refine wp_region_quiet_open (by kernel_rfl) (by kernel_rfl) ?_
              repeat (gi_big_quiet_step (fail))
              refine wpQuietIn_step (fun _ _ _ _ => trivial) (fun K hK => ?_)
              go_simp
              refine hK _ ?_
              clear hK K
              repeat (gi_big_quiet_step (fail))
              refine wpQuietIn_nil ?_
              intro W' hw'
              obtain ⟨rg, hrg⟩ := hw'
              have hbg : Below wr.heap.size wr W' := by rw [hrg]; exact below_regrown _ _ _
              clear hrg k0 k1 k2 k3 k4
              go_wp2_with fail
              go_roundw
              case rel => exact ⟨x + 1, by omega, by rw [Hm.out]; rfl, by go_num, Hbx.out.trans (hbg.mono Hbx.out.size)⟩
              case measure => simp [intOf]; omega
            | true =>
              cases cb with
              | false =>
                have Hm := hid (Hmain.out false (by first | rfl | simp [q1] | simp))
                go_wp2_with fail
                obtain ⟨s0, s1, s2, s3, s4⟩ := HS0.out _ (Below.refl _ _)
                have k0 := cell_regrown s0
                have k1 := cell_regrown s1
                have k2 := cell_regrown s2
                have k3 := cell_regrown s3
                have k4 := cell_regrown s4
                clear s0 s1 s2 s3 s4
                refine wp_region_quiet_open (by kernel_rfl) (by kernel_rfl) ?_
                repeat (gi_big_quiet_step (fail))
                refine wpQuietIn_step (fun _ _ _ _ => trivial) (fun K hK => ?_)
                go_simp
                refine ⟨_, fun _ => HcW.out _ _ _, hK _ ?_⟩
                clear hK K
                repeat (gi_big_quiet_step (fail))
                refine wpQuietIn_nil ?_
                intro W' hw'
                obtain ⟨rg, hrg⟩ := hw'
                have hbg : Below wr.heap.size wr W' := by rw [hrg]; exact below_regrown _ _ _
                clear hrg k0 k1 k2 k3 k4
                go_wp2_with fail
                go_roundw
                case rel => exact ⟨x + 1, by omega, by rw [Hm.out]; rfl, by go_num, Hbx.out.trans (hbg.mono Hbx.out.size)⟩
                case measure => simp [intOf]; omega
              | true =>
                cases sx with
                | true =>
                  have Hm := hid (Hmain.out false (by first | rfl | simp [q1] | simp))
                  go_wp2_with fail
                  obtain ⟨s0, s1, s2, s3, s4⟩ := HS0.out _ (Below.refl _ _)
                  have k0 := cell_regrown s0
                  have k1 := cell_regrown s1
                  have k2 := cell_regrown s2
                  have k3 := cell_regrown s3
                  have k4 := cell_regrown s4
                  clear s0 s1 s2 s3 s4
                  refine wp_region_quiet_open (by kernel_rfl) (by kernel_rfl) ?_
                  repeat (gi_big_quiet_step (fail))
                  refine wpQuietIn_step (fun _ _ _ _ => trivial) (fun K hK => ?_)
                  go_simp
                  refine ⟨_, fun _ => HcW.out _ _ _, hK _ ?_⟩
                  clear hK K
                  repeat (gi_big_quiet_step (fail))
                  refine wpQuietIn_nil ?_
                  intro W' hw'
                  obtain ⟨rg, hrg⟩ := hw'
                  have hbg : Below wr.heap.size wr W' := by rw [hrg]; exact below_regrown _ _ _
                  clear hrg k0 k1 k2 k3 k4
                  go_wp2_with fail
                  go_roundw
                  case rel => exact ⟨x + 1, by omega, by rw [Hm.out]; rfl, by go_num, Hbx.out.trans (hbg.mono Hbx.out.size)⟩
                  case measure => simp [intOf]; omega
                | false =>
                  by_cases hv : vx = vk
                  · have q0 : (decide (vx < vk) || decide (vk < vx)) = false := ne_no hv
                    have q1 : decide (vx ≠ vk) = false := by simp [hv]
                    clear hv
                    have Hm := hid (Hmain.out false (by first | rfl | simp [q1] | simp))
                    go_wp2_with fail
                    obtain ⟨s0, s1, s2, s3, s4⟩ := HS0.out _ (Below.refl _ _)
                    have k0 := cell_regrown s0
                    have k1 := cell_regrown s1
                    have k2 := cell_regrown s2
                    have k3 := cell_regrown s3
                    have k4 := cell_regrown s4
                    clear s0 s1 s2 s3 s4
                    refine wp_region_quiet_open (by kernel_rfl) (by kernel_rfl) ?_
                    repeat (gi_big_quiet_step (fail))
                    refine wpQuietIn_step (fun _ _ _ _ => trivial) (fun K hK => ?_)
                    go_simp
                    refine ⟨_, fun _ => HcW.out _ _ _, hK _ ?_⟩
                    clear hK K
                    repeat (gi_big_quiet_step (fail))
                    refine wpQuietIn_nil ?_
                    intro W' hw'
                    obtain ⟨rg, hrg⟩ := hw'
                    have hbg : Below wr.heap.size wr W' := by rw [hrg]; exact below_regrown _ _ _
                    clear hrg k0 k1 k2 k3 k4
                    go_wp2_with fail
                    go_roundw
                    case rel => exact ⟨x + 1, by omega, by rw [Hm.out]; rfl, by go_num, Hbx.out.trans (hbg.mono Hbx.out.size)⟩
                    case measure => simp [intOf]; omega
                  · have q0 : (decide (vx < vk) || decide (vk < vx)) = true := ne_yes hv
                    have q1 : decide (vx ≠ vk) = true := by simp [hv]
                    clear hv
                    have Hm := hid (Hmain.out true (by first | rfl | simp [q1] | simp))
                    go_wp2_with fail
                    obtain ⟨s0, s1, s2, s3, s4⟩ := HS0.out _ (Below.refl _ _)
                    have k0 := cell_regrown s0
                    have k1 := cell_regrown s1
                    have k2 := cell_regrown s2
                    have k3 := cell_regrown s3
                    have k4 := cell_regrown s4
                    clear s0 s1 s2 s3 s4
                    refine wp_region_quiet_open (by kernel_rfl) (by kernel_rfl) ?_
                    repeat (gi_big_quiet_step (fail))
                    refine wpQuietIn_step (fun _ _ _ _ => trivial) (fun K hK => ?_)
                    go_simp
                    refine ⟨_, fun _ => HcW.out _ _ _, hK _ ?_⟩
                    clear hK K
                    repeat (gi_big_quiet_step (fail))
                    refine wpQuietIn_nil ?_
                    intro W' hw'
                    obtain ⟨rg, hrg⟩ := hw'
                    have hbg : Below wr.heap.size wr W' := by rw [hrg]; exact below_regrown _ _ _
                    clear hrg k0 k1 k2 k3 k4
                    go_wp2_with fail
                    go_roundw
                    case rel => exact ⟨x + 1, by omega, by rw [Hm.out]; rfl, by go_num, Hbx.out.trans (hbg.mono Hbx.out.size)⟩
                    case measure => simp [intOf]; omega
          · have hxn' : x = n := by omega
            have t0 : wr.cell? ⟨TB, k, none⟩ = some (.bool (s.getD k true)) := hst.at (by rw [List.getElem?_map, List.getD_eq_getElem?_getD, List.getElem?_eq_getElem (by rw [Hsl.out]; exact hkn)]; rfl)
            have f0 := hst.fz k
            have zTr : TB < wr.heap.size := cell_lt t0
            obtain ⟨sk', hsk'⟩ : ∃ sk', sk' = s.getD k true := ⟨_, rfl⟩
            rw [← hsk'] at t0
            obtain ⟨rd, hrd⟩ : ∃ rd, rd = rdyUp A r s k x := ⟨_, rfl⟩
            rw [← hrd]
            have hrdy : rd = readyF A r n s k := by rw [hrd, hxn']; rfl
            rw [hxn']
            clear hst hbx hsk' hrd hxn hxn' Hr0
            by_cases hkk : k = k0
            · subst hkk
              rw [Hready.out] at hrdy
              subst hrdy
              have hz2 := Hbo.out.size
              have hz3 := Hst.out.size
              go_wp2_with (at_builtin; refine wpList_append_ints rfl _ _ rfl W2.heap.size (.slice la j lc) out rfl ?_ _ _ _ [(k : Int)] rfl (S := fun _ => True) ?_ rfl ?_ ?_ ?_)
              · exact OwnInts.later ⟨ownsRow_setCell_below (a := ⟨TB, k, none⟩) (Hown.out.later Hbo.out).1 zT2 _, Hown.out.2⟩ (by (repeat (first | exact Below.refl _ _ | refine Below.alloc ?_ (by first | omega | (simp <;> omega)) _ | refine Below.setCell ?_ (by first | omega | (simp <;> omega)) _ | refine below_drewN ?_ _ | refine Below.drew ?_)))
              · have h := one_sl (wr.setCell ⟨TB, k, none⟩ (.bool true)) (k : Int) (by unfold I64; omega)
                rw [show (wr.setCell ⟨TB, k, none⟩ (.bool true)).heap.size = wr.heap.size by simp [World.setCell]] at h
                exact h
              · rw [Hol.out]; simp; omega
              · simp; omega
              · intro v6 w6 hown6 hgr6
                have Hown6 := hid hown6
                have hst6 : RowSt W2 w6 TB 4 ((s.set k true).map Value.bool) := by
                  have h := (Hst.out.later Hbo.out).set k (.bool true)
                  rw [← List.map_set] at h
                  refine (h.later (W' := (wr.setCell ⟨TB, k, none⟩ (.bool true)).alloc (.cells #[.int .i64 (k : Int)] 3)) (by (repeat (first | exact Below.refl _ _ | refine Below.alloc ?_ (by first | omega | (simp <;> omega)) _ | refine Below.setCell ?_ (by first | omega | (simp <;> omega)) _ | refine below_drewN ?_ _ | refine Below.drew ?_)))).grown hgr6 (fun g hg => ?_)
                  have := (own_ge Hown.out hg).1
                  exact ⟨this, by omega⟩
                have Hst6 := hid hst6
                obtain ⟨a6, c6, h6⟩ := hown6.shape
                rw [show (out ++ [(k : Int)]).length = j + 1 by simp [Hol.out]] at h6
                subst h6
                clear hown6 hst6 hgr6 t0 f0 zTr
                go_wp2_with fail
                go_roundw
                case rel => exact ⟨j + 1, _, rfl, by omega, by go_num, by rw [Hsucc.out]; exact Hst6.out, by rw [Hsucc.out]; exact Hown6.out⟩
                case measure => simp [intOf]; omega
            · rw [Hnot.out k (by omega)] at hrdy
              subst hrdy
              clear t0 f0
              go_wp2_with fail
              go_roundw
              case rel => exact ⟨k + 1, by omega, rfl, by go_num, Hbo.out⟩
              case measure => simp [intOf]; omega
    · have hjn' : j = n := by omega
      have He : Hid (out = ordF A r n) := by show _ = _; rw [Hhout.out, hjn']; rfl
      have Hb := hid (Hst.out.below Hw2.out HwT.out)
      have hown2 : OwnInts W2.heap.size wo (.slice la n lc) out := by have h := Hown.out; rw [hjn'] at h; exact h
      have Hown2 := hid hown2
      rw [hjn']
      clear hjn hjn' hown2
      go_wp2_with fail
      go_ret
      refine ⟨_, rfl, ?_, Hb.out⟩
      have e := He.out
      rw [Hr.out, HA.out] at e
      rw [← e]
      exact Hown2.out.low Hwz.out

end Go.Proofs.YtaehkcnankijfaaDoor
