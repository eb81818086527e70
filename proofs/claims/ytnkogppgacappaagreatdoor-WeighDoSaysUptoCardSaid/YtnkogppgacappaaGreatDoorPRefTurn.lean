/- turneryref6.WeighTurn: the document's function with its blocks in another order. -/
import Derived.Test.YtnkogppgacappaaGreatDoorPTurn
import Derived.Test.YtnkogppgacappaaGreatDoorPRefT1
import Derived.Test.YtnkogppgacappaaGreatDoorPRest0
import Derived.Deep.RegionHeld3
import Derived.Deep.DeepCutAuto
namespace Go.Proofs.YtnkogppgacappaaGreatDoor
open Go.RowKit

theorem unrollAhead_at {S : Nat → Prop} (nm : ByteArray) (p r : Int) (ba : Option Addr) (bc : Nat) (bs : List DBlock) (n t : Nat) (w : World) (hb : SlAt S w 6 rBlock (.slice ba n bc) bs) (hbn : bs.length = n) (hn : n ≤ 40) (ht : t ≤ 40) (hto : ∀ x ∈ bs, x.fin.to.length ≤ 2)
    (L : List Int) (hL : predsOf bs 0 t = L) (m : Nat) (hm : L.length = m) :
    Calls Tryz.prog 61 #[.agg #[.string nm, .int .i64 p, .int .i64 r, .slice ba n bc], .int .i64 t] w fun e w' =>
      ∃ a c, e = .returned (.slice a m c) ∧ SlAt (iv (w.heap.size + 1) w'.heap.size) w' 1 rInt (.slice a m c) L ∧ Below w.heap.size w w' := by
  subst hbn hL hm
  refine (unrollAhead_any (S := S) nm p r ba bc bs t w hb (by omega) (by omega) hto).mono ?_
  rintro e w' ⟨v, rfl, ho, hb'⟩
  obtain ⟨a, c, rfl⟩ := ho.shape
  exact ⟨a, c, rfl, ho.toSl rInt_mono (by decide), hb'⟩

set_option maxRecDepth 100000 in
set_option maxHeartbeats 8000000 in
theorem refTurn_any {S S'' : Nat → Prop} (nm : ByteArray) (p r : Int) (ba : Option Addr) (bc : Nat) (bs : List DBlock) (oa : Option Addr) (oc : Nat) (ord : List Nat) (n : Nat) (w : World)
    (hb : SlAt S w 6 rBlock (.slice ba n bc) bs) (ho : SlAt S'' w 1 rInt (.slice oa n oc) (ord.map (fun b : Nat => (b : Int))))
    (hn0 : 0 < n) (hn : n ≤ 40) (hbn : bs.length = n) (hpm : Perm ord n) (hsm : ∀ x ∈ bs, SmallB x) (hfl : Flow bs n)
    (hto : ∀ (k : Nat) (x : DBlock), bs[k]? = some x → x.fin.to.length ≤ 2 ∧ ∀ t ∈ x.fin.to, 0 ≤ t ∧ t < (bs.length : Int)) (hphi : ∀ (b : Nat) (x : DBlock), bs[b]? = some x → ∀ q ∈ x.phis, q.src.length = (predsOf bs 0 b).length) :
    Calls Tryz.prog 32 #[.agg #[.string nm, .int .i64 p, .int .i64 r, .slice ba n bc], .slice oa n oc] w fun e w' =>
      ∃ a c, e = .returned (.agg #[.string nm, .int .i64 p, .int .i64 r, .slice a n c]) ∧ SlAt (iv w.heap.size w'.heap.size) w' 6 rBlock (.slice a n c) (turnL bs ord) ∧ Below w.heap.size w w' := by
  have hon := hpm.len
  have hinj : ∀ i j (hi : i < ord.length) (hj : j < ord.length), ord[i] = ord[j] → i = j := fun i j hi hj he => by
    have h1 := hpm.at hi
    have h2 := hpm.at hj
    rw [← h1, ← h2, he]
  have hml : (ord.map (fun b : Nat => (b : Int))).length = n := by simp [hon]
  have Hb := hid hb
  have Ho := hid ho
  have Hbn := hid hbn
  have Hon := hid hon
  have Hlt := hid hpm.lt
  have Hinj := hid hinj
  have Hall := hid hpm.all
  have Hpm := hid hpm
  have Hfl := hid hfl
  have Hsm := hid hsm
  have Hto := hid hto
  have Hphi := hid hphi
  have Hml := hid hml
  obtain ⟨ob, ooff, hoa, -⟩ := int_at ho (t := 0) (by omega)
  subst hoa
  obtain ⟨bb, boff, bcs, hba, -⟩ := hb.get (k := 0) (by omega)
  subst hba
  obtain ⟨ivv, hivv, hvz0, hvz1, hvz2⟩ := info_parts infoVal
  obtain ⟨ib, hib, hbz0, hbz1, hbz2⟩ := info_parts infoBlock
  have hmk := run_make_row' (P := Tryz.prog) 33 3 (.int .i64 0) 8 Tryz.underlying33 infoInt rfl .i64 .i64 n (by omega) (by omega)
  clear hb ho hbn hon hinj hpm hfl hsm hto hphi hml
  go_enter Tryz.func32, Tryz.ntmps32
  go_wp2_with fail
  obtain ⟨Wb, hWb⟩ : ∃ Wb, Wb = (w.alloc (.cells #[.string nm, .int .i64 p, .int .i64 r, .slice (some ⟨bb, boff, none⟩) n bc] 38)).alloc (.cells #[.string ⟨#[]⟩, .int .i64 0, .int .i64 0, .slice none 0 0] 38) := ⟨_, rfl⟩
  obtain ⟨W3, hW3⟩ : ∃ W3, W3 = Wb.alloc (.cells (madeCells #[.int .i64 0] n) 3) := ⟨_, rfl⟩
  have hWbs : Wb.heap.size = w.heap.size + 2 := by rw [hWb]; simp
  have hbWb : Below w.heap.size w Wb := by rw [hWb]; (repeat (first | exact Below.refl _ _ | refine Below.alloc ?_ (by first | omega | (simp <;> omega)) _ | refine Below.setCell ?_ (by first | omega | (simp <;> omega)) _ | refine below_drewN ?_ _ | refine Below.drew ?_))
  have B0 : CellsAt Wb w.heap.size 0 [.string nm, .int .i64 p, .int .i64 r, .slice (some ⟨bb, boff, none⟩) n bc] := by
    intro j u hj; rw [hWb, Nat.zero_add, World.cell?_alloc2_first]; simpa using hj
  have B1 : CellsAt Wb (w.heap.size + 1) 0 [.string ⟨#[]⟩, .int .i64 0, .int .i64 0, .slice none 0 0] := by
    intro j u hj; rw [hWb, Nat.zero_add, World.cell?_alloc2_new]; simpa using hj
  have F1 : ∀ j, Wb.frozen? ⟨w.heap.size + 1, j, none⟩ = false := by intro j; rw [hWb]; simp
  have hst : AtSt w Wb W3 (w.heap.size + 2) n ord 0 := by
    rw [hW3]
    refine ⟨?_, ?_, by (repeat (first | exact Below.refl _ _ | refine Below.alloc ?_ (by first | omega | (simp <;> omega)) _ | refine Below.setCell ?_ (by first | omega | (simp <;> omega)) _ | refine below_drewN ?_ _ | refine Below.drew ?_))⟩
    · have h := World.rowIs_made Wb (.int .i64 0) n 3
      rw [hWbs] at h
      exact h.congr (fun y hy => by simp [atF, hadB])
    · exact hbWb.alloc (by omega) _
  rw [← hWb]
  have Hst := hid hst
  have HWbs := hid hWbs
  have HB0 := hid B0
  have HB1 := hid B1
  have HF1 := hid F1
  have HbWb := hid hbWb
  (try rw [← hW3])
  obtain ⟨H, hH⟩ : ∃ H, H = w.heap.size + 1 + 1 := ⟨_, rfl⟩
  rw [← hH]
  have Hst : Hid (AtSt w Wb W3 H n ord 0) := by have h := Hst.out; rw [show w.heap.size + 2 = H by omega] at h; exact h
  have HH := hid hH
  clear hW3 hWb hWbs hbWb B0 B1 F1 hst hH hmk
  go_loopw [6] (fun i wr => ∃ (k : Nat), k ≤ n ∧ i = .int .i64 k ∧ AtSt w Wb wr H n ord k) (fun i _ => n - (intOf i).toNat)
  case atStart => exact ⟨0, Nat.zero_le _, rfl, Hst.out⟩
  case round =>
    obtain ⟨k, hk, rfl, hs⟩ := hrel
    have Hs := hid hs
    by_cases hkn : k < n
    · have hko : k < ord.length := by rw [Hon.out]; exact hkn
      obtain ⟨b', off', hab, c1⟩ := int_at (Ho.out.later rInt_mono hs.below) (t := k) (by rw [Hml.out]; exact hkn)
      cases hab
      rw [List.getElem_map] at c1
      obtain ⟨x, hx⟩ : ∃ x, ord[k] = x := ⟨_, rfl⟩
      have hxn : x < n := by rw [← hx]; exact Hlt.out _ (List.getElem_mem _)
      have hstep : Hid (∀ y, atF ord (k + 1) y = if y = x then k else atF ord k y) := fun y => by rw [← hx]; exact atF_step' Hinj.out hko y
      rw [hx] at c1
      have c2 := hs.at_.cell hxn
      have f2 := hs.at_.frozen x
      have hbH : ob < wr.heap.size := cell_lt c1
      have hHw : H < wr.heap.size := hs.at_.lt
      clear hs hx
      go_wp2_with fail
      go_roundw
      case rel => exact ⟨k + 1, by omega, by go_num, Hs.out.next (by have := HH.out; omega) (by have := HH.out; have := HWbs.out; omega) hstep.out⟩
      case measure => simp [intOf]; omega
    · have hkn' : k = n := by omega
      obtain ⟨W4, hW4⟩ : ∃ W4, W4 = wr := ⟨_, rfl⟩
      rw [← hW4] at Hs ⊢
      have Hs4 : Hid (AtSt w Wb W4 H n ord n) := by have h := Hs.out; rw [hkn'] at h; exact h
      obtain ⟨b0, b1, b2, b3⟩ := (HB0.out.later Hs4.out.old).get4
      simp only [Nat.zero_add] at b1 b2 b3
      have zw : w.heap.size < W4.heap.size := cell_lt b0
      have zH : H < W4.heap.size := Hs4.out.at_.lt
      have hb4 := Hs4.out.below
      have HB40 := hid (HB0.out.later Hs4.out.old)
      have HB41 := hid (HB1.out.later Hs4.out.old)
      have HF41 : Hid (∀ j, W4.frozen? ⟨w.heap.size + 1, j, none⟩ = false) := fun j => (Hs4.out.old.frozen (p := ⟨w.heap.size + 1, j, none⟩) (by have := HWbs.out; dsimp only; omega)).trans (HF1.out j)
      have Hb4 := hid hb4
      have Hkn' := hid hkn'
      clear hs Hs hW4 hkn' hk hb4
      go_wp2_with fail
      obtain ⟨W6, hW6⟩ : ∃ W6, W6 = W4.alloc (.cells #[.string nm, .int .i64 p, .int .i64 r, .slice none 0 0] 38) := ⟨_, rfl⟩
      have hs6 : W6.heap.size = W4.heap.size + 1 := by rw [hW6]; simp
      have hb46 : Below W4.heap.size W4 W6 := by rw [hW6]; (repeat (first | exact Below.refl _ _ | refine Below.alloc ?_ (by first | omega | (simp <;> omega)) _ | refine Below.setCell ?_ (by first | omega | (simp <;> omega)) _ | refine below_drewN ?_ _ | refine Below.drew ?_))
      have BO : CellsAt W6 W4.heap.size 0 [.string nm, .int .i64 p, .int .i64 r, .slice none 0 0] := by
        intro j u hj; rw [hW6, Nat.zero_add, World.cell?_alloc_new]; simpa using hj
      have FO : ∀ j, W6.frozen? ⟨W4.heap.size, j, none⟩ = false := by intro j; rw [hW6]; simp
      obtain ⟨X, hX⟩ : ∃ X : Nat → DBlock, X = fun j => refX ord (bs.getD (ord.getD j 0) noBlock) := ⟨_, rfl⟩
      rw [← hW6]
      obtain ⟨O, hO⟩ : ∃ O, O = W4.heap.size := ⟨_, rfl⟩
      rw [← hO] at BO FO ⊢
      have hst6 : GSt w W6 W6 O nm p r (.slice none 0 0) X [] (fun _ => 0) (fun _ => 0) 0 :=
        ⟨Hb4.out.trans (hb46.mono (by omega)), Nat.le_refl _, fun _ _ _ => rfl, BO, FO, RG.start _ _ _ _ _⟩
      have Hst6 := hid hst6
      have HX := hid hX
      have HO := hid hO
      have Hs6 := hid hs6
      have Hb46 := hid hb46
      clear hW6 hst6 BO FO hs6 hb46 b0 b1 b2 b3 hX hO
      go_loopw [8] (fun i wr => ∃ (k : Nat) (v : Value) (L : List (List Value)) (A B : Nat → Nat), k ≤ n ∧ i = .int .i64 k ∧ GSt w W6 wr O nm p r v X L A B k) (fun i _ => n - (intOf i).toNat)
      case atStart => exact ⟨0, _, _, _, _, Nat.zero_le _, rfl, Hst6.out⟩
      case round =>
        obtain ⟨k, v, L, A, B, hk, rfl, hs⟩ := hrel
        have Hs := hid hs
        have hnO0 : w.heap.size ≠ O := by have := HO.out; omega
        have hnO1 : w.heap.size + 1 ≠ O := by have := HO.out; have := HH.out; omega
        have hnOH : H ≠ O := by have := HO.out; omega
        have z46 : W4.heap.size ≤ W6.heap.size := Hb46.out.size
        have hzO6 : O < W6.heap.size := by have := HO.out; have := Hs6.out; omega
        have f3 : wr.cell? ⟨w.heap.size, 3, none⟩ = some (.slice (some ⟨bb, boff, none⟩) n bc) := hs.cell (cell_later' (by have h := HB40.out.get4.2.2.2; rw [Nat.zero_add] at h; exact h) Hb46.out) hnO0
        have hzw : w.heap.size < wr.heap.size := cell_lt f3
        by_cases hkn : k < n
        · have hko : k < ord.length := by rw [Hon.out]; exact hkn
          obtain ⟨b', off', hab, c1⟩ := int_at (Ho.out.later rInt_mono hs.below) (t := k) (by rw [Hml.out]; exact hkn)
          cases hab
          rw [List.getElem_map] at c1
          obtain ⟨q, hq⟩ : ∃ q, ord[k] = q := ⟨_, rfl⟩
          have hqn : q < n := by rw [← hq]; exact Hlt.out _ (List.getElem_mem _)
          rw [hq] at c1
          have Hq : Hid (ord[k]? = some q) := by show _ = _; rw [List.getElem?_eq_getElem hko, hq]
          have hqb : q < bs.length := by rw [Hbn.out]; exact hqn
          obtain ⟨b', off', pa, pc, la, lc, ta, tc, hab, hcs, hp, hl, ht, hd1, hd2⟩ := block_at (Hb.out.later rBlock_mono hs.below) hqb
          cases hab
          obtain ⟨y, hy⟩ : ∃ y, y = bs[q] := ⟨_, rfl⟩
          rw [← hy] at hcs hp hl ht hd1 hd2
          obtain ⟨d0, d1, d2, d3, d4, d5⟩ := hcs.get6
          have zb : bb < wr.heap.size := cell_lt d0
          have zo : ob < wr.heap.size := cell_lt c1
          have hsy : SmallB y := by rw [hy]; exact Hsm.out _ (List.getElem_mem hqb)
          have Hy : Hid (bs[q]? = some y) := by show _ = _; rw [List.getElem?_eq_getElem hqb, hy]
          have HXk : Hid (X k = refX ord y) := by
            show _ = _
            rw [HX.out]
            dsimp only
            rw [List.getD_eq_getElem?_getD (l := ord), Hq.out, Option.getD_some, List.getD_eq_getElem?_getD, Hy.out, Option.getD_some]
          have Hsy := hid hsy
          have Hp := hid hp
          have Hl := hid hl
          have Ht := hid ht
          have Hd1 := hid hd1
          have Hd2 := hid hd2
          clear hs hq hcs hy hsy hp hl ht hd1 hd2
          have HS0 : Hid (wr.cell? ⟨w.heap.size, 3, none⟩ = some (.slice (some ⟨bb, boff, none⟩) n bc) ∧ wr.cell? ⟨ob, ooff + k, none⟩ = some (.int .i64 ((q : Nat) : Int)) ∧ wr.cell? ⟨bb, boff + q * 6, none⟩ = some (.slice pa y.phis.length pc) ∧ wr.cell? ⟨bb, boff + q * 6 + 1, none⟩ = some (.slice la y.list.length lc) ∧ wr.cell? ⟨bb, boff + q * 6 + 2, none⟩ = some (.int .i64 y.fin.kind) ∧ wr.cell? ⟨bb, boff + q * 6 + 3, none⟩ = some (.bool y.fin.on.reg) ∧ wr.cell? ⟨bb, boff + q * 6 + 4, none⟩ = some (.int .i64 y.fin.on.n) ∧ wr.cell? ⟨bb, boff + q * 6 + 5, none⟩ = some (.slice ta y.fin.to.length tc)) := ⟨f3, c1, d0, d1, d2, d3, d4, d5⟩
          have HSd : Hid (wr.drew.cell? ⟨w.heap.size, 3, none⟩ = some (.slice (some ⟨bb, boff, none⟩) n bc) ∧ wr.drew.cell? ⟨ob, ooff + k, none⟩ = some (.int .i64 ((q : Nat) : Int)) ∧ wr.drew.cell? ⟨bb, boff + q * 6, none⟩ = some (.slice pa y.phis.length pc) ∧ wr.drew.cell? ⟨bb, boff + q * 6 + 1, none⟩ = some (.slice la y.list.length lc) ∧ wr.drew.cell? ⟨bb, boff + q * 6 + 2, none⟩ = some (.int .i64 y.fin.kind) ∧ wr.drew.cell? ⟨bb, boff + q * 6 + 3, none⟩ = some (.bool y.fin.on.reg) ∧ wr.drew.cell? ⟨bb, boff + q * 6 + 4, none⟩ = some (.int .i64 y.fin.on.n) ∧ wr.drew.cell? ⟨bb, boff + q * 6 + 5, none⟩ = some (.slice ta y.fin.to.length tc)) := HS0.out
          obtain ⟨WA, hWA⟩ : ∃ WA, WA = (wr.alloc (.cells #[.slice none 0 0, .slice none 0 0, .int .i64 0, .bool false, .int .i64 0, .slice none 0 0] 76)).drew := ⟨_, rfl⟩
          have hbA : Below wr.heap.size wr WA := by rw [hWA]; (repeat (first | exact Below.refl _ _ | refine Below.alloc ?_ (by first | omega | (simp <;> omega)) _ | refine Below.setCell ?_ (by first | omega | (simp <;> omega)) _ | refine below_drewN ?_ _ | refine Below.drew ?_))
          have HSA : Hid (WA.cell? ⟨w.heap.size, 3, none⟩ = some (.slice (some ⟨bb, boff, none⟩) n bc) ∧ WA.cell? ⟨ob, ooff + k, none⟩ = some (.int .i64 ((q : Nat) : Int)) ∧ WA.cell? ⟨bb, boff + q * 6, none⟩ = some (.slice pa y.phis.length pc) ∧ WA.cell? ⟨bb, boff + q * 6 + 1, none⟩ = some (.slice la y.list.length lc) ∧ WA.cell? ⟨bb, boff + q * 6 + 2, none⟩ = some (.int .i64 y.fin.kind) ∧ WA.cell? ⟨bb, boff + q * 6 + 3, none⟩ = some (.bool y.fin.on.reg) ∧ WA.cell? ⟨bb, boff + q * 6 + 4, none⟩ = some (.int .i64 y.fin.on.n) ∧ WA.cell? ⟨bb, boff + q * 6 + 5, none⟩ = some (.slice ta y.fin.to.length tc)) := ⟨cell_later' f3 hbA, cell_later' c1 hbA, cell_later' d0 hbA, cell_later' d1 hbA, cell_later' d2 hbA, cell_later' d3 hbA, cell_later' d4 hbA, cell_later' d5 hbA⟩
          have hsA : WA.heap.size = wr.heap.size + 1 := by rw [hWA]; simp
          have hZA : CellsAt WA wr.heap.size 0 [.slice none 0 0, .slice none 0 0, .int .i64 0, .bool false, .int .i64 0, .slice none 0 0] := by
            intro j u hj; rw [hWA, Nat.zero_add]; show World.cell? (wr.alloc _) _ = _; rw [World.cell?_alloc_new]; simpa using hj
          have HFA : Hid (∀ j, WA.frozen? ⟨wr.heap.size, j, none⟩ = false) := by intro j; rw [hWA]; simp
          have HWA := hid hWA
          have HbA := hid hbA
          have HsA := hid hsA
          have HZA := hid hZA
          clear hWA hbA hsA hZA f3 c1 d0 d1 d2 d3 d4 d5
          go_wp2_with fail
          go_cut [9] (fun v9 wc => XCut wr wc v9 y)
          case first =>
            obtain ⟨f3, c1, d0, d1, d2, d3, d4, d5⟩ := HS0.out
            go_region_law
              (first
                | (go_simp; go_at_call 60; (with_reducible refine (cloneBlock_any (S := S) y pa la ta pc lc tc wr.drew (Hp.out.later rPhi_mono (Below.refl wr.heap.size wr).drew) (Hl.out.later rIns_mono (Below.refl wr.heap.size wr).drew) (Ht.out.later rInt_mono (Below.refl wr.heap.size wr).drew) Hsy.out).mono ?_); rintro e w2 ⟨pv, lv, tv, rfl, hbi, hb2'⟩
                   obtain ⟨⟨pa2, pc2, rfl⟩, ⟨la2, lc2, rfl⟩, ⟨ta2, tc2, rfl⟩⟩ := id hbi.shape
                   have hb2 : Below wr.heap.size wr w2 := (Below.refl wr.heap.size wr).drew.trans hb2'
                   have Hcu := hid (XCut.behind hb2 hbi (Nat.le_refl _))
                   clear hb2 hb2' hbi f3 c1 d0 d1 d2 d3 d4 d5)
                | (go_simp; rw [← HWA.out]; go_at_call 60; (with_reducible refine (cloneBlock_any (S := S) y pa la ta pc lc tc WA (Hp.out.later rPhi_mono HbA.out) (Hl.out.later rIns_mono HbA.out) (Ht.out.later rInt_mono HbA.out) Hsy.out).mono ?_); rintro e w2 ⟨pv, lv, tv, rfl, hbi, hb2'⟩
                   obtain ⟨⟨pa2, pc2, rfl⟩, ⟨la2, lc2, rfl⟩, ⟨ta2, tc2, rfl⟩⟩ := id hbi.shape
                   have hb2 : Below wr.heap.size wr w2 := HbA.out.trans (hb2'.mono (by have := HsA.out; omega))
                   have hz2 := HZA.out.later hb2'
                   have Hcu := hid (XCut.ahead hb2 hz2 hbi (by have := HsA.out; omega))
                   obtain ⟨q0, q1, q2, q3, q4, q5⟩ := hz2.get6
                   simp only [Nat.zero_add] at q1 q2 q3 q4 q5
                   have hzA : wr.heap.size < WA.heap.size := by have := HsA.out; omega
                   have hfz : ∀ j, w2.frozen? ⟨wr.heap.size, j, none⟩ = false := fun j => (hb2'.frozen (p := ⟨wr.heap.size, j, none⟩) hzA).trans (HFA.out j)
                   have p0 := hfz 0
                   have p1 := hfz 1
                   have p2 := hfz 2
                   have p3 := hfz 3
                   have p4 := hfz 4
                   have p5 := hfz 5
                   have zq2 : wr.heap.size < w2.heap.size := cell_lt q0
                   clear hb2 hb2' hbi hz2 hfz f3 c1 d0 d1 d2 d3 d4 d5))
            all_goals
              go_wp2_with fail
              go_meet
              first
                | with_reducible exact Hcu.out
                | exact Hcu.out
          case rest =>
          obtain ⟨xb, lo, hi, pv, lv, tv, rfl, hb07, XB, hbi, hlh, hxb, hxo⟩ := hcut
          obtain ⟨⟨pa2, pc2, rfl⟩, ⟨la2, lc2, rfl⟩, ⟨ta2, tc2, rfl⟩⟩ := hbi.shape
          obtain ⟨W7, hW7⟩ : ∃ W7, W7 = wc := ⟨_, rfl⟩
          subst hW7
          have x5 : W7.cell? ⟨xb, 5, none⟩ = some (.slice ta2 y.fin.to.length tc2) := by have h := XB.get6.2.2.2.2.2; rw [Nat.zero_add] at h; exact h
          have zx : xb < W7.heap.size := hxb.2
          have hlo1 : wr.heap.size ≤ lo := hlh.1
          have hhi1 : hi ≤ W7.heap.size := hlh.2
          have hxb1 : wr.heap.size ≤ xb := hxb.1
          have Hbi := hid hbi
          have HXB := hid XB
          have Hb07 := hid hb07
          have Hxo := hid hxo
          clear hbi XB hb07 hlh hxb hxo
          go_wp2_with fail
          clear x5
          obtain ⟨wo, hwo⟩ : ∃ wo : World, wo = wr := ⟨_, rfl⟩
          subst hwo
          go_loopw [10] (fun i wi => ∃ (t : Nat), t ≤ y.fin.to.length ∧ i = .int .i64 t ∧ ToSt W7 wi (.slice ta2 y.fin.to.length tc2) y.fin.to ord t) (fun i _ => y.fin.to.length - (intOf i).toNat)
          case atStart =>
            refine ⟨0, Nat.zero_le _, rfl, ?_⟩
            obtain ⟨a1, b1, a2, b2, a3, b3, k1, k2, k3, -, -, -, o1, o2, o3⟩ := Hbi.out
            exact ⟨⟨rfl, rfl, rfl, Nat.le_refl _, fun _ _ _ => rfl⟩, rfl, fun T hT j hj => by rw [if_neg (Nat.not_lt_zero _)]; exact (o3.ints T hT).2.2.1 j hj, fun T j hT => (o3.ints T hT).2.2.2 j⟩
          case round =>
            obtain ⟨t, htt, rfl, hts⟩ := hrel
            have htb : y.fin.to.length ≤ 1048576 := Hsy.out.to
            have Hts := hid hts
            have hTr : Hid (∀ T, (Value.slice ta2 y.fin.to.length tc2).ownBlock = some T → lo ≤ T ∧ T < hi) := fun T hT => by
              obtain ⟨a1, b1, a2, b2, a3, b3, k1, k2, k3, -, -, -, o1, o2, o3⟩ := Hbi.out
              have h := (o3.ints T hT).1
              omega
            have x5 : wr.cell? ⟨xb, 5, none⟩ = some (.slice ta2 y.fin.to.length tc2) := by
              rw [World.cell?_of_block (w := W7) (a := ⟨xb, 5, none⟩) (hts.grow.block _ zx (fun e => Hxo.out (hTr.out _ e.symm)))]
              have h := HXB.out.get6.2.2.2.2.2; rw [Nat.zero_add] at h; exact h
            have zx2 : xb < wr.heap.size := cell_lt x5
            by_cases htl : t < y.fin.to.length
            · obtain ⟨T, hta⟩ : ∃ T, ta2 = some ⟨T, 0, none⟩ := by
                obtain ⟨a1, b1, a2, b2, a3, b3, k1, k2, k3, -, -, -, o1, o2, o3⟩ := Hbi.out
                obtain ⟨xss, h1, -⟩ := o3
                rcases h1.2 with ⟨e, h0⟩ | ⟨g, cap, cur, e, -⟩
                · omega
                · cases e; exact ⟨_, rfl⟩
              subst hta
              have hT : (Value.slice (some ⟨T, 0, none⟩) y.fin.to.length tc2).ownBlock = some T := rfl
              obtain ⟨hT1, hT2⟩ := hTr.out T hT
              have c1 := hts.cells T hT t htl
              rw [if_neg (Nat.lt_irrefl t)] at c1
              have f1 := hts.free T t hT
              have hz := (Hto.out q y Hy.out).2 (y.fin.to[t]'htl) (List.getElem_mem htl)
              obtain ⟨z, hze⟩ := Int.eq_ofNat_of_zero_le hz.1
              have hzn : z < n := by have := Hbn.out; omega
              have hHT : some H ≠ (Value.slice (some ⟨T, 0, none⟩) y.fin.to.length tc2).ownBlock := fun e => by have e' : H = T := Option.some.inj e; have := Hs.out.size; omega
              have c2 : wr.cell? ⟨H, z, none⟩ = some (.int .i64 ((placeOf ord z : Nat) : Int)) := by
                have h1 := Hs4.out.at_.cell hzn
                rw [show atF ord n z = placeOf ord z by have h := atF_place (Hall.out z hzn); rw [Hon.out] at h; exact h] at h1
                have h2 := Hs.out.cell (cell_later' h1 Hb46.out) hnOH
                have h3 := cell_later' h2 Hb07.out
                rw [World.cell?_of_block (w := W7) (a := ⟨H, z, none⟩) (hts.grow.block H (cell_lt h3) hHT)]; exact h3
              have Hnx : Hid (ToSt W7 (wr.setCell ⟨T, t, none⟩ (.int .i64 ((placeOf ord z : Nat) : Int))) (.slice (some ⟨T, 0, none⟩) y.fin.to.length tc2) y.fin.to ord (t + 1)) := hts.next hT htl (by rw [hze, Int.toNat_natCast])
              rw [hze] at c1
              have zT : T < wr.heap.size := cell_lt c1
              have zH2 : H < wr.heap.size := cell_lt c2
              generalize placeOf ord z = pl at c2 Hnx
              clear hts hz hze hT hHT
              go_wp2_with fail
              go_big_region
              all_goals
                go_wp2_with fail
                go_roundw
                case rel => exact ⟨t + 1, by omega, by go_num, by first | exact Hnx.out | exact Hnx.out.drew | exact Hnx.out.drewN _⟩
                case measure => simp [intOf]; omega
            · have htl' : t = y.fin.to.length := by omega
              have Htl := hid htl'
              clear htl'
              have hb08 : Below wo.heap.size wo wr := ⟨hts.grow.os.trans Hb07.out.os, hts.grow.tape.trans Hb07.out.tape, hts.grow.output.trans Hb07.out.output, by have := hts.size; have := Hb07.out.size; omega, fun b hb => by
                rw [hts.grow.block b (by omega) (fun e => by have h9 := (hTr.out _ e.symm).1; omega), Hb07.out.block b hb]⟩
              have Hb08 := hid hb08
              have hx8 : CellsAt wr xb 0 [.slice pa2 y.phis.length pc2, .slice la2 y.list.length lc2, .int .i64 y.fin.kind, .bool y.fin.on.reg, .int .i64 y.fin.on.n, .slice ta2 y.fin.to.length tc2] := fun j u hj => by
                rw [World.cell?_of_block (w := W7) (a := ⟨xb, 0 + j, none⟩) (hts.grow.block _ zx (fun e => Hxo.out (hTr.out _ e.symm)))]
                exact HXB.out j u hj
              obtain ⟨x0, x1, x2, x3, x4, -⟩ := hx8.get6
              simp only [Nat.zero_add] at x1 x2 x3 x4
              have h40 : ord.length ≤ 40 := by rw [Hon.out]; omega
              obtain ⟨a1, b1, hab1, hpv, hlv, htv⟩ := Hbi.out.turned2 hhi1 (by have h := hts; rw [Htl.out] at h; exact h) h40
              have Htb : Hid (TB lo hi wr [.slice pa2 y.phis.length pc2, .slice la2 y.list.length lc2, .int .i64 y.fin.kind, .bool y.fin.on.reg, .int .i64 y.fin.on.n, .slice ta2 y.fin.to.length tc2] (X k)) := by
                show TB _ _ _ _ _
                rw [HXk.out]
                exact ⟨_, _, _, a1, b1, rfl, hab1, hpv, hlv, htv, Hd1.out, Hd2.out⟩
              have Hs8 := hid (Hs.out.later hb08 hzO6)
              have o3 : wr.cell? ⟨O, 3, none⟩ = some v := by have h := Hs8.out.box.get4.2.2.2; rw [Nat.zero_add] at h; exact h
              have y3 := Hs8.out.free 3
              have zOr : O < wr.heap.size := cell_lt o3
              have hLk : L.length = k := Hs8.out.rg.len
              have z6o : W6.heap.size ≤ wo.heap.size := Hs.out.size
              have z8 : wo.heap.size ≤ wr.heap.size := hb08.size
              have zW7 : W7.heap.size ≤ wr.heap.size := by have := hts.size; omega
              clear hts hb08 hx8 hab1 hpv hlv htv
              go_wp2_with (at_builtin; refine wpList_append_Own2 rfl _ _ 36 rfl W6.heap.size 76 ib _ 6 96 Tryz.underlying36 hib hbz0 hbz1 hbz2 rfl (by decide) rRaw_mono v L rfl ?_ ⟨wr.heap.size, 0, none⟩ 1 [.slice pa2 y.phis.length pc2, .slice la2 y.list.length lc2, .int .i64 y.fin.kind, .bool y.fin.on.reg, .int .i64 y.fin.on.n, .slice ta2 y.fin.to.length tc2] [.slice pa2 y.phis.length pc2, .slice la2 y.list.length lc2, .int .i64 y.fin.kind, .bool y.fin.on.reg, .int .i64 y.fin.on.n, .slice ta2 y.fin.to.length tc2] rfl rfl ?_ ?_ rfl ?_ (by decide) ?_ ?_)
              · exact Hs8.out.rg.own.later rRaw_mono (by (repeat (first | exact Below.refl _ _ | refine Below.alloc ?_ (by first | omega | (simp <;> omega)) _ | refine Below.setCell ?_ (by first | omega | (simp <;> omega)) _ | refine below_drewN ?_ _ | refine Below.drew ?_)))
              · exact new_cells _ _ _ rfl
              · intro u hu; simp at hu; rcases hu with rfl | rfl | rfl | rfl | rfl | rfl <;> rfl
              · rw [hLk]; omega
              · simp; omega
              · intro v3 w3 hown hgrow hat g2 cap2 hv3
                have Hnx : Hid (GSt w W6 (w3.setCell ⟨O, 3, none⟩ v3) O nm p r v3 X (L ++ [[.slice pa2 y.phis.length pc2, .slice la2 y.list.length lc2, .int .i64 y.fin.kind, .bool y.fin.on.reg, .int .i64 y.fin.on.n, .slice ta2 y.fin.to.length tc2]]) (fun j => if j = k then lo else A j) (fun j => if j = k then hi else B j) (k + 1)) := by
                  refine GSt.next (Hs8.out.later ?_ hzO6) (by have := HO.out; omega) hzO6 (lo := lo) (hi := hi) (by omega) ?_ ?_ ?_ ?_ hown hgrow (by simpa using hat)
                  · (repeat (first | exact Below.refl _ _ | refine Below.alloc ?_ (by first | omega | (simp <;> omega)) _ | refine Below.setCell ?_ (by first | omega | (simp <;> omega)) _ | refine below_drewN ?_ _ | refine Below.drew ?_))
                  · intro j hj; have := (Hs.out.rg.inn j hj).2.1; omega
                  · simp; omega
                  · intro g hg; have := (Hs.out.rg.own.lt g hg).2; omega
                  · exact Htb.out.kept (fun q g1 g2 => Below.heap_alloc _ _ _ (by omega))
                have hkO : w3.heap[O]? = wr.heap[O]? := by rw [hgrow.block O (by simp; omega) (fun e => by have := (Hs8.out.rg.own.lt O e.symm).1; omega), Below.heap_alloc _ _ _ zOr]
                have o4 : w3.cell? ⟨O, 3, none⟩ = some v := (World.cell?_of_block (w := wr) (a := ⟨O, 3, none⟩) hkO).trans o3
                have y4 : w3.frozen? ⟨O, 3, none⟩ = false := (World.frozen?_of_block (w := wr) (a := ⟨O, 3, none⟩) hkO).trans y3
                have zO3 : O < w3.heap.size := cell_lt o4
                subst hv3
                clear hown hgrow hat hkO
                go_wp2_with fail
                go_roundw
                case rel => exact ⟨k + 1, _, _, _, _, by omega, by go_num, Hnx.out⟩
                case measure => simp [intOf]; omega
        · have hkn' : k = n := by omega
          subst hkn'
          obtain ⟨R, c, hv, hnc, hc9, hbR, hRW, hrb⟩ := hs.rg.rb hn0
          subst hv
          obtain ⟨W, hW⟩ : ∃ W : World, W = wr := ⟨_, rfl⟩
          subst hW
          obtain ⟨Y, hY⟩ : ∃ Y : Nat → DBlock, Y = fun j => turnX ord (predsOf bs 0 (ord.getD j 0)) (bs.getD (ord.getD j 0) noBlock) := ⟨_, rfl⟩
          have hzw6 : w.heap.size < W6.heap.size := by have := HO.out; omega
          have hz16 : w.heap.size + 1 < W6.heap.size := by have := HO.out; have := HH.out; omega
          have hzH6 : H < W6.heap.size := by have := HO.out; omega
          have hPW : CellsAt W w.heap.size 0 [.string nm, .int .i64 p, .int .i64 r, .slice (some ⟨bb, boff, none⟩) k bc] := cellsK (HB40.out.later Hb46.out) (hs.keep _ hzw6 hnO0)
          have hRW1 : CellsAt W (w.heap.size + 1) 0 [.string ⟨#[]⟩, .int .i64 0, .int .i64 0, .slice none 0 0] := cellsK (HB41.out.later Hb46.out) (hs.keep _ hz16 hnO1)
          have hFW1 : ∀ j, W.frozen? ⟨w.heap.size + 1, j, none⟩ = false := fun j => by
            rw [World.frozen?_of_block (w := W6) (a := ⟨w.heap.size + 1, j, none⟩) (hs.keep _ (by dsimp only; exact hz16) (by dsimp only; exact hnO1)), Hb46.out.frozen (p := ⟨w.heap.size + 1, j, none⟩) (by have := HH.out; dsimp only; omega)]
            exact HF41.out j
          have hAT : ∀ z, z < k → W.cell? ⟨H, z, none⟩ = some (.int .i64 ((placeOf ord z : Nat) : Int)) := fun z hzn => by
            have h1 := Hs4.out.at_.cell hzn
            rw [show atF ord k z = placeOf ord z by have h := atF_place (Hall.out z hzn); rw [Hon.out] at h; exact h] at h1
            exact hs.cell (cell_later' h1 Hb46.out) hnOH
          have hOW : CellsAt W O 0 [.string nm, .int .i64 p, .int .i64 r, .slice (some ⟨R, 0, none⟩) k c] := hs.box
          have HPW := hid hPW
          have HRW1 := hid hRW1
          have HFW1 := hid hFW1
          have HAT := hid hAT
          have HOW := hid hOW
          have HY := hid hY
          have Hrb := hid hrb
          have HbW := hid hs.below
          have HW6 := hid hs.size
          have Hlow : Hid (∀ b, b < W6.heap.size → ∀ j, j < k → ¬ (A j ≤ b ∧ b < B j)) := fun b hb j hj h => by have := (Hrb.out.inn j hj).1; omega
          have Hto2 : Hid (∀ x ∈ bs, x.fin.to.length ≤ 2) := fun x hx => by obtain ⟨i, hi, rfl⟩ := List.getElem_of_mem hx; exact (Hto.out i _ (List.getElem?_eq_getElem hi)).1
          clear hs Hs hPW hRW1 hFW1 hAT hOW hY hrb f3 hzw hk
          go_wp2_with fail
          go_loopw [11] (fun i wr => ∃ (i' : Nat), i' ≤ k ∧ i = .int .i64 i' ∧ RT w W wr Y L A B i') (fun i _ => k - (intOf i).toNat)
          case atStart => exact ⟨0, Nat.zero_le _, rfl, RT.start HbW.out _ _ _ _⟩
          case round =>
            obtain ⟨i, hi, rfl, ht⟩ := hrel
            have Ht := hid ht
            have hkp : ∀ b, b < W6.heap.size → wr.heap[b]? = W.heap[b]? := fun b hb => ht.keep b (by have := HW6.out; omega) (fun j hj => Hlow.out b hb j (by omega))
            have Hkp := hid hkp
            obtain ⟨p0, p1, p2, p3⟩ := (cellsK HPW.out (hkp _ hzw6)).get4
            obtain ⟨o0, o1, o2, o3⟩ := (cellsK HOW.out (hkp _ hzO6)).get4
            simp only [Nat.zero_add] at p1 p2 p3 o1 o2 o3
            have zp : w.heap.size < wr.heap.size := cell_lt p0
            have zO : O < wr.heap.size := cell_lt o0
            have zWr : W.heap.size ≤ wr.heap.size := ht.size
            by_cases hin : i < k
            · have hko : i < ord.length := by rw [Hon.out]; exact hin
              obtain ⟨b', off', hab, c1⟩ := int_at (Ho.out.later rInt_mono ht.below) (t := i) (by rw [Hml.out]; exact hin)
              cases hab
              rw [List.getElem_map] at c1
              obtain ⟨q, hq⟩ : ∃ q, ord[i] = q := ⟨_, rfl⟩
              have hqn : q < k := by rw [← hq]; exact Hlt.out _ (List.getElem_mem _)
              rw [hq] at c1
              have Hq : Hid (ord[i]? = some q) := by show _ = _; rw [List.getElem?_eq_getElem hko, hq]
              have hqb : q < bs.length := by rw [Hbn.out]; exact hqn
              obtain ⟨y, hy⟩ : ∃ y, y = bs[q] := ⟨_, rfl⟩
              have Hy : Hid (bs[q]? = some y) := by show _ = _; rw [List.getElem?_eq_getElem hqb, hy]
              have hsy : SmallB y := by rw [hy]; exact Hsm.out _ (List.getElem_mem hqb)
              have Hsy := hid hsy
              have HXi : Hid (X i = refX ord y) := by
                show _ = _
                rw [HX.out]
                dsimp only
                rw [List.getD_eq_getElem?_getD (l := ord), Hq.out, Option.getD_some, List.getD_eq_getElem?_getD, Hy.out, Option.getD_some]
              obtain ⟨fr, hfr⟩ : ∃ fr, predsOf bs 0 q = fr := ⟨_, rfl⟩
              obtain ⟨now, hnow⟩ : ∃ now, predsOf (refL bs ord) 0 i = now := ⟨_, rfl⟩
              have HYi : Hid (Y i = turnX ord fr y) := by
                show _ = _
                rw [HY.out]
                dsimp only
                rw [List.getD_eq_getElem?_getD (l := ord), Hq.out, Option.getD_some, List.getD_eq_getElem?_getD, Hy.out, Option.getD_some, hfr]
              have Hsrc : Hid (∀ src, refSrc ord fr now src = srcF ord fr src ord.length) := fun src => by
                have h := refSrc_eq Hpm.out Hbn.out Hfl.out.tgt Hfl.out.nodup src hko
                rw [hq, hfr, hnow] at h; exact h
              have hf80 : fr.length ≤ 80 := by have h := predsOf_len q bs 0 Hto2.out; rw [hfr] at h; have := Hbn.out; omega
              have hrl : (refL bs ord).length = k := by unfold refL; rw [List.length_map]; exact Hon.out
              have hn80 : now.length ≤ 80 := by
                have h := predsOf_len i (refL bs ord) 0 (fun x hx => by
                  unfold refL at hx
                  obtain ⟨b, hb, rfl⟩ := List.mem_map.1 hx
                  have hbk := Hlt.out b hb
                  show (turnTo ord _).length ≤ 2
                  unfold turnTo
                  rw [List.length_map, List.getD_eq_getElem?_getD, List.getElem?_eq_getElem (by rw [Hbn.out]; exact hbk)]
                  exact Hto2.out _ (List.getElem_mem _))
                rw [hnow] at h; omega
              have Hfp : Hid (∀ a ∈ fr, 0 ≤ a ∧ a < (k : Int)) := fun a ha => by
                rw [← hfr] at ha
                have h := predsOf_mem ha
                have := Hbn.out
                omega
              have Hnp : Hid (∀ a ∈ now, 0 ≤ a ∧ a < (k : Int)) := fun a ha => by
                rw [← hnow] at ha
                have h := predsOf_mem ha
                omega
              have Hphy : Hid (∀ p ∈ y.phis, p.src.length = fr.length) := fun p hp => by rw [← hfr]; exact Hphi.out q y Hy.out p hp
              obtain ⟨m1, hm1⟩ : ∃ m, fr.length = m := ⟨_, rfl⟩
              obtain ⟨m2, hm2⟩ : ∃ m, now.length = m := ⟨_, rfl⟩
              have Hfr := hid hfr
              have Hnow := hid hnow
              have Hm1 := hid hm1
              have Hm2 := hid hm2
              rw [hm1] at hf80
              rw [hm2] at hn80
              have zob : ob < wr.heap.size := cell_lt c1
              clear ht hkp hq hy hsy hfr hnow hrl hm1 hm2
              have Hmx1 : Hid (∀ x ∈ (List.range k).map (fun j => if j < i then Y j else X j), x.fin.to.length ≤ 2) := fun x hx => by
                obtain ⟨j, hj, rfl⟩ := List.mem_map.1 hx
                have hjk : j < k := by simpa using hj
                have hjo : j < ord.length := by rw [Hon.out]; exact hjk
                have hoj := Hlt.out _ (List.getElem_mem hjo)
                have h2 : ((bs.getD (ord.getD j 0) noBlock).fin.to).length ≤ 2 := by
                  rw [List.getD_eq_getElem?_getD (l := ord), List.getElem?_eq_getElem hjo, Option.getD_some, List.getD_eq_getElem?_getD, List.getElem?_eq_getElem (by rw [Hbn.out]; exact hoj), Option.getD_some]
                  exact Hto2.out _ (List.getElem_mem _)
                rw [HX.out, HY.out]
                dsimp only
                split
                · show (List.map _ _).length ≤ 2
                  rw [List.length_map]; exact h2
                · show (turnTo _ _).length ≤ 2
                  unfold turnTo
                  rw [List.length_map]; exact h2
              have Hmx2 : Hid (predsOf ((List.range k).map (fun j => if j < i then Y j else X j)) 0 i = now) := by
                show _ = _
                rw [HX.out, HY.out, ← Hnow.out]
                exact mix_preds Hon.out i i
              have hq40 : q ≤ 40 := by omega
              have hi40 : i ≤ 40 := by omega
              have Hbdr : Hid (Below w.heap.size w wr.drew) := Ht.out.below.drew
              have HS0 : wr.cell? ⟨w.heap.size, 0, none⟩ = some (.string nm) ∧ wr.cell? ⟨w.heap.size, 1, none⟩ = some (.int .i64 p) ∧ wr.cell? ⟨w.heap.size, 2, none⟩ = some (.int .i64 r) ∧ wr.cell? ⟨w.heap.size, 3, none⟩ = some (.slice (some ⟨bb, boff, none⟩) k bc) ∧ wr.cell? ⟨ob, ooff + i, none⟩ = some (.int .i64 ((q : Nat) : Int)) ∧ wr.cell? ⟨O, 0, none⟩ = some (.string nm) ∧ wr.cell? ⟨O, 1, none⟩ = some (.int .i64 p) ∧ wr.cell? ⟨O, 2, none⟩ = some (.int .i64 r) ∧ wr.cell? ⟨O, 3, none⟩ = some (.slice (some ⟨R, 0, none⟩) k c) := ⟨p0, p1, p2, p3, c1, o0, o1, o2, o3⟩
              have Hone : Hid True := trivial
              have HS0 := hid HS0
              have HSd : Hid (wr.drew.cell? ⟨w.heap.size, 0, none⟩ = some (.string nm) ∧ wr.drew.cell? ⟨w.heap.size, 1, none⟩ = some (.int .i64 p) ∧ wr.drew.cell? ⟨w.heap.size, 2, none⟩ = some (.int .i64 r) ∧ wr.drew.cell? ⟨w.heap.size, 3, none⟩ = some (.slice (some ⟨bb, boff, none⟩) k bc) ∧ wr.drew.cell? ⟨ob, ooff + i, none⟩ = some (.int .i64 ((q : Nat) : Int)) ∧ wr.drew.cell? ⟨O, 0, none⟩ = some (.string nm) ∧ wr.drew.cell? ⟨O, 1, none⟩ = some (.int .i64 p) ∧ wr.drew.cell? ⟨O, 2, none⟩ = some (.int .i64 r) ∧ wr.drew.cell? ⟨O, 3, none⟩ = some (.slice (some ⟨R, 0, none⟩) k c)) := HS0.out
              clear p0 p1 p2 p3 c1 o0 o1 o2 o3
              go_wp2_with fail
              go_region_held3 (fun w' => w'.cell? ⟨w.heap.size, 0, none⟩ = some (.string nm) ∧ w'.cell? ⟨w.heap.size, 1, none⟩ = some (.int .i64 p) ∧ w'.cell? ⟨w.heap.size, 2, none⟩ = some (.int .i64 r) ∧ w'.cell? ⟨w.heap.size, 3, none⟩ = some (.slice (some ⟨bb, boff, none⟩) k bc) ∧ w'.cell? ⟨ob, ooff + i, none⟩ = some (.int .i64 ((q : Nat) : Int)) ∧ w'.cell? ⟨O, 0, none⟩ = some (.string nm) ∧ w'.cell? ⟨O, 1, none⟩ = some (.int .i64 p) ∧ w'.cell? ⟨O, 2, none⟩ = some (.int .i64 r) ∧ w'.cell? ⟨O, 3, none⟩ = some (.slice (some ⟨R, 0, none⟩) k c)) ((first | with_reducible exact HS11.out | with_reducible exact HS10.out | with_reducible exact HSd.out))
                ((first
                  | (go_at_call 61; have hone := Hone.out; clear hone Hone; (with_reducible refine (unrollAhead_at (S := S) nm p r (some ⟨bb, boff, none⟩) bc bs k q wr.drew (Hb.out.later rBlock_mono Hbdr.out) Hbn.out hn hq40 Hto2.out fr Hfr.out m1 Hm1.out).mono ?_); rintro e w10 ⟨oa1, oc1, rfl, hold, hb10'⟩
                     have hb10 : Below wr.heap.size wr w10 := (Below.refl wr.heap.size wr).drew.trans hb10'
                     have HS10 : Hid (w10.cell? ⟨w.heap.size, 0, none⟩ = some (.string nm) ∧ w10.cell? ⟨w.heap.size, 1, none⟩ = some (.int .i64 p) ∧ w10.cell? ⟨w.heap.size, 2, none⟩ = some (.int .i64 r) ∧ w10.cell? ⟨w.heap.size, 3, none⟩ = some (.slice (some ⟨bb, boff, none⟩) k bc) ∧ w10.cell? ⟨ob, ooff + i, none⟩ = some (.int .i64 ((q : Nat) : Int)) ∧ w10.cell? ⟨O, 0, none⟩ = some (.string nm) ∧ w10.cell? ⟨O, 1, none⟩ = some (.int .i64 p) ∧ w10.cell? ⟨O, 2, none⟩ = some (.int .i64 r) ∧ w10.cell? ⟨O, 3, none⟩ = some (.slice (some ⟨R, 0, none⟩) k c)) := by
                       obtain ⟨s0, s1, s2, s3, s4, s5, s6, s7, s8⟩ := HS0.out
                       exact ⟨cell_later' s0 hb10, cell_later' s1 hb10, cell_later' s2 hb10, cell_later' s3 hb10, cell_later' s4 hb10, cell_later' s5 hb10, cell_later' s6 hb10, cell_later' s7 hb10, cell_later' s8 hb10⟩
                     have z10 : wr.heap.size ≤ w10.heap.size := hb10.size
                     have hold : SlAt (iv (wr.heap.size + 1) w10.heap.size) w10 1 rInt (.slice oa1 m1 oc1) fr := hold
                     have Hold := hid hold
                     have Hb10 := hid hb10
                     clear hold hb10 hb10')
                  | (go_at_call 61; (with_reducible refine (unrollAhead_at (S := iv W6.heap.size wr.heap.size) nm p r (some ⟨R, 0, none⟩) c ((List.range k).map fun j => if j < i then Y j else X j) k i w10 ((Ht.out.mix Hrb.out ⟨hbR, hRW⟩ hi hnc hc9).later rBlock_mono Hb10.out) (by simp) hn hi40 Hmx1.out now Hmx2.out m2 Hm2.out).mono ?_); rintro e w11 ⟨oa2, oc2, rfl, hnw, hb11⟩
                     have HS11 : Hid (w11.cell? ⟨w.heap.size, 0, none⟩ = some (.string nm) ∧ w11.cell? ⟨w.heap.size, 1, none⟩ = some (.int .i64 p) ∧ w11.cell? ⟨w.heap.size, 2, none⟩ = some (.int .i64 r) ∧ w11.cell? ⟨w.heap.size, 3, none⟩ = some (.slice (some ⟨bb, boff, none⟩) k bc) ∧ w11.cell? ⟨ob, ooff + i, none⟩ = some (.int .i64 ((q : Nat) : Int)) ∧ w11.cell? ⟨O, 0, none⟩ = some (.string nm) ∧ w11.cell? ⟨O, 1, none⟩ = some (.int .i64 p) ∧ w11.cell? ⟨O, 2, none⟩ = some (.int .i64 r) ∧ w11.cell? ⟨O, 3, none⟩ = some (.slice (some ⟨R, 0, none⟩) k c)) := by
                       obtain ⟨s0, s1, s2, s3, s4, s5, s6, s7, s8⟩ := HS10.out
                       exact ⟨cell_later' s0 hb11, cell_later' s1 hb11, cell_later' s2 hb11, cell_later' s3 hb11, cell_later' s4 hb11, cell_later' s5 hb11, cell_later' s6 hb11, cell_later' s7 hb11, cell_later' s8 hb11⟩
                     have Hnw := hid hnw
                     have Hb11 := hid hb11
                     clear hnw hb11)))
              have hb11 := Hb11.out
              have hb1 : Below wr.heap.size wr w11 := Hb10.out.trans (hb11.mono z10)
              have ht8 := Ht.out.later Hrb.out hb1
              have z11 : w10.heap.size ≤ w11.heap.size := hb11.size
              have hiL : i < L.length := by rw [Hrb.out.len]; exact hin
              obtain ⟨cs, hcs⟩ : ∃ cs, L[i]? = some cs := ⟨_, List.getElem?_eq_getElem hiL⟩
              have htb := ht8.tb Hrb.out (Nat.le_refl _) hcs
              have hAB := Hrb.out.inn i hin
              have hrow := cellsK (Hrb.out.row i _ hcs) (ht8.keep R hRW (fun j hj => (Hrb.out.inn j (by omega)).2.2))
              obtain ⟨pv, lv, tv, a1, b1, hce, hab1, hpv, -⟩ := htb
              subst hce
              rw [HXi.out] at hpv
              have hpv : OwnIn a1 b1 w11 94 2 rPhi pv y.phis := hpv
              obtain ⟨pa, pc, rfl⟩ := hpv.shape
              obtain ⟨x0, -⟩ := hrow.get6
              obtain ⟨o0, o1, o2, o3⟩ := (cellsK HOW.out (show w11.heap[O]? = W.heap[O]? by rw [hb1.block O zO, Hkp.out _ hzO6])).get4
              simp only [Nat.zero_add] at o1 o2 o3
              have zO11 : O < w11.heap.size := cell_lt o3
              have zR11 : R < w11.heap.size := cell_lt x0
              have HP8 : Hid (∀ P, (Value.slice pa y.phis.length pc).ownBlock = some P → a1 ≤ P ∧ P < b1 ∧ P < W.heap.size ∧ W6.heap.size ≤ P ∧ P ≠ R) := fun P hP => by
                have h := (hpv.row P hP).1
                refine ⟨h.1, h.2, by omega, by omega, fun e => hAB.2.2 (by omega)⟩
              have Hk11 : Hid (∀ b, b < W6.heap.size → w11.heap[b]? = W.heap[b]?) := fun b hb => by have := HW6.out; rw [hb1.block b (by omega), Hkp.out b hb]
              have Ht8 := hid ht8
              have Hcs := hid hcs
              have Hpv := hid hpv
              have Hold11 : Hid (SlAt (iv (wr.heap.size + 1) w10.heap.size) w11 1 rInt (.slice oa1 m1 oc1) fr) := Hold.out.later rInt_mono hb11
              have HAB := hid hAB
              clear ht8 hcs hpv hb1 hb11 hAB hrow hab1 o0 o1 o2
              go_wp2_with fail
              obtain ⟨wo, hwo⟩ : ∃ wo : World, wo = wr := ⟨_, rfl⟩
              subst hwo
              go_loopw [14] (fun i wi => ∃ (pi : Nat), pi ≤ y.phis.length ∧ i = .int .i64 pi ∧ PhSt w11 wi (.slice pa y.phis.length pc) y.phis ord fr pi) (fun i _ => y.phis.length - (intOf i).toNat)
              case atStart => exact ⟨0, Nat.zero_le _, rfl, PhSt.start (fun P j hP => (Hpv.out.row P hP).2.2 j)⟩
              case round =>
                obtain ⟨pi, hpi, rfl, hps⟩ := hrel
                have hpb : y.phis.length ≤ 1048576 := Hsy.out.phis
                have Hps := hid hps
                have z11r : w11.heap.size ≤ wr.heap.size := hps.grow.size
                have hO9 : wr.heap[O]? = w11.heap[O]? := hps.grow.block O zO11 (fun e => by have := HP8.out O e.symm; omega)
                have hR9 : wr.heap[R]? = w11.heap[R]? := hps.grow.block R zR11 (fun e => (HP8.out R e.symm).2.2.2.2 rfl)
                have o4 : wr.cell? ⟨O, 3, none⟩ = some (.slice (some ⟨R, 0, none⟩) k c) := (World.cell?_of_block (w := w11) (a := ⟨O, 3, none⟩) hO9).trans o3
                have x4 : wr.cell? ⟨R, i * 6, none⟩ = some (.slice pa y.phis.length pc) := (World.cell?_of_block (w := w11) (a := ⟨R, i * 6, none⟩) hR9).trans x0
                have zO9 : O < wr.heap.size := cell_lt o4
                have zR9 : R < wr.heap.size := cell_lt x4
                by_cases hpl : pi < y.phis.length
                · obtain ⟨P, cP, cs, hPe, hPab, hcp, hrp⟩ := Hpv.out.at hpl
                  cases hPe
                  obtain ⟨qq, hqq⟩ : ∃ qq, qq = y.phis[pi]'hpl := ⟨_, rfl⟩
                  rw [← hqq] at hrp
                  obtain ⟨fa, fc, rfl, hsrc, hsl, hdst⟩ := hrp.opens
                  have hPP : (Value.slice (some ⟨P, 0, none⟩) y.phis.length pc).ownBlock = some P := rfl
                  obtain ⟨-, -, hP3, hP4, hP5⟩ := HP8.out P hPP
                  obtain ⟨hc80, hc81⟩ := hcp.get2
                  have Hqq := hid hqq
                  have Hc80 := hid hc80
                  have Hc81 := hid hc81
                  have hfl : qq.src.length = m1 := by rw [hqq, ← Hm1.out]; exact Hphy.out _ (List.getElem_mem hpl)
                  have Hfl2 := hid hfl
                  have Hk9 : Hid (∀ b, b < w11.heap.size → b ≠ P → wr.heap[b]? = w11.heap[b]?) := fun b hb hne => hps.grow.block b hb (fun e => hne (Option.some.inj e))
                  have HbW9 : Hid (Below w.heap.size w wr) := ⟨hps.grow.os.trans Ht8.out.below.os, hps.grow.tape.trans Ht8.out.below.tape, hps.grow.output.trans Ht8.out.below.output, by have := Ht8.out.below.size; omega, fun b hb => by
                    rw [Hk9.out b (by have := Ht8.out.below.size; omega) (by omega), Ht8.out.below.block b hb]⟩
                  have Hst9 : Hid (∀ (lo hi : Nat), W.heap.size ≤ lo → Stays (iv lo hi) w11 wr) := fun lo hi hlo => stays_at fun b hb hl => Hk9.out b hl (by have := hb.1; omega)
                  have Hold9 : Hid (SlAt (iv (wo.heap.size + 1) w10.heap.size) wr 1 rInt (.slice oa1 m1 oc1) fr) := Hold11.out.mono rInt_mono (fun _ h => h) (Hst9.out _ _ (by omega))
                  have Hnow9 : Hid (SlAt (iv (w10.heap.size + 1) w11.heap.size) wr 1 rInt (.slice oa2 m2 oc2) now) := Hnw.out.mono rInt_mono (fun _ h => h) (Hst9.out _ _ (by omega))
                  clear hps hqq hcp hrp hsrc hc80 hc81 hfl hO9 hR9
                  obtain ⟨W9, hW9⟩ : ∃ W9 : World, W9 = wr := ⟨_, rfl⟩
                  subst hW9
                  go_wp2_with fail
                  go_loopw [15, 16] (fun v17 i wi => ∃ (j : Nat) (v : Value), v = v17 ∧ j ≤ m2 ∧ i = .int .i64 j ∧ Build W9 wi 72 2 rVal v (refSrc ord fr (now.take j) qq.src)) (fun _ i _ => m2 - (intOf i).toNat)
                  case atStart => exact ⟨0, _, rfl, Nat.zero_le _, rfl, Build.start W9 72 2 rVal⟩
                  case round =>
                    obtain ⟨j, v, rfl, hj, rfl, hbd⟩ := hrel
                    have Hbd := hid hbd
                    clear hbd
                    by_cases hjl : j < m2
                    · have hjn : j < now.length := by rw [Hm2.out]; exact hjl
                      obtain ⟨yy, hyy⟩ : ∃ yy : Nat, now[j] = (yy : Int) := Int.eq_ofNat_of_zero_le (Hnp.out _ (List.getElem_mem hjn)).1
                      have hyk : yy < k := by have := (Hnp.out _ (List.getElem_mem hjn)).2; omega
                      have Htk : Hid (refSrc ord fr (now.take (j + 1)) qq.src = refSrc ord fr (now.take j) qq.src ++ pickI ord yy fr qq.src m1) := by
                        show _ = _
                        rw [refSrc_take _ _ _ _ hjn, hyy, Int.toNat_natCast, Hm1.out]
                      have Hyy := hid hyy
                      clear hyy
                      go_wp2_with fail
                      go_loopw [15, 17] (fun v17 i wi => ∃ (m : Nat) (v2 : Value), v2 = v17 ∧ m ≤ m1 ∧ i = .int .i64 m ∧ Build W9 wi 72 2 rVal v2 (refSrc ord fr (now.take j) qq.src ++ pickI ord yy fr qq.src m)) (fun _ i _ => m1 - (intOf i).toNat)
                      case atStart => exact ⟨0, _, rfl, Nat.zero_le _, rfl, by have h := Hbd.out; simpa [pickI] using h⟩
                      case round =>
                        obtain ⟨m, v2, rfl, hm, rfl, hbd2⟩ := hrel
                        have Hbd2 := hid hbd2
                        clear hbd2
                        by_cases hml : m < m1
                        · have hmf : m < fr.length := by rw [Hm1.out]; exact hml
                          have hbw : Below w.heap.size w wr := HbW9.out.trans (Hbd2.out.old.mono HbW9.out.size)
                          have Hbw := hid hbw
                          obtain ⟨rb, roff, hra, e1⟩ := int_at9 (Hold9.out.later rInt_mono Hbd2.out.old) hmf
                          cases hra
                          obtain ⟨nb, noff, hna, e3⟩ := int_at9 (Hnow9.out.later rInt_mono Hbd2.out.old) hjn
                          cases hna
                          rw [Hyy.out] at e3
                          have hz := Hfp.out _ (List.getElem_mem hmf)
                          obtain ⟨z, hze⟩ := Int.eq_ofNat_of_zero_le hz.1
                          have hzn : z < k := by omega
                          rw [hze] at e1
                          have e2 : wr.cell? ⟨H, z, none⟩ = some (.int .i64 ((placeOf ord z : Nat) : Int)) := by
                            have h := HAT.out z hzn
                            have hH9 : W9.heap[H]? = W.heap[H]? := by rw [Hk9.out H (by omega) (by omega), Hk11.out H hzH6]
                            exact cell_later' ((World.cell?_of_block (w := W) (a := ⟨H, z, none⟩) hH9).trans h) Hbd2.out.old
                          have hpk : placeOf ord (fr.getD m 0).toNat = placeOf ord z := by
                            rw [List.getD_eq_getElem?_getD, List.getElem?_eq_getElem hmf, Option.getD_some, hze, Int.toNat_natCast]
                          have hjs : m < qq.src.length := by rw [Hfl2.out]; exact hml
                          have zrb : rb < wr.heap.size := cell_lt e1
                          have znb : nb < wr.heap.size := cell_lt e3
                          have zH3 : H < wr.heap.size := cell_lt e2
                          have hll : (refSrc ord fr (now.take j) qq.src ++ pickI ord yy fr qq.src m).length + 1 ≤ 2097152 := by
                            have h1 := refSrc_len ord fr (now.take j) qq.src
                            have h2 := pickI_len ord yy fr qq.src m
                            have h4 : (now.take j).length ≤ 80 := by rw [List.length_take]; omega
                            have h3 := Nat.mul_le_mul h4 (show fr.length ≤ 80 by rw [Hm1.out]; exact hf80)
                            rw [List.length_append]; omega
                          have Hll := hid hll
                          clear hbw hz hze hll
                          by_cases hpe : placeOf ord z = yy
                          · have Hnx : Hid (refSrc ord fr (now.take j) qq.src ++ pickI ord yy fr qq.src (m + 1) = (refSrc ord fr (now.take j) qq.src ++ pickI ord yy fr qq.src m) ++ [qq.src[m]]) := by
                              show _ = _
                              rw [pickI_succ, pickAt_yes (hpk.trans hpe) hjs, List.append_assoc]
                            clear hpk
                            rw [hpe] at e2
                            have g3 : wr.cell? ⟨w.heap.size, 3, none⟩ = some (.slice (some ⟨bb, boff, none⟩) k bc) := by
                              have h := HPW.out.get4.2.2.2
                              rw [Nat.zero_add] at h
                              have hw9 : W9.heap[w.heap.size]? = W.heap[w.heap.size]? := by rw [Hk9.out w.heap.size (by omega) (by omega), Hk11.out _ hzw6]
                              exact cell_later' ((World.cell?_of_block (w := W) (a := ⟨w.heap.size, 3, none⟩) hw9).trans h) Hbd2.out.old
                            obtain ⟨b', off', hab, g2⟩ := int_at (Ho.out.later rInt_mono Hbw.out) (t := i) (by rw [Hml.out]; exact hin)
                            cases hab
                            rw [List.getElem_map, show ord[i] = q from by have h := Hq.out; rw [List.getElem?_eq_getElem hko] at h; exact Option.some.inj h] at g2
                            obtain ⟨b', off', pa3, pc3, la3, lc3, ta3, tc3, hab, hcs3, hp3, -⟩ := block_at (Hb.out.later rBlock_mono Hbw.out) hqb
                            cases hab
                            have hyq : bs[q] = y := by have h := Hy.out; rw [List.getElem?_eq_getElem hqb] at h; exact Option.some.inj h
                            rw [hyq] at hcs3 hp3
                            obtain ⟨g4, -⟩ := hcs3.get6
                            obtain ⟨b', off', fa', fc', hpa, q0, q1, q2, -, -⟩ := phi_at hp3 hpl
                            subst hpa
                            rw [← Hqq.out] at q1 q2
                            obtain ⟨sb, soff, hsa, s0, s1⟩ := val_at q2 hjs
                            subst hsa
                            have y2 := cell_lt g2
                            have y3 := cell_lt g3
                            have y4 := cell_lt g4
                            have y5 := cell_lt q1
                            have y6 := cell_lt s0
                            obtain ⟨-, -, cs9, -, -, ⟨-, hn1, hn2⟩, -⟩ := q2.get hjs
                            have Hn12 : Hid (-9223372036854775808 ≤ (qq.src[m]).n ∧ (qq.src[m]).n ≤ 9223372036854775807) := ⟨hn1, hn2⟩
                            have hml2 := Hfl2.out
                            clear q0 q2 hpe hn1 hn2 hcs3 hp3 hyq
                            go_wp2_with fail
                            go_big_region
                            all_goals
                              go_wp2_with fail
                              go_region_law
                                (first
                                  | (refine step_append_Own rfl _ _ 78 rfl W9.heap.size 72 ivv _ 2 16 Tryz.underlying78 hivv hvz0 hvz1 hvz2 rfl (by decide) rVal_mono v2 (refSrc ord fr (now.take j) qq.src ++ pickI ord yy fr qq.src m) rfl ?_ ⟨wr.heap.size, 0, none⟩ 1 [.bool (qq.src[m]).reg, .int .i64 (qq.src[m]).n] (qq.src[m]) rfl rfl ?_ ?_ ?_ Hll.out (by decide) ?_ ?_
                                     · exact Hbd2.out.own.later rVal_mono (by (repeat (first | exact Below.refl _ _ | refine Below.alloc ?_ (by first | omega | (simp <;> omega)) _ | refine Below.setCell ?_ (by first | omega | (simp <;> omega)) _ | refine below_drewN ?_ _ | refine Below.drew ?_)))
                                     · intro j u hj; exact new_cells wr _ _ rfl j u hj
                                     · intro u hu; simp at hu; rcases hu with rfl | rfl <;> rfl
                                     · exact ⟨rfl, Hn12.out.1, Hn12.out.2⟩
                                     · have := Hbd2.out.old.size; simp; omega
                                     intro v3 w3 hown hgrow ⟨g2, cap2, hv3⟩
                                     have hb3 : Below W9.heap.size W9 w3 := by
                                       refine Below.grown ?_ hgrow (by have := Hbd2.out.old.size; simp; omega) (fun g hg => (Hbd2.out.own.lt g hg).1)
                                       have h := Hbd2.out.old
                                       (repeat (first | exact Below.refl _ _ | exact (h).mono (by first | omega | (simp <;> omega) | (have hh := (h).size; (try simp at hh); omega) | (have hh := (h).size; (try simp at hh); (try simp); omega)) | refine Below.trans ?_ ((h).mono (by first | omega | (simp <;> omega) | (have hh := (h).size; (try simp at hh); omega) | (have hh := (h).size; (try simp at hh); (try simp); omega))) | refine Below.alloc ?_ (by first | omega | (simp <;> omega) | (have hh := (h).size; (try simp at hh); omega) | (have hh := (h).size; (try simp at hh); (try simp); omega)) _ | refine Below.setCell ?_ (by first | omega | (simp <;> omega) | (have hh := (h).size; (try simp at hh); omega) | (have hh := (h).size; (try simp at hh); (try simp); omega)) _ | refine below_drewN ?_ _ | refine Below.drew ?_))
                                     have Hbd3 : Hid (Build W9 w3 72 2 rVal v3 (refSrc ord fr (now.take j) qq.src ++ pickI ord yy fr qq.src (m + 1))) := ⟨by rw [Hnx.out]; first | exact hown | (rw [List.append_assoc]; exact hown), hb3⟩
                                     clear hown hgrow hb3 hv3))
                              all_goals
                                go_wp2_with fail
                                go_roundw
                                case rel => exact ⟨m + 1, v3, rfl, by omega, by go_num, Hbd3.out⟩
                                case measure => simp [intOf]; omega
                          · have Hnx : Hid (refSrc ord fr (now.take j) qq.src ++ pickI ord yy fr qq.src (m + 1) = refSrc ord fr (now.take j) qq.src ++ pickI ord yy fr qq.src m) := by
                              show _ = _
                              rw [pickI_succ, pickAt_no (by rw [hpk]; exact hpe), List.append_nil]
                            clear hpk
                            go_wp2_with fail
                            go_big_region
                            all_goals
                              go_wp2_with fail
                              go_roundw
                              case rel => exact ⟨m + 1, _, rfl, by omega, by go_num, by rw [Hnx.out]; first | exact Hbd2.out | exact Hbd2.out.drew rVal_mono | exact Hbd2.out.drewN rVal_mono _⟩
                              case measure => simp [intOf]; omega
                        · have hmm : m = m1 := by omega
                          have Hbd4 : Hid (Build W9 wr 72 2 rVal v2 (refSrc ord fr (now.take (j + 1)) qq.src)) := by have h := Hbd2.out; rw [hmm, ← Htk.out] at h; exact h
                          clear hmm
                          go_wp2_with fail
                          go_roundw
                          case rel => exact ⟨j + 1, v2, rfl, by omega, by go_num, Hbd4.out⟩
                          case measure => simp [intOf]; omega
                    · have hnn : j = now.length := by rw [Hm2.out]; omega
                      have hPS := Hps.out.later Hbd.out.old (fun P' h => by have := HP8.out P' h; omega)
                      have hsl := Hbd.out.own.toSl rVal_mono (by decide)
                      rw [hnn, List.take_length, Hsrc.out, Hqq.out] at hsl
                      obtain ⟨va, vc, hvv, -⟩ := hsl.val
                      subst hvv
                      have o5 := cell_later' o4 Hbd.out.old
                      have x5 := cell_later' x4 Hbd.out.old
                      have hc10 := (hPS.old P hPP (pi * 2 + 1) (by omega)).trans Hc81.out
                      have hf10 := hPS.free P (pi * 2 + 1) hPP
                      have zP := cell_lt hc10
                      have zO5 := cell_lt o5
                      have zR5 := cell_lt x5
                      have Hnx : Hid (PhSt w11 (wr.setCell ⟨P, pi * 2 + 1, none⟩ (.slice va (srcF ord fr (y.phis[pi]'hpl).src ord.length).length vc)) (.slice (some ⟨P, 0, none⟩) y.phis.length pc) y.phis ord fr (pi + 1)) :=
                        hPS.next hpl hPP (by omega) (by have h := Hc80.out; rw [Hqq.out] at h; exact h) Hc81.out (hsl.mono rVal_mono (fun b hb => ⟨by have := hb.1; omega, hb.2⟩) (Stays.refl _ _))
                      clear hPS hsl hnn
                      go_wp2_with fail
                      go_roundw
                      case rel => exact ⟨pi + 1, by omega, by go_num, Hnx.out⟩
                      case measure => simp [intOf]; omega
                · have hpp : pi = y.phis.length := by omega
                  rw [hpp] at Hps
                  have Hnx : Hid (RT w W wr Y L A B (i + 1)) := by
                    refine Ht8.out.next Hrb.out hin (by omega) Hcs.out (ord := ord) (fr := fr) ?_ ?_
                    · have h := Hps.out
                      rw [HXi.out]; exact h
                    · rw [HYi.out, HXi.out]; rfl
                  clear hps
                  go_wp2_with fail
                  go_roundw
                  case rel => exact ⟨i + 1, by omega, by go_num, Hnx.out⟩
                  case measure => simp [intOf]; omega
            · have hik : i = k := by omega
              have hmix := Ht.out.mix Hrb.out ⟨hbR, hRW⟩ hi hnc hc9
              rw [hik, HX.out, HY.out, mix_done Hon.out] at hmix
              have Hmix := hid hmix
              have hrE := cellsK HRW1.out (hkp _ hz16)
              have hfE : ∀ j, wr.frozen? ⟨w.heap.size + 1, j, none⟩ = false := fun j => (World.frozen?_of_block (w := W) (a := ⟨w.heap.size + 1, j, none⟩) (hkp _ hz16)).trans (HFW1.out j)
              obtain ⟨e0, e1, e2, e3⟩ := hrE.get4
              simp only [Nat.zero_add] at e1 e2 e3
              have y0 := hfE 0
              have y1 := hfE 1
              have y2 := hfE 2
              have y3 := hfE 3
              have z1 : w.heap.size + 1 < wr.heap.size := cell_lt e0
              have HrE := hid hrE
              have Hbel := hid ht.below
              clear ht hkp hmix hrE hfE hik p0 p1 p2 p3
              go_wp2_with fail
              have hcells := set4 (u0 := .string nm) (u1 := .int .i64 p) (u2 := .int .i64 r) (u3 := .slice (some ⟨R, 0, none⟩) k c) HrE.out
              obtain ⟨h0, h1, h2, h3⟩ := hcells.get4
              simp only [Nat.zero_add] at h1 h2 h3
              obtain ⟨WE, hWE⟩ : ∃ WE, WE = ((((wr.setCell ⟨w.heap.size + 1, 0, none⟩ (.string nm)).setCell ⟨w.heap.size + 1, 1, none⟩ (.int .i64 p)).setCell ⟨w.heap.size + 1, 2, none⟩ (.int .i64 r)).setCell ⟨w.heap.size + 1, 3, none⟩ (.slice (some ⟨R, 0, none⟩) k c)) := ⟨_, rfl⟩
              rw [← hWE] at h0 h1 h2 h3 ⊢
              have hle : w.heap.size ≤ w.heap.size + 1 := Nat.le_succ _
              have hbE : Below w.heap.size w WE := by
                rw [hWE]
                exact (((Hbel.out.setCell (p := ⟨w.heap.size + 1, 0, none⟩) hle _).setCell (p := ⟨w.heap.size + 1, 1, none⟩) hle _).setCell (p := ⟨w.heap.size + 1, 2, none⟩) hle _).setCell (p := ⟨w.heap.size + 1, 3, none⟩) hle _
              have hsE : WE.heap.size = wr.heap.size := by rw [hWE]; simp [World.setCell]
              have hkE : ∀ b, b ≠ w.heap.size + 1 → WE.heap[b]? = wr.heap[b]? := fun b hb => by
                rw [hWE]
                iterate 4 rw [Below.heap_setCell _ _ _ _ (by dsimp only; exact hb)]
              have hslE : SlAt (iv w.heap.size WE.heap.size) WE 6 rBlock (.slice (some ⟨R, 0, none⟩) k c) (turnL bs ord) :=
                (Hmix.out.mono (S' := iv W6.heap.size wr.heap.size) rBlock_mono (fun b hb => hb) (stays_at (w' := WE) fun b hb _ => hkE b (by have := hb.1; omega))).mono rBlock_mono (fun b hb => ⟨by have := hb.1; omega, by rw [hsE]; exact hb.2⟩) (Stays.refl _ _)
              refine bodyPost_ret (v := .agg #[.string nm, .int .i64 p, .int .i64 r, .slice (some ⟨R, 0, none⟩) k c]) ?_ rfl ⟨_, _, rfl, ?_, hbE⟩
              · simp [results, Tryz.results32, go_sem, h0, h1, h2, h3]
              · exact hslE

end Go.Proofs.YtnkogppgacappaaGreatDoor
