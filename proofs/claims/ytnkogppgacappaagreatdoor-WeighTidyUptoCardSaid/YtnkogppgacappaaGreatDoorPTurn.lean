/- weigh.turn: a function with its blocks in another order. -/
import Derived.Test.YtnkogppgacappaaGreatDoorPHotW
import Derived.Test.YtnkogppgacappaaGreatDoorPFour
import Derived.Test.YtnkogppgacappaaGreatDoorPCloneR
import Derived.Test.YtnkogppgacappaaGreatDoorPSameU
import Derived.Test.YtnkogppgacappaaGreatDoorPRefA
import Derived.BigRegion
namespace Go.Proofs.YtnkogppgacappaaGreatDoor
open Go.RowKit

theorem ToSt.drew {W7 wi : World} {tv : Value} {tos : List Int} {ord : List Nat} {t : Nat} (h : ToSt W7 wi tv tos ord t) : ToSt W7 wi.drew tv tos ord t :=
 ⟨⟨h.grow.os, h.grow.tape, h.grow.output, h.grow.size, h.grow.block⟩, h.size, h.cells, h.free⟩
theorem OwnIn.ints {a b : Nat} {w : World} {e : TypeId} {v : Value} {l : List Int} (h : OwnIn a b w e 1 rInt v l) : ∀ T, v.ownBlock = some T → (a ≤ T ∧ T < b) ∧ (∃ c, v = .slice (some ⟨T, 0, none⟩) l.length c) ∧ (∀ j (hj : j < l.length), w.cell? ⟨T, j, none⟩ = some (.int .i64 (l[j]'hj))) ∧ ∀ j, w.frozen? ⟨T, j, none⟩ = false := by
 intro T hT
 have hs := h.toSl rInt_mono (by decide)
 obtain ⟨xss, h1, hb, -⟩ := h
 rcases h1.2 with ⟨rfl, -⟩ | ⟨g, cap, cur, rfl, hg, hgg, -⟩
 · cases hT
 · cases hT
   refine ⟨⟨hg, hb g rfl⟩, ⟨cap, rfl⟩, fun j hj => ?_, fun j => by simp [World.frozen?, hgg]⟩
   obtain ⟨b', off', hab, hc⟩ := int_at hs hj
   cases hab
   rw [Nat.zero_add] at hc; exact hc
theorem ToSt.next {W7 wi : World} {tv : Value} {tos : List Int} {ord : List Nat} {t T : Nat} (h : ToSt W7 wi tv tos ord t) (hT : tv.ownBlock = some T) (ht : t < tos.length) {z : Int} (hz : z = ((placeOf ord (tos[t]'ht).toNat : Nat) : Int)) :
 ToSt W7 (wi.setCell ⟨T, t, none⟩ (.int .i64 z)) tv tos ord (t + 1) := by
 have h0 := h.cells T hT t ht
 refine ⟨⟨h.grow.os, h.grow.tape, h.grow.output, by simp [World.setCell]; rw [h.size]; exact Nat.le_refl _, fun b hb hne => ?_⟩, by rw [← h.size]; simp [World.setCell], fun T' hT' j hj => ?_, fun T' j hT' => by simp; exact h.free T' j hT'⟩
 · rw [Below.heap_setCell _ _ _ _ (fun e => hne (by rw [hT]; exact congrArg some e)), h.grow.block b hb hne]
 · rw [hT] at hT'
   cases hT'
   rw [cell_set h0]
   by_cases hjt : j = t
   · subst hjt
     rw [if_pos rfl, if_pos (Nat.lt_succ_self _), hz]
   · rw [if_neg hjt, h.cells T hT j hj]
     by_cases hlt : j < t
     · rw [if_pos hlt, if_pos (by omega)]
     · rw [if_neg hlt, if_neg (by omega)]

theorem row_at {S : Nat → Prop} {w : World} {a : Option Addr} {n c : Nat} {l : List (List Int)} (h : SlAt S w 1 rRow (.slice a n c) l) {t : Nat} (ht : t < l.length) : ∃ b off ra rc, a = some ⟨b, off, none⟩ ∧ w.cell? ⟨b, off + t, none⟩ = some (.slice ra l[t].length rc) ∧ SlAt S w 1 rInt (.slice ra l[t].length rc) l[t] := by
 obtain ⟨b, off, cs, ha, -, ⟨v, rfl, hv⟩, -, hcs⟩ := h.get ht
 have d := hcs.get1
 rw [Nat.mul_one] at d
 obtain ⟨ra, rc, rfl, -⟩ := hv.val
 exact ⟨b, off, ra, rc, ha, d, hv⟩

theorem copyFunc_any' {S : Nat → Prop} (nm : ByteArray) (p r : Int) (ba : Option Addr) (bc : Nat) (bs : List DBlock) (n : Nat) (w : World) (hb : SlAt S w 6 rBlock (.slice ba n bc) bs) (hbn : bs.length = n) (hn : n ≤ 1048576) (hsm : ∀ x ∈ bs, SmallB x) :
 Calls Tryz.prog 66 #[.agg #[.string nm, .int .i64 p, .int .i64 r, .slice ba n bc]] w fun e w' =>
  ∃ bv, e = .returned (.agg #[.string nm, .int .i64 p, .int .i64 r, bv]) ∧ OwnIn (w.heap.size + 2) w'.heap.size w' 76 6 rBlock bv bs ∧ Below w.heap.size w w' := by
 subst hbn
 exact copyFunc_any nm p r ba bc bs w hb hn hsm

set_option maxRecDepth 100000 in
set_option maxHeartbeats 8000000 in
theorem turn_any {S S' S'' : Nat → Prop} (nm : ByteArray) (p r : Int) (ba : Option Addr) (bc : Nat) (bs : List DBlock) (aa : Option Addr) (ac : Nat) (oa : Option Addr) (oc : Nat) (ord : List Nat) (n : Nat) (w : World)
 (hb : SlAt S w 6 rBlock (.slice ba bs.length bc) bs) (hA : SlAt S' w 1 rRow (.slice aa (aheadF bs).length ac) (aheadF bs)) (ho : SlAt S'' w 1 rInt (.slice oa (ord.map (fun b : Nat => (b : Int))).length oc) (ord.map (fun b : Nat => (b : Int))))
 (hn0 : 0 < n) (hn : n ≤ 40) (hbn : bs.length = n) (hon : ord.length = n) (hlt : ∀ x ∈ ord, x < n) (hall : ∀ z, z < n → z ∈ ord) (hinj : ∀ i j (hi : i < ord.length) (hj : j < ord.length), ord[i] = ord[j] → i = j) (hsm : ∀ x ∈ bs, SmallB x)
 (hto : ∀ (k : Nat) (x : DBlock), bs[k]? = some x → x.fin.to.length ≤ 2 ∧ ∀ t ∈ x.fin.to, 0 ≤ t ∧ t < (bs.length : Int)) (hphi : ∀ (b : Nat) (x : DBlock), bs[b]? = some x → ∀ q ∈ x.phis, q.src.length = (predsOf bs 0 b).length) :
 Calls Tryz.prog 45 #[.agg #[.string nm, .int .i64 p, .int .i64 r, .slice ba n bc], .slice aa n ac, .slice oa n oc] w fun e w' =>
  ∃ bv, e = .returned (.agg #[.string nm, .int .i64 p, .int .i64 r, bv]) ∧ SlAt (iv w.heap.size w'.heap.size) w' 6 rBlock bv (turnL bs ord) ∧ Below w.heap.size w w' := by
 have hAl : (aheadF bs).length = n := by unfold aheadF; simp [hbn]
 have hml : (ord.map (fun b : Nat => (b : Int))).length = n := by simp [hon]
 rw [hAl] at hA
 rw [hml] at ho
 rw [hbn] at hb
 have Hb := hid hb
 have HA := hid hA
 have Ho := hid ho
 have Hbn := hid hbn
 have Hon := hid hon
 have Hlt := hid hlt
 have Hinj := hid hinj
 have Hall := hid hall
 have Hsm := hid hsm
 have Hto := hid hto
 have Hphi := hid hphi
 have HAl := hid hAl
 have Hml := hid hml
 obtain ⟨ob, ooff, hoa, -⟩ := int_at ho (t := 0) (by omega)
 subst hoa
 obtain ⟨bb, boff, bcs, hba, -⟩ := hb.get (k := 0) (by omega)
 subst hba
 obtain ⟨ivv, hivv, hvz0, hvz1, hvz2⟩ := info_parts infoVal
 have hmk := run_make_row' (P := Tryz.prog) 33 3 (.int .i64 0) 8 Tryz.underlying33 infoInt rfl .i64 .i64 n (by omega) (by omega)
 clear hb hA ho hbn hon hlt hall hinj hsm hto hphi hAl hml
 go_enter Tryz.func45, Tryz.ntmps45
 go_wp2_with fail
 obtain ⟨Wb, hWb⟩ : ∃ Wb, Wb = (w.alloc (.cells #[.string nm, .int .i64 p, .int .i64 r, .slice (some ⟨bb, boff, none⟩) n bc] 38)).alloc (.cells #[.string ⟨#[]⟩, .int .i64 0, .int .i64 0, .slice none 0 0] 38) := ⟨_, rfl⟩
 obtain ⟨W3, hW3⟩ : ∃ W3, W3 = Wb.alloc (.cells (madeCells #[.int .i64 0] n) 3) := ⟨_, rfl⟩
 have hWbs : Wb.heap.size = w.heap.size + 2 := by rw [hWb]; simp
 have hbWb : Below w.heap.size w Wb := by rw [hWb]; (repeat (first | exact Below.refl _ _ | refine Below.alloc ?_ (by first|omega|(simp<;>omega)) _ | refine Below.setCell ?_ (by first|omega|(simp<;>omega)) _ | refine below_drewN ?_ _ | refine Below.drew ?_))
 have B0 : CellsAt Wb w.heap.size 0 [.string nm, .int .i64 p, .int .i64 r, .slice (some ⟨bb, boff, none⟩) n bc] := by
  intro j u hj; rw [hWb, Nat.zero_add, World.cell?_alloc2_first]; simpa using hj
 have B1 : CellsAt Wb (w.heap.size + 1) 0 [.string ⟨#[]⟩, .int .i64 0, .int .i64 0, .slice none 0 0] := by
  intro j u hj; rw [hWb, Nat.zero_add, World.cell?_alloc2_new]; simpa using hj
 have F1 : ∀ j, Wb.frozen? ⟨w.heap.size + 1, j, none⟩ = false := by intro j; rw [hWb]; simp
 have hst : AtSt w Wb W3 (w.heap.size + 2) n ord 0 := by
  rw [hW3]
  refine ⟨?_, ?_, by (repeat (first | exact Below.refl _ _ | refine Below.alloc ?_ (by first|omega|(simp<;>omega)) _ | refine Below.setCell ?_ (by first|omega|(simp<;>omega)) _ | refine below_drewN ?_ _ | refine Below.drew ?_))⟩
  · have h := World.rowIs_made Wb (.int .i64 0) n 3
    rw [hWbs] at h
    exact h.congr (fun y hy => by simp [atF, hadB])
  · exact hbWb.alloc (by omega) _
 rw [← hWb]
 have Hst := hid hst
 have HWbs := hid hWbs
 have HB0 := hid B0
 have HB1 := hid B1
 have HF1 := hid F1
 have HbWb := hid hbWb
 (try rw [← hW3])
 obtain ⟨H, hH⟩ : ∃ H, H = w.heap.size + 1 + 1 := ⟨_, rfl⟩
 rw [← hH]
 have Hst : Hid (AtSt w Wb W3 H n ord 0) := by have h := Hst.out; rw [show w.heap.size + 2 = H by omega] at h; exact h
 have HH := hid hH
 clear hW3 hWb hWbs hbWb B0 B1 F1 hst hH hmk
 go_loopw [26] (fun i wr => ∃ (k : Nat), k ≤ n ∧ i = .int .i64 k ∧ AtSt w Wb wr H n ord k) (fun i _ => n - (intOf i).toNat)
 case atStart => exact ⟨0, Nat.zero_le _, rfl, Hst.out⟩
 case round =>
  obtain ⟨k, hk, rfl, hs⟩ := hrel
  have Hs := hid hs
  by_cases hkn : k < n
  · have hko : k < ord.length := by rw [Hon.out]; exact hkn
    obtain ⟨b', off', hab, c1⟩ := int_at (Ho.out.later rInt_mono hs.below) (t := k) (by rw [Hml.out]; exact hkn)
    cases hab
    rw [List.getElem_map] at c1
    obtain ⟨x, hx⟩ : ∃ x, ord[k] = x := ⟨_, rfl⟩
    have hxn : x < n := by rw [← hx]; exact Hlt.out _ (List.getElem_mem _)
    have hstep : Hid (∀ y, atF ord (k + 1) y = if y = x then k else atF ord k y) := fun y => by rw [← hx]; exact atF_step' Hinj.out hko y
    rw [hx] at c1
    have c2 := hs.at_.cell hxn
    have f2 := hs.at_.frozen x
    have hbH : ob < wr.heap.size := cell_lt c1
    have hHw : H < wr.heap.size := hs.at_.lt
    clear hs hx
    go_wp2_with fail
    go_roundw
    case rel => exact ⟨k + 1, by omega, by go_num, Hs.out.next (by have := HH.out; omega) (by have := HH.out; have := HWbs.out; omega) hstep.out⟩
    case measure => simp [intOf]; omega
  · have hkn' : k = n := by omega
    obtain ⟨W4, hW4⟩ : ∃ W4, W4 = wr := ⟨_, rfl⟩
    rw [← hW4] at Hs ⊢
    have Hs4 : Hid (AtSt w Wb W4 H n ord n) := by have h := Hs.out; rw [hkn'] at h; exact h
    obtain ⟨b0, b1, b2, b3⟩ := (HB0.out.later Hs4.out.old).get4
    simp only [Nat.zero_add] at b1 b2 b3
    have zw : w.heap.size < W4.heap.size := cell_lt b0
    have zH : H < W4.heap.size := Hs4.out.at_.lt
    have hb4 := Hs4.out.below
    have HB40 := hid (HB0.out.later Hs4.out.old)
    have HB41 := hid (HB1.out.later Hs4.out.old)
    have HF41 : Hid (∀ j, W4.frozen? ⟨w.heap.size + 1, j, none⟩ = false) := fun j => (Hs4.out.old.frozen (p := ⟨w.heap.size + 1, j, none⟩) (by have := HWbs.out; dsimp only; omega)).trans (HF1.out j)
    have Hkn' := hid hkn'
    clear hs Hs hW4 hkn' hk
    have hbn := Hbn.out
    go_wp2_with fail
    refine (copyFunc_any' (S := S) nm p r (some ⟨bb, boff, none⟩) bc bs n W4 (Hb.out.later rBlock_mono hb4) hbn (by omega) Hsm.out).mono ?_
    rintro e w5 ⟨bv, rfl, hown5, hb5⟩
    obtain ⟨xss5, hrow5, hlim5, -⟩ := id hown5
    rw [hbn] at hrow5
    rcases hrow5.2 with ⟨-, hbad⟩ | ⟨R, cap, cur5, rfl, hR1, hR2, hR3, hR4, hR5, -⟩
    · omega
    have hRlt : R < w5.heap.size := hlim5 R rfl
    clear hown5 hrow5 hlim5 b0 b1 b2 b3
    go_wp2_with fail
    obtain ⟨W6, hW6⟩ : ∃ W6, W6 = w5.alloc (.cells #[.string nm, .int .i64 p, .int .i64 r, .slice (some ⟨R, 0, none⟩) n cap] 38) := ⟨_, rfl⟩
    have hs6 : W6.heap.size = w5.heap.size + 1 := by rw [hW6]; simp
    have hb46 : Below W4.heap.size W4 W6 := by rw [hW6]; (have hz0 := (hb5).size; have hy0 := hz0; (try simp at hy0); repeat (first | exact Below.refl _ _ | refine Below.trans ?_ ((hb5).mono (by first|omega|(simp<;>omega))) | refine Below.alloc ?_ (by first|omega|(simp<;>omega)) _ | refine Below.setCell ?_ (by first|omega|(simp<;>omega)) _ | refine below_drewN ?_ _ | refine Below.drew ?_))
    have hst6 : TSt w W6 W6 R cap bs ord 0 := by
     refine ⟨hb4.trans (hb46.mono (by omega)), Nat.le_refl _, fun _ _ _ => rfl, ⟨cur5, ?_, hR5⟩, fun j b hj => by omega⟩
     rw [hW6, Below.heap_alloc _ _ _ hRlt]; exact hR2
    have BO : CellsAt W6 w5.heap.size 0 [.string nm, .int .i64 p, .int .i64 r, .slice (some ⟨R, 0, none⟩) n cap] := by
     intro j u hj; rw [hW6, Nat.zero_add, World.cell?_alloc_new]; simpa using hj
    have FO : ∀ j, W6.frozen? ⟨w5.heap.size, j, none⟩ = false := by intro j; rw [hW6]; simp
    have hzO : w5.heap.size ≠ R := by omega
    have hzw5 : W4.heap.size ≤ w5.heap.size := hb5.size
    have hRw : W4.heap.size + 2 ≤ R := hR1
    rw [← hW6]
    have Hst6 := hid hst6
    have HBO := hid BO
    have HFO := hid FO
    have Hs6 := hid hs6
    have Hb46 := hid hb46
    have HR3 := hid hR3
    have HR4 : Hid (cap ≤ 9223372036854775807) := by have h := hR4; unfold maxLen at h; exact h
    clear hW6 hst6 BO FO hs6 hb46 hb5 hb4 hR1 hR2 hR3 hR4 hR5
    go_loopw [40] (fun i wr => ∃ (k : Nat), k ≤ n ∧ i = .int .i64 k ∧ TSt w W6 wr R cap bs ord k) (fun i _ => n - (intOf i).toNat)
    case atStart => exact ⟨0, Nat.zero_le _, rfl, Hst6.out⟩
    case round =>
     obtain ⟨k, hk, rfl, hs⟩ := hrel
     have Hs := hid hs
     have hnR0 : w.heap.size ≠ R := by omega
     have hnR1 : w.heap.size + 1 ≠ R := by have := HH.out; omega
     have hnRH : H ≠ R := by omega
     have z46 : W4.heap.size ≤ W6.heap.size := Hb46.out.size
     have f3 : wr.cell? ⟨w.heap.size, 3, none⟩ = some (.slice (some ⟨bb, boff, none⟩) n bc) := hs.cell (cell_later' (by have h := HB40.out.get4.2.2.2; rw [Nat.zero_add] at h; exact h) Hb46.out) hnR0
     have hzw : w.heap.size < wr.heap.size := cell_lt f3
     by_cases hkn : k < n
     · have hko : k < ord.length := by rw [Hon.out]; exact hkn
       obtain ⟨b', off', hab, c1⟩ := int_at (Ho.out.later rInt_mono hs.below) (t := k) (by rw [Hml.out]; exact hkn)
       cases hab
       rw [List.getElem_map] at c1
       obtain ⟨q, hq⟩ : ∃ q, ord[k] = q := ⟨_, rfl⟩
       have hqn : q < n := by rw [← hq]; exact Hlt.out _ (List.getElem_mem _)
       rw [hq] at c1
       have Hq : Hid (ord[k]? = some q) := by show _ = _; rw [List.getElem?_eq_getElem hko, hq]
       have hqb : q < bs.length := by rw [Hbn.out]; exact hqn
       obtain ⟨b', off', pa, pc, la, lc, ta, tc, hab, hcs, hp, hl, ht, hd1, hd2⟩ := block_at (Hb.out.later rBlock_mono hs.below) hqb
       cases hab
       obtain ⟨y, hy⟩ : ∃ y, y = bs[q] := ⟨_, rfl⟩
       rw [← hy] at hcs hp hl ht hd1 hd2
       obtain ⟨d0, d1, d2, d3, d4, d5⟩ := hcs.get6
       have zb : bb < wr.heap.size := cell_lt d0
       have zo : ob < wr.heap.size := cell_lt c1
       have hsy : SmallB y := by rw [hy]; exact Hsm.out _ (List.getElem_mem hqb)
       have Hy : Hid (bs[q]? = some y) := by show _ = _; rw [List.getElem?_eq_getElem hqb, hy]
       have Hsy := hid hsy
       have Hp := hid hp
       have Hl := hid hl
       have Ht := hid ht
       have Hd1 := hid hd1
       have Hd2 := hid hd2
       have Hd00 := hid d0
       clear hs hq hcs hy hsy hp hl ht hd1 hd2
       go_wp2_with fail
       refine (copyBlock_any (S := S) y pa la ta pc lc tc wr Hp.out Hl.out Ht.out Hsy.out.phis Hsy.out.list Hsy.out.to Hsy.out.src Hsy.out.args).mono ?_
       rintro e w2 ⟨pv, lv, tv, rfl, hbi, hb2⟩
       obtain ⟨⟨pa2, pc2, rfl⟩, ⟨la2, lc2, rfl⟩, ⟨ta2, tc2, rfl⟩⟩ := hbi.shape
       obtain ⟨W7, hW7⟩ : ∃ W7, W7 = w2.alloc (.cells #[.slice pa2 y.phis.length pc2, .slice la2 y.list.length lc2, .int .i64 y.fin.kind, .bool y.fin.on.reg, .int .i64 y.fin.on.n, .slice ta2 y.fin.to.length tc2] 76) := ⟨_, rfl⟩
       have XB : CellsAt W7 w2.heap.size 0 [.slice pa2 y.phis.length pc2, .slice la2 y.list.length lc2, .int .i64 y.fin.kind, .bool y.fin.on.reg, .int .i64 y.fin.on.n, .slice ta2 y.fin.to.length tc2] := by
        intro j u hj; rw [hW7, Nat.zero_add, World.cell?_alloc_new]; simpa using hj
       have hs7 : W7.heap.size = w2.heap.size + 1 := by rw [hW7]; simp
       have hb27 : Below w2.heap.size w2 W7 := by rw [hW7]; (repeat (first | exact Below.refl _ _ | refine Below.alloc ?_ (by first|omega|(simp<;>omega)) _ | refine Below.setCell ?_ (by first|omega|(simp<;>omega)) _ | refine below_drewN ?_ _ | refine Below.drew ?_))
       have zr2 : wr.heap.size ≤ w2.heap.size := hb2.size
       have Hbi := hid hbi
       have Hb2 := hid hb2
       have HXB := hid XB
       have Hs7 := hid hs7
       have Hb27 := hid hb27
       have x5 : W7.cell? ⟨w2.heap.size, 5, none⟩ = some (.slice ta2 y.fin.to.length tc2) := by have h := XB.get6.2.2.2.2.2; rw [Nat.zero_add] at h; exact h
       have zx : w2.heap.size < W7.heap.size := by omega
       have hb07 : Below wr.heap.size wr W7 := hb2.trans (hb27.mono zr2)
       have Hb07 := hid hb07
       clear hbi hb2 XB hs7 hb27 d0 d1 d2 d3 d4 d5 c1 hb07
       go_wp2_with fail
       rw [← hW7]
       clear hW7 x5
       obtain ⟨wo, hwo⟩ : ∃ wo : World, wo = wr := ⟨_, rfl⟩
       subst hwo
       go_loopw [55] (fun i wi => ∃ (t : Nat), t ≤ y.fin.to.length ∧ i = .int .i64 t ∧ ToSt W7 wi (.slice ta2 y.fin.to.length tc2) y.fin.to ord t) (fun i _ => y.fin.to.length - (intOf i).toNat)
       case atStart =>
        refine ⟨0, Nat.zero_le _, rfl, ?_⟩
        obtain ⟨a1, b1, a2, b2, a3, b3, k1, k2, k3, -, -, -, o1, o2, o3⟩ := Hbi.out
        have o3' := o3.kept (w' := W7) rInt_mono (fun b h1 h2 => Hb27.out.block b (by omega))
        exact ⟨⟨rfl, rfl, rfl, Nat.le_refl _, fun _ _ _ => rfl⟩, rfl, fun T hT j hj => by rw [if_neg (Nat.not_lt_zero _)]; exact (o3'.ints T hT).2.2.1 j hj, fun T j hT => (o3'.ints T hT).2.2.2 j⟩
       case round =>
        obtain ⟨t, htt, rfl, hts⟩ := hrel
        have htb : y.fin.to.length ≤ 1048576 := Hsy.out.to
        have Hts := hid hts
        have hTr : Hid (∀ T, (Value.slice ta2 y.fin.to.length tc2).ownBlock = some T → wo.heap.size ≤ T ∧ T < w2.heap.size) := fun T hT => by
         obtain ⟨a1, b1, a2, b2, a3, b3, k1, k2, k3, -, -, -, o1, o2, o3⟩ := Hbi.out
         have h := (o3.ints T hT).1
         omega
        have x5 : wr.cell? ⟨w2.heap.size, 5, none⟩ = some (.slice ta2 y.fin.to.length tc2) := by
         rw [World.cell?_of_block (w := W7) (a := ⟨w2.heap.size, 5, none⟩) (hts.grow.block _ zx (fun e => by have h9 := (hTr.out _ e.symm).2; dsimp only at h9; omega))]
         have h := HXB.out.get6.2.2.2.2.2; rw [Nat.zero_add] at h; exact h
        have zx2 : w2.heap.size < wr.heap.size := cell_lt x5
        by_cases htl : t < y.fin.to.length
        ·

         obtain ⟨T, hta⟩ : ∃ T, ta2 = some ⟨T, 0, none⟩ := by
          obtain ⟨a1, b1, a2, b2, a3, b3, k1, k2, k3, -, -, -, o1, o2, o3⟩ := Hbi.out
          obtain ⟨xss, h1, -⟩ := o3
          rcases h1.2 with ⟨e, h0⟩ | ⟨g, cap, cur, e, -⟩
          · omega
          · cases e; exact ⟨_, rfl⟩
         subst hta
         have hT : (Value.slice (some ⟨T, 0, none⟩) y.fin.to.length tc2).ownBlock = some T := rfl
         obtain ⟨hT1, hT2⟩ := hTr.out T hT
         have c1 := hts.cells T hT t htl
         rw [if_neg (Nat.lt_irrefl t)] at c1
         have f1 := hts.free T t hT
         have hz := (Hto.out q y Hy.out).2 (y.fin.to[t]'htl) (List.getElem_mem htl)
         obtain ⟨z, hze⟩ := Int.eq_ofNat_of_zero_le hz.1
         have hzn : z < n := by have := Hbn.out; omega
         have hHT : some H ≠ (Value.slice (some ⟨T, 0, none⟩) y.fin.to.length tc2).ownBlock := fun e => by have e' : H = T := Option.some.inj e; have := Hs.out.size; omega
         have c2 : wr.cell? ⟨H, z, none⟩ = some (.int .i64 ((placeOf ord z : Nat) : Int)) := by
          have h1 := Hs4.out.at_.cell hzn
          rw [show atF ord n z = placeOf ord z by have h := atF_place (Hall.out z hzn); rw [Hon.out] at h; exact h] at h1
          have h2 := Hs.out.cell (cell_later' h1 Hb46.out) hnRH
          have h3 := cell_later' h2 Hb07.out
          rw [World.cell?_of_block (w := W7) (a := ⟨H, z, none⟩) (hts.grow.block H (cell_lt h3) hHT)]; exact h3
         have Hnx : Hid (ToSt W7 (wr.setCell ⟨T, t, none⟩ (.int .i64 ((placeOf ord z : Nat) : Int))) (.slice (some ⟨T, 0, none⟩) y.fin.to.length tc2) y.fin.to ord (t + 1)) := hts.next hT htl (by rw [hze, Int.toNat_natCast])
         rw [hze] at c1
         have zT : T < wr.heap.size := cell_lt c1
         have zH2 : H < wr.heap.size := cell_lt c2
         generalize placeOf ord z = pl at c2 Hnx
         clear hts hz hze hT hHT
         go_wp2_with fail
         go_big_region
         all_goals
          go_wp2_with fail
          go_roundw
          case rel => exact ⟨t + 1, by omega, by go_num, by first | exact Hnx.out | exact Hnx.out.drew | exact Hnx.out.drewN _⟩
          case measure => simp [intOf]; omega

        · have htl' : t = y.fin.to.length := by omega
          have Htl := hid htl'
          clear htl'
          obtain ⟨ab, aoff, ra, rc, haa, c3, hrow⟩ := row_at (HA.out.later rRow_mono Hs.out.below) (t := q) (by rw [HAl.out]; exact hqn)
          subst haa
          obtain ⟨fr, hfr⟩ : ∃ fr, fr = (aheadF bs)[q]'(by rw [HAl.out]; exact hqn) := ⟨_, rfl⟩
          rw [← hfr] at c3 hrow
          have Hfr := hid hfr
          have Hrow := hid hrow
          have c4 : wr.cell? ⟨ab, aoff + q, none⟩ = some (.slice ra fr.length rc) := by
           have h3 := cell_later' c3 Hb07.out
           rw [World.cell?_of_block (w := W7) (a := ⟨ab, aoff + q, none⟩) (hts.grow.block ab (cell_lt h3) (fun e => by have h9 := (hTr.out _ e.symm).1; have h8 := cell_lt c3; omega))]; exact h3
          have zab : ab < wr.heap.size := cell_lt c4
          have x0 : wr.cell? ⟨w2.heap.size, 0, none⟩ = some (.slice pa2 y.phis.length pc2) := by
           rw [World.cell?_of_block (w := W7) (a := ⟨w2.heap.size, 0, none⟩) (hts.grow.block _ zx (fun e => by have h9 := (hTr.out _ e.symm).2; dsimp only at h9; omega))]
           have h := HXB.out.get6.1; exact h
          have hb08 : Below wo.heap.size wo wr := ⟨hts.grow.os.trans Hb07.out.os, hts.grow.tape.trans Hb07.out.tape, hts.grow.output.trans Hb07.out.output, by have := hts.size; have := Hb07.out.size; omega, fun b hb => by
           rw [hts.grow.block b (by omega) (fun e => by have h9 := (hTr.out _ e.symm).1; omega), Hb07.out.block b hb]⟩
          have Hb08 := hid hb08
          have hx8 : CellsAt wr w2.heap.size 0 [.slice pa2 y.phis.length pc2, .slice la2 y.list.length lc2, .int .i64 y.fin.kind, .bool y.fin.on.reg, .int .i64 y.fin.on.n, .slice ta2 y.fin.to.length tc2] := fun j u hj => by
           rw [World.cell?_of_block (w := W7) (a := ⟨w2.heap.size, 0 + j, none⟩) (hts.grow.block _ zx (fun e => by have h9 := (hTr.out _ e.symm).2; dsimp only at h9; omega))]
           exact HXB.out j u hj
          have HX8 := hid hx8
          have h40 : ord.length ≤ 40 := by rw [Hon.out]; omega
          obtain ⟨a1, b1, hab1, hpv, hlv, htv⟩ := Hbi.out.turned Hb27.out (by have h := hts; rw [Htl.out] at h; exact h) h40
          have Hab1 := hid hab1
          have Hpv := hid hpv
          have Hlv := hid hlv
          have Htv := hid htv
          clear hts hfr hrow c3 hb08 hx8 hab1 hpv hlv htv
          go_wp2_with fail
          obtain ⟨W8, hW8⟩ : ∃ W8 : World, W8 = wr := ⟨_, rfl⟩
          subst hW8
          go_loopw [80] (fun i wi => ∃ (p : Nat), p ≤ y.phis.length ∧ i = .int .i64 p ∧ PhSt W8 wi (.slice pa2 y.phis.length pc2) y.phis ord fr p) (fun i _ => y.phis.length - (intOf i).toNat)
          case atStart => exact ⟨0, Nat.zero_le _, rfl, PhSt.start (fun P j hP => (Hpv.out.row P hP).2.2 j)⟩
          case round =>
           obtain ⟨pi, hpi, rfl, hps⟩ := hrel
           have hpb : y.phis.length ≤ 1048576 := Hsy.out.phis
           have Hps := hid hps
           have hP8 : Hid (∀ P, (Value.slice pa2 y.phis.length pc2).ownBlock = some P → a1 ≤ P ∧ P < b1 ∧ P < w2.heap.size ∧ wo.heap.size ≤ P) := fun P hP => by have h := (Hpv.out.row P hP).1; have h2 := Hab1.out; omega
           by_cases hpl : pi < y.phis.length
           ·

            obtain ⟨P, cP, cs, hPe, hPab, hcp, hrp⟩ := Hpv.out.at hpl
            cases hPe
            obtain ⟨qq, hqq⟩ : ∃ qq, qq = y.phis[pi]'hpl := ⟨_, rfl⟩
            rw [← hqq] at hrp
            obtain ⟨fa, fc, rfl, hsrc, hsl, hdst⟩ := hrp.opens
            have hPP : (Value.slice (some ⟨P, 0, none⟩) y.phis.length pc2).ownBlock = some P := rfl
            obtain ⟨-, -, hP3, hP4⟩ := hP8.out P hPP
            have hz89 : W8.heap.size ≤ wr.heap.size := hps.grow.size
            have hw28 : w2.heap.size < W8.heap.size := cell_lt x0
            obtain ⟨hc80, hc81⟩ := hcp.get2
            have Hqq := hid hqq
            have Hsrc := hid hsrc
            have Hc80 := hid hc80
            have Hc81 := hid hc81
            have hfl : qq.src.length = fr.length := by
             have h := Hphi.out q y Hy.out qq (by rw [hqq]; exact List.getElem_mem hpl)
             rw [h, Hfr.out]; simp [aheadF]
            have hf80 : fr.length ≤ 80 := by
             have h := predsOf_len q bs 0 (fun x hx => by obtain ⟨i, hi, rfl⟩ := List.getElem_of_mem hx; exact (Hto.out i _ (List.getElem?_eq_getElem hi)).1)
             have h2 : fr = predsOf bs 0 q := by rw [Hfr.out]; simp [aheadF]
             rw [h2]; have := Hbn.out; omega
            have Hfp : Hid (∀ a ∈ fr, 0 ≤ a ∧ a < (n : Int)) := fun a ha => by
             have h2 : fr = predsOf bs 0 q := by rw [Hfr.out]; simp [aheadF]
             rw [h2] at ha
             have h := predsOf_mem ha
             have := Hbn.out
             omega
            have HAT : Hid (∀ z, z < n → wo.cell? ⟨H, z, none⟩ = some (.int .i64 ((placeOf ord z : Nat) : Int))) := fun z hzn => by
             have h1 := Hs4.out.at_.cell hzn
             rw [show atF ord n z = placeOf ord z by have h := atF_place (Hall.out z hzn); rw [Hon.out] at h; exact h] at h1
             exact Hs.out.cell (cell_later' h1 Hb46.out) hnRH
            have HbW9 : Hid (Below wo.heap.size wo wr) := ⟨hps.grow.os.trans Hb08.out.os, hps.grow.tape.trans Hb08.out.tape, hps.grow.output.trans Hb08.out.output, by have := hps.grow.size; have := Hb08.out.size; omega, fun b hb => by
             rw [hps.grow.block b (by have := Hb08.out.size; omega) (fun e => by have h9 := (hP8.out _ e.symm).2.2.2; omega), Hb08.out.block b hb]⟩
            have Hfl := hid hfl
            clear hps hqq hcp hrp hsrc hc80 hc81 hfl
            obtain ⟨W9, hW9⟩ : ∃ W9 : World, W9 = wr := ⟨_, rfl⟩
            subst hW9
            obtain ⟨w10, hmk, hown0, hgrow0⟩ := run_make_own (P := Tryz.prog) W9 W9.heap.size 78 72 ivv _ 2 Tryz.underlying78 hivv hvz0 hvz1 .i64 .i64 fr.length (by rw [hvz2]; omega) (by unfold maxLen; omega) (Nat.le_refl _)
            have hown1 : Own W9.heap.size w10 72 2 rVal (.slice (some ⟨W9.heap.size, 0, none⟩) 0 fr.length) [] := ⟨[], hown0, rfl, fun i cs h => by simp at h, fun i cs x h => by simp at h⟩
            have hb10 : Below W9.heap.size W9 w10 := ⟨hgrow0.os, hgrow0.tape, hgrow0.output, hgrow0.size, fun k hk => hgrow0.block k hk (by simp)⟩
            have Hbd0 : Hid (Build W9 w10 72 2 rVal (.slice (some ⟨W9.heap.size, 0, none⟩) 0 fr.length) (srcF ord fr qq.src 0)) := ⟨hown1, hb10⟩
            clear hown0 hgrow0 hown1 hb10
            go_wp2_with fail
            go_loopw [17, 88] (fun v17 i wi => ∃ (n' : Nat) (v : Value), v = v17 ∧ n' ≤ n ∧ i = .int .i64 n' ∧ Build W9 wi 72 2 rVal v (srcF ord fr qq.src n')) (fun _ i _ => n - (intOf i).toNat)
            case atStart => exact ⟨0, _, rfl, Nat.zero_le _, rfl, Hbd0.out⟩
            case round =>
             obtain ⟨n', v, rfl, hn', rfl, hbd⟩ := hrel
             have Hbd := hid hbd
             clear hbd
             by_cases hnl : n' < n
             · go_wp2_with fail
               go_loopw [17, 93] (fun v17 i wi => ∃ (j : Nat) (v : Value), v = v17 ∧ j ≤ fr.length ∧ i = .int .i64 j ∧ Build W9 wi 72 2 rVal v (srcF ord fr qq.src n' ++ pickI ord n' fr qq.src j)) (fun _ i _ => fr.length - (intOf i).toNat)
               case atStart => exact ⟨0, _, rfl, Nat.zero_le _, rfl, by have h := Hbd.out; simpa [pickI] using h⟩
               case round =>
                obtain ⟨j, v2, rfl, hj, rfl, hbd2⟩ := hrel
                have Hbd2 := hid hbd2
                clear hbd2
                by_cases hjl : j < fr.length
                · have hbw : Below wo.heap.size wo wr := HbW9.out.trans (Hbd2.out.old.mono HbW9.out.size)
                  have Hbw := hid hbw
                  obtain ⟨rb, roff, hra, e1⟩ := int_at (Hrow.out.later rInt_mono hbw) hjl
                  cases hra
                  have hz := Hfp.out _ (List.getElem_mem hjl)
                  obtain ⟨z, hze⟩ := Int.eq_ofNat_of_zero_le hz.1
                  have hzn : z < n := by omega
                  rw [hze] at e1
                  have e2 := cell_later' (HAT.out z hzn) hbw
                  have hpk : placeOf ord (fr.getD j 0).toNat = placeOf ord z := by
                   rw [List.getD_eq_getElem?_getD, List.getElem?_eq_getElem hjl, Option.getD_some, hze, Int.toNat_natCast]
                  have hjs : j < qq.src.length := by rw [Hfl.out]; exact hjl
                  have zrb : rb < wr.heap.size := cell_lt e1
                  have zH3 : H < wr.heap.size := cell_lt e2
                  have hll : (srcF ord fr qq.src n' ++ pickI ord n' fr qq.src j).length + 1 ≤ 2097152 := by
                   have h1 := srcF_len ord fr qq.src n'
                   have h2 := pickI_len ord n' fr qq.src j
                   have h3 := Nat.mul_le_mul (show n' ≤ 40 by omega) hf80
                   rw [List.length_append]; omega
                  have Hll := hid hll
                  clear hbw hz hze hll
                  by_cases hpe : placeOf ord z = n'
                  · have Hnx : Hid (srcF ord fr qq.src n' ++ pickI ord n' fr qq.src (j + 1) = (srcF ord fr qq.src n' ++ pickI ord n' fr qq.src j) ++ [qq.src[j]]) := by
                     show _ = _
                     rw [pickI_succ, pickAt_yes (hpk.trans hpe) hjs, List.append_assoc]
                    clear hpk
                    rw [hpe] at e2
                    obtain ⟨b', off', fa', fc', hpa, q0, q1, q2, -, -⟩ := phi_at Hp.out hpl
                    cases hpa
                    rw [← Hqq.out] at q1 q2
                    obtain ⟨sb, soff, hsa, s0, s1⟩ := val_at q2 hjs
                    cases hsa
                    have g3 := cell_later' f3 Hbw.out
                    have g4 := cell_later' Hd00.out Hbw.out
                    have g5 := cell_later' q1 Hbw.out
                    have g6 := cell_later' s0 Hbw.out
                    have g7 := cell_later' s1 Hbw.out
                    have y3 := cell_lt g3
                    have y4 := cell_lt g4
                    have y5 := cell_lt g5
                    have y6 := cell_lt g6
                    obtain ⟨-, -, cs9, -, -, ⟨-, hn1, hn2⟩, -⟩ := q2.get hjs
                    have Hn12 : Hid (-9223372036854775808 ≤ (qq.src[j]).n ∧ (qq.src[j]).n ≤ 9223372036854775807) := ⟨hn1, hn2⟩
                    clear q0 q1 q2 s0 s1 hpe hn1 hn2
                    go_wp2_with (at_builtin; refine wpList_append_Own rfl _ _ 78 rfl W9.heap.size 72 ivv _ 2 16 Tryz.underlying78 hivv hvz0 hvz1 hvz2 rfl (by decide) rVal_mono v2 (srcF ord fr qq.src n' ++ pickI ord n' fr qq.src j) rfl ?_ ⟨wr.heap.size, 0, none⟩ 1 [.bool (qq.src[j]).reg, .int .i64 (qq.src[j]).n] (qq.src[j]) rfl rfl ?_ ?_ ?_ Hll.out (by decide) ?_ ?_)
                    · exact Hbd2.out.own.later rVal_mono (by (repeat (first | exact Below.refl _ _ | refine Below.alloc ?_ (by first|omega|(simp<;>omega)) _ | refine Below.setCell ?_ (by first|omega|(simp<;>omega)) _ | refine below_drewN ?_ _ | refine Below.drew ?_)))
                    · exact new_cells _ _ _ rfl
                    · intro u hu; simp at hu; rcases hu with rfl | rfl <;> rfl
                    · exact ⟨rfl, Hn12.out.1, Hn12.out.2⟩
                    · have := Hbd2.out.old.size; simp; omega
                    · intro v3 w3 hown hgrow g2 cap2 hv3
                      have hb3 : Below W9.heap.size W9 w3 := by
                       refine Below.grown ?_ hgrow (by have := Hbd2.out.old.size; simp; omega) (fun g hg => (Hbd2.out.own.lt g hg).1)
                       have h := Hbd2.out.old
                       (have hz0 := (h).size; have hy0 := hz0; (try simp at hy0); repeat (first | exact Below.refl _ _ | refine Below.trans ?_ ((h).mono (by first|omega|(simp<;>omega))) | refine Below.alloc ?_ (by first|omega|(simp<;>omega)) _ | refine Below.setCell ?_ (by first|omega|(simp<;>omega)) _ | refine below_drewN ?_ _ | refine Below.drew ?_))
                      have Hbd3 : Hid (Build W9 w3 72 2 rVal v3 (srcF ord fr qq.src n' ++ pickI ord n' fr qq.src (j + 1))) := ⟨by rw [Hnx.out]; first | exact hown | (rw [List.append_assoc]; exact hown), hb3⟩
                      clear hown hgrow hb3 hv3
                      go_wp2_with fail
                      go_roundw
                      case rel => exact ⟨j + 1, v3, rfl, by omega, by go_num, Hbd3.out⟩
                      case measure => simp [intOf]; omega
                  ·

                   have Hnx : Hid (srcF ord fr qq.src n' ++ pickI ord n' fr qq.src (j + 1) = srcF ord fr qq.src n' ++ pickI ord n' fr qq.src j) := by
                    show _ = _
                    rw [pickI_succ, pickAt_no (by rw [hpk]; exact hpe), List.append_nil]
                   clear hpk
                   go_wp2_with fail
                   go_roundw
                   case rel => exact ⟨j + 1, _, rfl, by omega, by go_num, by rw [Hnx.out]; exact Hbd2.out⟩
                   case measure => simp [intOf]; omega

                ·

                 have hjj : j = fr.length := by omega
                 have Hbd4 : Hid (Build W9 wr 72 2 rVal v2 (srcF ord fr qq.src (n' + 1))) := by have h := Hbd2.out; rw [hjj, ← srcF_succ] at h; exact h
                 clear hjj
                 go_wp2_with fail
                 go_roundw
                 case rel => exact ⟨n' + 1, v2, rfl, by omega, by go_num, Hbd4.out⟩
                 case measure => simp [intOf]; omega

             ·

              have hnn : n' = ord.length := by rw [Hon.out]; omega
              have hPS := Hps.out.later Hbd.out.old (fun P' h => by have := hP8.out P' h; omega)
              have hsl := Hbd.out.own.toSl rVal_mono (by decide)
              rw [hnn, Hqq.out] at hsl
              obtain ⟨va, vc, rfl⟩ := Hbd.out.own.shape
              have hx9 : W9.cell? ⟨w2.heap.size, 0, none⟩ = some (.slice (some ⟨P, 0, none⟩) y.phis.length pc2) := by
               rw [World.cell?_of_block (w := W8) (a := ⟨w2.heap.size, 0, none⟩) (Hps.out.grow.block _ hw28 (fun e => by have h9 := (hP8.out _ e.symm).2.2.1; dsimp only at h9; omega))]; exact x0
              have hx10 := cell_later' hx9 Hbd.out.old
              have hc10 := (hPS.old P hPP (pi * 2 + 1) (by omega)).trans Hc81.out
              have hf10 := hPS.free P (pi * 2 + 1) hPP
              have zP := cell_lt hc10
              have zx10 := cell_lt hx10
              have Hnx : Hid (PhSt W8 (wr.setCell ⟨P, pi * 2 + 1, none⟩ (.slice va (srcF ord fr qq.src n').length vc)) (.slice (some ⟨P, 0, none⟩) y.phis.length pc2) y.phis ord fr (pi + 1)) :=
               hPS.next hpl hPP (by omega) (by have h := Hc80.out; rw [Hqq.out] at h; exact h) Hc81.out (hsl.mono rVal_mono (fun b hb => ⟨by have := hb.1; omega, hb.2⟩) (Stays.refl _ _))
              clear hPS hsl hx9 hnn
              go_wp2_with fail
              go_roundw
              case rel => exact ⟨pi + 1, by omega, by go_num, Hnx.out⟩
              case measure => simp [intOf]; omega

           · have hpp : pi = y.phis.length := by omega
             rw [hpp] at Hps
             have hps := Hps.out
             have HbE : Hid (Below wo.heap.size wo wr) := ⟨hps.grow.os.trans Hb08.out.os, hps.grow.tape.trans Hb08.out.tape, hps.grow.output.trans Hb08.out.output, by have := hps.grow.size; have := Hb08.out.size; omega, fun b hb => by
              rw [hps.grow.block b (by have := Hb08.out.size; omega) (fun e => by have h9 := (hP8.out _ e.symm).2.2.2; omega), Hb08.out.block b hb]⟩
             have hw28 : w2.heap.size < W8.heap.size := cell_lt x0
             have hxE : CellsAt wr w2.heap.size 0 [.slice pa2 y.phis.length pc2, .slice la2 y.list.length lc2, .int .i64 y.fin.kind, .bool y.fin.on.reg, .int .i64 y.fin.on.n, .slice ta2 y.fin.to.length tc2] :=
              cellsK HX8.out (hps.grow.block _ hw28 (fun e => by have h9 := (hP8.out _ e.symm).2.2.1; omega))
             obtain ⟨e0, e1, e2, e3, e4, e5⟩ := hxE.get6
             simp only [Nat.zero_add] at e1 e2 e3 e4 e5
             have ho3 : wr.cell? ⟨w5.heap.size, 3, none⟩ = some (.slice (some ⟨R, 0, none⟩) n cap) := cell_later' (Hs.out.cell (by have h := HBO.out.get4.2.2.2; rw [Nat.zero_add] at h; exact h) hzO) HbE.out
             have zO : w5.heap.size < wr.heap.size := cell_lt ho3
             have hRo : R < wo.heap.size := by have := Hs.out.size; have := Hs6.out; omega
             have HsE := hid (Hs.out.later HbE.out hRo)
             obtain ⟨curE, hrE, hsE⟩ := HsE.out.row
             have zR : R < wr.heap.size := by have := HbE.out.size; omega
             have hkc : k < cap := by have := HR3.out; omega
             have cR : ∀ j, j < 6 → ∃ u, wr.cell? ⟨R, k * 6 + j, none⟩ = some u := fun j hj => ⟨_, (cell_row hrE).trans (Array.getElem?_eq_getElem (by omega))⟩
             have fR : ∀ j, wr.frozen? ⟨R, j, none⟩ = false := fun j => by simp [World.frozen?, hrE]
             have y0 := fR (k * 6)
             have y1 := fR (k * 6 + 1)
             have y2 := fR (k * 6 + 2)
             have y3 := fR (k * 6 + 3)
             have y4 := fR (k * 6 + 4)
             have y5 := fR (k * 6 + 5)
             obtain ⟨g0, c0⟩ := cR 0 (by omega)
             obtain ⟨g1, c1⟩ := cR 1 (by omega)
             obtain ⟨g2, c2⟩ := cR 2 (by omega)
             obtain ⟨g3, c3⟩ := cR 3 (by omega)
             obtain ⟨g4, c4⟩ := cR 4 (by omega)
             obtain ⟨g5, c5⟩ := cR 5 (by omega)
             rw [Nat.add_zero] at c0
             have Hnx : Hid (TSt w W6 ((((((wr.setCell ⟨R, k * 6, none⟩ (.slice pa2 y.phis.length pc2)).setCell ⟨R, k * 6 + 1, none⟩ (.slice la2 y.list.length lc2)).setCell ⟨R, k * 6 + 2, none⟩ (.int .i64 y.fin.kind)).setCell ⟨R, k * 6 + 3, none⟩ (.bool y.fin.on.reg)).setCell ⟨R, k * 6 + 4, none⟩ (.int .i64 y.fin.on.n)).setCell ⟨R, k * 6 + 5, none⟩ (.slice ta2 y.fin.to.length tc2)) R cap bs ord (k + 1)) := by
              refine HsE.out.next (by omega) (by have := Hs6.out; omega) hkc Hq.out _ _ _ _ _ _ ?_
              have hgd : bs.getD q noBlock = y := by rw [List.getD_eq_getElem?_getD, Hy.out]; rfl
              have hfr2 : fr = predsOf bs 0 q := by rw [Hfr.out]; simp [aheadF]
              have hsz6 : W6.heap.size ≤ wo.heap.size := Hs.out.size
              have hsz2 : wo.heap.size ≤ w2.heap.size := zr2
              have hszE : W8.heap.size ≤ wr.heap.size := hps.grow.size
              have hab := Hab1.out
              have hpsl := hps.sl (C := W6.heap.size) ((Hpv.out.toSl rPhi_mono (by decide)).mono rPhi_mono (fun b hb => ⟨by have := hb.1; omega, by have := hb.2; omega⟩) (Stays.refl _ _)) (fun P hP => (Hpv.out.row P hP).2.1) (by omega)
              have hstE : Stays (fun b => wo.heap.size ≤ b ∧ b < w2.heap.size ∧ (Value.slice pa2 y.phis.length pc2).ownBlock ≠ some b) W8 wr := stays_at fun b hb _ => hps.grow.block b (by omega) (fun e => hb.2.2 e.symm)
              have hlE := Hlv.out.mono (S' := iv W6.heap.size wr.heap.size) rIns_mono (fun b hb => ⟨by have := hb.1; omega, by have := hb.2.1; omega⟩) hstE
              have htE := Htv.out.mono (S' := iv W6.heap.size wr.heap.size) rInt_mono (fun b hb => ⟨by have := hb.1; omega, by have := hb.2.1; omega⟩) hstE
              rw [hgd, ← hfr2]
              exact ⟨_, _, _, rfl, hpsl, hlE, _, rfl, htE, Hd1.out, Hd2.out⟩
             clear hps hxE hrE hsE cR fR
             go_wp2_with fail
             go_roundw
             case rel => exact ⟨k + 1, by omega, by go_num, Hnx.out⟩
             case measure => simp [intOf]; omega
     · have hkn' : k = n := by omega
       have HsN : Hid (TSt w W6 wr R cap bs ord ord.length) := by have h := Hs.out; rw [hkn', ← Hon.out] at h; exact h
       have hoE : CellsAt wr w5.heap.size 0 [.string nm, .int .i64 p, .int .i64 r, .slice (some ⟨R, 0, none⟩) n cap] := cellsK HBO.out (hs.keep _ (by have := Hs6.out; omega) hzO)
       have hrE : CellsAt wr (w.heap.size + 1) 0 [.string ⟨#[]⟩, .int .i64 0, .int .i64 0, .slice none 0 0] := by
        have hz1 : w.heap.size + 1 < W4.heap.size := by have := HH.out; omega
        have h1 := HB41.out.later Hb46.out
        exact cellsK h1 (hs.keep _ (by have := Hb46.out.size; omega) hnR1)
       have hfE : ∀ j, wr.frozen? ⟨w.heap.size + 1, j, none⟩ = false := fun j => by
        have hz1 : w.heap.size + 1 < W4.heap.size := by have := HH.out; omega
        rw [World.frozen?_of_block (w := W6) (a := ⟨w.heap.size + 1, j, none⟩) (hs.keep _ (by have := Hb46.out.size; dsimp only; omega) (by dsimp only; exact hnR1)), World.frozen?_of_block (w := W4) (a := ⟨w.heap.size + 1, j, none⟩) (Hb46.out.block _ (by dsimp only; exact hz1))]
        exact HF41.out j
       obtain ⟨e0, e1, e2, e3⟩ := hoE.get4
       obtain ⟨o0, o1, o2, o3⟩ := hrE.get4
       simp only [Nat.zero_add] at e1 e2 e3 o1 o2 o3
       have y0 := hfE 0
       have y1 := hfE 1
       have y2 := hfE 2
       have y3 := hfE 3
       have zO : w5.heap.size < wr.heap.size := cell_lt e0
       have z1 : w.heap.size + 1 < wr.heap.size := cell_lt o0
       have HrE := hid hrE
       have Hkn' := hid hkn'
       clear hs hoE hrE hfE hkn'
       go_wp2_with fail
       have hcells := set4 (u0 := .string nm) (u1 := .int .i64 p) (u2 := .int .i64 r) (u3 := .slice (some ⟨R, 0, none⟩) n cap) HrE.out
       obtain ⟨h0, h1, h2, h3⟩ := hcells.get4
       simp only [Nat.zero_add] at h1 h2 h3
       obtain ⟨W9, hW9⟩ : ∃ W9, W9 = ((((wr.setCell ⟨w.heap.size + 1, 0, none⟩ (.string nm)).setCell ⟨w.heap.size + 1, 1, none⟩ (.int .i64 p)).setCell ⟨w.heap.size + 1, 2, none⟩ (.int .i64 r)).setCell ⟨w.heap.size + 1, 3, none⟩ (.slice (some ⟨R, 0, none⟩) n cap)) := ⟨_, rfl⟩
       rw [← hW9] at h0 h1 h2 h3 ⊢
       have hle : w.heap.size ≤ w.heap.size + 1 := Nat.le_succ _
       have hb9 : Below w.heap.size w W9 := by
        rw [hW9]
        exact (((HsN.out.below.setCell (p := ⟨w.heap.size + 1, 0, none⟩) hle _).setCell (p := ⟨w.heap.size + 1, 1, none⟩) hle _).setCell (p := ⟨w.heap.size + 1, 2, none⟩) hle _).setCell (p := ⟨w.heap.size + 1, 3, none⟩) hle _
       have hs9 : W9.heap.size = wr.heap.size := by rw [hW9]; simp [World.setCell]
       have hk9 : ∀ b, b ≠ w.heap.size + 1 → W9.heap[b]? = wr.heap[b]? := fun b hb => by
        rw [hW9]
        iterate 4 rw [Below.heap_setCell _ _ _ _ (by dsimp only; exact hb)]
       have hsl := HsN.out.sl (c := cap) (by rw [Hon.out]; exact HR3.out) HR4.out (lo := w.heap.size + 2) (by have := HH.out; omega) (by have := Hs6.out; omega)
       rw [Hon.out] at hsl
       have hsl9 : SlAt (iv w.heap.size W9.heap.size) W9 6 rBlock (.slice (some ⟨R, 0, none⟩) n cap) (turnL bs ord) :=
        (hsl.mono (S' := fun b => w.heap.size + 2 ≤ b ∧ b < wr.heap.size) rBlock_mono (fun b hb => hb) (stays_at (w' := W9) fun b hb _ => hk9 b (by have := hb.1; omega))).mono rBlock_mono (fun b hb => ⟨by have := hb.1; omega, by rw [hs9]; exact hb.2⟩) (Stays.refl _ _)
       refine bodyPost_ret (v := .agg #[.string nm, .int .i64 p, .int .i64 r, .slice (some ⟨R, 0, none⟩) n cap]) ?_ rfl ⟨_, rfl, ?_, hb9⟩
       · simp [results, Tryz.results45, go_sem, h0, h1, h2, h3]
       · exact hsl9

end Go.Proofs.YtnkogppgacappaaGreatDoor
