/- calls.CopyFunc: a function of the call's own memory. calls.Copy: a unit of the call's own memory. slices.Clone at each element type: a row of the call's own with the same cells. -/
import Derived.Test.YtnkogppgacappaaGreatDoorPBack
import Derived.Deep.RegionLaw
import Derived.Deep.RegionWith
import Derived.Test.YtnkogppgacappaaGreatDoorPClone
namespace Go.Proofs.YtnkogppgacappaaGreatDoor
open Go.RowKit

theorem infoBlock : (Tryz.prog.info? 76).map (fun i => (i.zero, i.size, i.bytes)) = some (some (.agg #[.slice none 0 0, .slice none 0 0, .int .i64 0, .bool false, .int .i64 0, .slice none 0 0]), 6, 96) := by kernel_rfl

theorem BlockIn.rd {lo hi : Nat} {w : World} {pv lv tv : Value} {x : DBlock} (h : BlockIn lo hi w pv lv tv x) {S : Nat → Prop} (hS : ∀ b, lo ≤ b → b < hi → S b) (h1 : I64 x.fin.kind) (h2 : I64 x.fin.on.n) :
 rBlock S w [pv, lv, .int .i64 x.fin.kind, .bool x.fin.on.reg, .int .i64 x.fin.on.n, tv] x := by
 obtain ⟨a1, b1, a2, b2, a3, b3, k1, k2, k3, -, -, -, p, l, t⟩ := h
 exact ⟨pv, lv, _, rfl, (p.toSl rPhi_mono (by decide)).mono rPhi_mono (fun b hb => hS b (Nat.le_trans k1.1 hb.1) (Nat.lt_of_lt_of_le hb.2 k1.2.2)) (Stays.refl _ _),
  (l.toSl rIns_mono (by decide)).mono rIns_mono (fun b hb => hS b (Nat.le_trans k2.1 hb.1) (Nat.lt_of_lt_of_le hb.2 k2.2.2)) (Stays.refl _ _),
  tv, rfl, (t.toSl rInt_mono (by decide)).mono rInt_mono (fun b hb => hS b (Nat.le_trans k3.1 hb.1) (Nat.lt_of_lt_of_le hb.2 k3.2.2)) (Stays.refl _ _), h1, h2⟩
theorem BlockIn.shape {lo hi : Nat} {w : World} {pv lv tv : Value} {x : DBlock} (h : BlockIn lo hi w pv lv tv x) : (∃ a c, pv = .slice a x.phis.length c) ∧ (∃ a c, lv = .slice a x.list.length c) ∧ ∃ a c, tv = .slice a x.fin.to.length c := by
 obtain ⟨a1, b1, a2, b2, a3, b3, k1, k2, k3, -, -, -, p, l, t⟩ := h
 exact ⟨p.shape, l.shape, t.shape⟩

structure SmallB (x : DBlock) : Prop where
 phis : x.phis.length ≤ 1048576
 list : x.list.length ≤ 1048576
 to : x.fin.to.length ≤ 1048576
 src : ∀ p ∈ x.phis, p.src.length ≤ 1048576
 args : ∀ i ∈ x.list, i.args.length ≤ 1048576

structure CFSt (w wr : World) (nm : ByteArray) (p r : Int) (v : Value) (l : List DBlock) : Prop where
 own : Own (w.heap.size + 2) wr 76 6 rBlock v l
 below : Below w.heap.size w wr
 box : CellsAt wr w.heap.size 0 [.string nm, .int .i64 p, .int .i64 r, v]
 free : ∀ j, wr.frozen? ⟨w.heap.size, j, none⟩ = false
 out : CellsAt wr (w.heap.size + 1) 0 [.string ⟨#[]⟩, .int .i64 0, .int .i64 0, .slice none 0 0]
 outFree : ∀ j, wr.frozen? ⟨w.heap.size + 1, j, none⟩ = false

theorem CFSt.next {w wr w3 : World} {nm : ByteArray} {p r : Int} {v v3 : Value} {l l3 : List DBlock} (h : CFSt w wr nm p r v l) (hown : Own (w.heap.size + 2) w3 76 6 rBlock v3 l3) (hb : Below w.heap.size w w3)
 (hk : w3.heap[w.heap.size]? = wr.heap[w.heap.size]?) (hk2 : w3.heap[w.heap.size + 1]? = wr.heap[w.heap.size + 1]?) : CFSt w (w3.setCell ⟨w.heap.size, 3, none⟩ v3) nm p r v3 l3 := by
 have c : ∀ j, w3.cell? ⟨w.heap.size, j, none⟩ = wr.cell? ⟨w.heap.size, j, none⟩ := fun j => World.cell?_of_block (a := ⟨w.heap.size, j, none⟩) hk
 have c' : ∀ j, w3.cell? ⟨w.heap.size + 1, j, none⟩ = wr.cell? ⟨w.heap.size + 1, j, none⟩ := fun j => World.cell?_of_block (a := ⟨w.heap.size + 1, j, none⟩) hk2
 obtain ⟨b0, b1, b2, b3⟩ := h.box.get4
 obtain ⟨o0, o1, o2, o3⟩ := h.out.get4
 simp only [Nat.zero_add] at b0 b1 b2 b3 o0 o1 o2 o3
 have hne : w.heap.size + 1 ≠ w.heap.size := by omega
 have e3 : w3.cell? ⟨w.heap.size, 3, none⟩ = some v := (c 3).trans b3
 refine ⟨hown.setLow rBlock_mono (by dsimp only; omega) _, hb.setCell (Nat.le_refl _) _, ?_, fun j => ?_, ?_, fun j => ?_⟩
 · refine .cons ?_ (.cons ?_ (.cons ?_ (.cons ?_ (CellsAt.nil _ _ _))))
   · rw [cell_set e3, if_neg (by decide)]; exact (c 0).trans b0
   · rw [cell_set e3, if_neg (by decide)]; exact (c 1).trans b1
   · rw [cell_set e3, if_neg (by decide)]; exact (c 2).trans b2
   · rw [cell_set e3, if_pos rfl]
 · rw [show (w3.setCell ⟨w.heap.size, 3, none⟩ v3).frozen? ⟨w.heap.size, j, none⟩ = w3.frozen? ⟨w.heap.size, j, none⟩ by simp, World.frozen?_of_block (w := wr) (a := ⟨w.heap.size, j, none⟩) hk]; exact h.free j
 · refine .cons ?_ (.cons ?_ (.cons ?_ (.cons ?_ (CellsAt.nil _ _ _))))
   · rw [cell_set_ne _ hne]; exact (c' 0).trans o0
   · rw [cell_set_ne _ hne]; exact (c' 1).trans o1
   · rw [cell_set_ne _ hne]; exact (c' 2).trans o2
   · rw [cell_set_ne _ hne]; exact (c' 3).trans o3
 · rw [show (w3.setCell ⟨w.heap.size, 3, none⟩ v3).frozen? ⟨w.heap.size + 1, j, none⟩ = w3.frozen? ⟨w.heap.size + 1, j, none⟩ by simp, World.frozen?_of_block (w := wr) (a := ⟨w.heap.size + 1, j, none⟩) hk2]; exact h.outFree j
theorem block_at {S : Nat → Prop} {w : World} {a : Option Addr} {n c : Nat} {l : List DBlock} (h : SlAt S w 6 rBlock (.slice a n c) l) {k : Nat} (hk : k < l.length) :
 ∃ b off pa pc la lc ta tc, a = some ⟨b, off, none⟩ ∧ CellsAt w b (off + k * 6) [.slice pa l[k].phis.length pc, .slice la l[k].list.length lc, .int .i64 l[k].fin.kind, .bool l[k].fin.on.reg, .int .i64 l[k].fin.on.n, .slice ta l[k].fin.to.length tc] ∧
   SlAt S w 2 rPhi (.slice pa l[k].phis.length pc) l[k].phis ∧ SlAt S w 8 rIns (.slice la l[k].list.length lc) l[k].list ∧ SlAt S w 1 rInt (.slice ta l[k].fin.to.length tc) l[k].fin.to ∧ I64 l[k].fin.kind ∧ I64 l[k].fin.on.n := by
 obtain ⟨b, off, cs, ha, -, hr, -, hcs⟩ := h.get hk
 obtain ⟨pa, pc, la, lc, ta, tc, rfl, h1, h2, h3, -, -, -, h4, h5⟩ := hr.opens
 exact ⟨b, off, pa, pc, la, lc, ta, tc, ha, hcs, h1, h2, h3, h4, h5⟩

set_option maxRecDepth 100000 in
set_option maxHeartbeats 4000000 in
theorem copyFunc_any {S : Nat → Prop} (nm : ByteArray) (p r : Int) (ba : Option Addr) (bc : Nat) (bs : List DBlock) (w : World) (hb : SlAt S w 6 rBlock (.slice ba bs.length bc) bs) (hn : bs.length ≤ 1048576) (hsm : ∀ x ∈ bs, SmallB x) :
 Calls Tryz.prog 66 #[.agg #[.string nm, .int .i64 p, .int .i64 r, .slice ba bs.length bc]] w fun e w' =>
  ∃ bv, e = .returned (.agg #[.string nm, .int .i64 p, .int .i64 r, bv]) ∧ OwnIn (w.heap.size + 2) w'.heap.size w' 76 6 rBlock bv bs ∧ Below w.heap.size w w' := by
 have Hb := hid hb
 have Hsm := hid hsm
 clear hb hsm
 obtain ⟨ib, hib, hbz0, hbz1, hbz2⟩ := info_parts infoBlock
 go_enter Tryz.func66, Tryz.ntmps66
 go_wp2_with fail
 obtain ⟨W0, hW0⟩ : ∃ W0, W0 = (w.alloc (.cells #[.string nm, .int .i64 p, .int .i64 r, .slice none 0 0] 38)).alloc (.cells #[.string ⟨#[]⟩, .int .i64 0, .int .i64 0, .slice none 0 0] 38) := ⟨_, rfl⟩
 have hst : CFSt w W0 nm p r (.slice none 0 0) [] := by
  refine ⟨Own.nil _ _ _ _ _, by rw [hW0]; (repeat (first | exact Below.refl _ _ | refine Below.alloc ?_ (by first|omega|(simp<;>omega)) _ | refine Below.setCell ?_ (by first|omega|(simp<;>omega)) _ | refine below_drewN ?_ _ | refine Below.drew ?_)), ?_, by intro j; rw [hW0]; simp, ?_, by intro j; rw [hW0]; simp⟩
  · intro j u hj; rw [hW0, Nat.zero_add, World.cell?_alloc2_first]; simpa using hj
  · intro j u hj; rw [hW0, Nat.zero_add, World.cell?_alloc2_new]; simpa using hj
 have hs0 : w.heap.size + 2 ≤ W0.heap.size := by rw [hW0]; simp
 rw [← hW0]
 have Hst := hid hst
 clear hW0 hst
 go_loopw [11] (fun i wr => ∃ (k : Nat) (v : Value), k ≤ bs.length ∧ i = .int .i64 k ∧ w.heap.size + 2 ≤ wr.heap.size ∧ CFSt w wr nm p r v (bs.take k)) (fun i _ => bs.length - (intOf i).toNat)
 case atStart => exact ⟨0, _, Nat.zero_le _, rfl, hs0, Hst.out⟩
 case round =>
  obtain ⟨k, v, hk, rfl, hsz, hs⟩ := hrel
  have Hs := hid hs
  by_cases hkl : k < bs.length
  · obtain ⟨b, off, pa, pc, la, lc, ta, tc, rfl, hcs, hp, hl, ht, hd1, hd2⟩ := block_at (Hb.out.later rBlock_mono hs.below) hkl
    obtain ⟨d0, d1, d2, d3, d4, d5⟩ := hcs.get6
    have hb9 : b < wr.heap.size := cell_lt d0
    obtain ⟨y, hy⟩ : ∃ y, y = bs[k] := ⟨_, rfl⟩
    rw [← hy] at d0 d1 d2 d3 d4 d5 hp hl ht hd1 hd2
    have Hy := hid hy
    have hsy : SmallB y := by rw [hy]; exact Hsm.out _ (List.getElem_mem hkl)
    have Hsy := hid hsy
    have Hp := hid hp
    have Hl := hid hl
    have Ht := hid ht
    have Hd1 := hid hd1
    have Hd2 := hid hd2
    obtain ⟨W1, hW1⟩ : ∃ W1, W1 = wr.alloc (.cells #[.slice pa y.phis.length pc, .slice la y.list.length lc, .int .i64 y.fin.kind, .bool y.fin.on.reg, .int .i64 y.fin.on.n, .slice ta y.fin.to.length tc] 76) := ⟨_, rfl⟩
    have kc : CellsAt W1 wr.heap.size 0 [.slice pa y.phis.length pc, .slice la y.list.length lc, .int .i64 y.fin.kind, .bool y.fin.on.reg, .int .i64 y.fin.on.n, .slice ta y.fin.to.length tc] := by
     intro j u hj
     rw [hW1, Nat.zero_add, World.cell?_alloc_new]
     simpa using hj
    have hz1 : W1.heap.size = wr.heap.size + 1 := by rw [hW1]; simp
    have hbW1 : Below wr.heap.size wr W1 := by rw [hW1]; (repeat (first | exact Below.refl _ _ | refine Below.alloc ?_ (by first|omega|(simp<;>omega)) _ | refine Below.setCell ?_ (by first|omega|(simp<;>omega)) _ | refine below_drewN ?_ _ | refine Below.drew ?_))
    have HbW1 := hid hbW1
    obtain ⟨m0, m1, m2, m3, m4, m5⟩ := kc.get6
    simp only [Nat.zero_add] at m1 m2 m3 m4 m5
    have hzw : w.heap.size < W1.heap.size := by omega
    have g3 : W1.cell? ⟨w.heap.size, 3, none⟩ = some v := cell_later' (hs.box.get4.2.2.2) hbW1
    have f3 : W1.frozen? ⟨w.heap.size, 3, none⟩ = false := (hbW1.frozen (p := ⟨w.heap.size, 3, none⟩) (by dsimp only; omega)).trans (hs.free 3)
    clear hs hcs hy hsy hp hl ht hd1 hd2 kc hbW1
    go_wp2_with fail
    clear d0 d1 d2 d3 d4 d5
    rw [← hW1]
    have HW1 := hid hW1
    clear hW1
    go_region_law
     (first
       | (go_simp; go_at_call 77; refine (copyBlock_any (S := S) y pa la ta pc lc tc W1.drew (Hp.out.later rPhi_mono HbW1.out.drew) (Hl.out.later rIns_mono HbW1.out.drew) (Ht.out.later rInt_mono HbW1.out.drew) Hsy.out.phis Hsy.out.list Hsy.out.to Hsy.out.src Hsy.out.args).mono ?_; rintro e w2 ⟨pv, lv, tv, rfl, hbi, hb2⟩; have hbb : Below W1.heap.size W1 w2 := (Below.refl W1.heap.size W1).drew.trans hb2; have Hbb := hid hbb; have Hbi := hid hbi; have n3 := cell_later' g3 hbb; have n0 := cell_later' m0 hbb; have n1 := cell_later' m1 hbb; have n2 := cell_later' m2 hbb; have n4 := cell_later' m3 hbb; have n5 := cell_later' m4 hbb; have n6 := cell_later' m5 hbb; have zz0 : w.heap.size < w2.heap.size := cell_lt n3; have zz1 : wr.heap.size < w2.heap.size := cell_lt n0; have zz2 : W1.heap.size ≤ w2.heap.size := hbb.size; have ff3 : w2.frozen? ⟨w.heap.size, 3, none⟩ = false := (hbb.frozen (p := ⟨w.heap.size, 3, none⟩) hzw).trans f3; obtain ⟨⟨pa2, pc2, rfl⟩, ⟨la2, lc2, rfl⟩, ⟨ta2, tc2, rfl⟩⟩ := hbi.shape; clear hbi hb2 hbb)
       | (refine step_append_Own rfl _ _ 36 rfl (w.heap.size + 2) 76 ib _ 6 96 Tryz.underlying36 hib hbz0 hbz1 hbz2 rfl (by decide) rBlock_mono v (bs.take k) rfl ?_ ⟨w2.heap.size, 0, none⟩ 1 [.slice pa2 y.phis.length pc2, .slice la2 y.list.length lc2, .int .i64 y.fin.kind, .bool y.fin.on.reg, .int .i64 y.fin.on.n, .slice ta2 y.fin.to.length tc2] y rfl rfl ?_ ?_ ?_ ?_ (by decide) ?_ ?_
          · exact Hs.out.own.later rBlock_mono (by have h := HbW1.out; have h2 := Hbb.out; (have hz0 := (h2).size; have hy0 := hz0; (try simp at hy0); have hz1 := (h).size; have hy1 := hz1; (try simp at hy1); repeat (first | exact Below.refl _ _ | refine Below.trans ?_ ((h2).mono (by first|omega|(simp<;>omega))) | refine Below.trans ?_ ((h).mono (by first|omega|(simp<;>omega))) | refine Below.alloc ?_ (by first|omega|(simp<;>omega)) _ | refine Below.setCell ?_ (by first|omega|(simp<;>omega)) _ | refine below_drewN ?_ _ | refine Below.drew ?_)))
          · exact new_cells w2 _ _ rfl
          · intro u hu; simp at hu; rcases hu with rfl | rfl | rfl | rfl | rfl | rfl <;> rfl
          · exact rBlock_mono.out _ _ _ _ _ _ (fun _ h => h) (Stays.below' (by (repeat (first | exact Below.refl _ _ | refine Below.alloc ?_ (by first|omega|(simp<;>omega)) _ | refine Below.setCell ?_ (by first|omega|(simp<;>omega)) _ | refine below_drewN ?_ _ | refine Below.drew ?_)))) (Hbi.out.rd (fun b h1 h2 => ⟨Nat.le_trans (Nat.le_trans hsz (Nat.le_trans (Nat.le_succ _) (Nat.le_of_eq hz1.symm))) h1, Nat.lt_of_lt_of_le h2 (by simp), fun e => Nat.lt_irrefl _ (Nat.lt_of_lt_of_le (Hs.out.own.lt b e).2 (Nat.le_trans (Nat.le_trans (Nat.le_succ _) (Nat.le_of_eq hz1.symm)) h1))⟩) Hd1.out Hd2.out)
          · rw [List.length_take]; omega
          · simp; omega
          intro v3 w3 hown3 hgrow ⟨g9, cap9, hv3⟩
          have hkk : ∀ B, B < w2.heap.size → some B ≠ v.ownBlock → w3.heap[B]? = w2.heap[B]? := fun B h1 h2 => (hgrow.block B (by simp; omega) h2).trans (Below.heap_alloc w2 _ _ h1)
          have na : some w.heap.size ≠ v.ownBlock := fun e => by have := (Hs.out.own.lt _ e.symm).1; omega
          have na1 : some (w.heap.size + 1) ≠ v.ownBlock := fun e => by have := (Hs.out.own.lt _ e.symm).1; omega
          have nb : some wr.heap.size ≠ v.ownBlock := fun e => by have := (Hs.out.own.lt _ e.symm).2; omega
          have x3 := (World.cell?_of_block (w := w2) (a := ⟨w.heap.size, 3, none⟩) (hkk _ zz0 na)).trans n3
          have x0 := (World.cell?_of_block (w := w2) (a := ⟨wr.heap.size, 0, none⟩) (hkk _ zz1 nb)).trans n0
          have x1 := (World.cell?_of_block (w := w2) (a := ⟨wr.heap.size, 1, none⟩) (hkk _ zz1 nb)).trans n1
          have x2 := (World.cell?_of_block (w := w2) (a := ⟨wr.heap.size, 2, none⟩) (hkk _ zz1 nb)).trans n2
          have x4 := (World.cell?_of_block (w := w2) (a := ⟨wr.heap.size, 3, none⟩) (hkk _ zz1 nb)).trans n4
          have x5 := (World.cell?_of_block (w := w2) (a := ⟨wr.heap.size, 4, none⟩) (hkk _ zz1 nb)).trans n5
          have x6 := (World.cell?_of_block (w := w2) (a := ⟨wr.heap.size, 5, none⟩) (hkk _ zz1 nb)).trans n6
          have y3 : w3.frozen? ⟨w.heap.size, 3, none⟩ = false := (World.frozen?_of_block (w := w2) (a := ⟨w.heap.size, 3, none⟩) (hkk _ zz0 na)).trans ff3
          have hb3 : Below w.heap.size w w3 := by
           refine Below.grown ?_ hgrow (by simp; omega) (fun g hg => by have := (Hs.out.own.lt g hg).1; omega)
           have h := Hs.out.below; have h1 := HbW1.out; have h2 := Hbb.out
           (have hz0 := (h2).size; have hy0 := hz0; (try simp at hy0); have hz1 := (h1).size; have hy1 := hz1; (try simp at hy1); have hz2 := (h).size; have hy2 := hz2; (try simp at hy2); repeat (first | exact Below.refl _ _ | refine Below.trans ?_ ((h2).mono (by first|omega|(simp<;>omega))) | refine Below.trans ?_ ((h1).mono (by first|omega|(simp<;>omega))) | refine Below.trans ?_ ((h).mono (by first|omega|(simp<;>omega))) | refine Below.alloc ?_ (by first|omega|(simp<;>omega)) _ | refine Below.setCell ?_ (by first|omega|(simp<;>omega)) _ | refine below_drewN ?_ _ | refine Below.drew ?_))
          have hh0 : w3.heap[w.heap.size]? = wr.heap[w.heap.size]? := (hkk _ zz0 na).trans ((Hbb.out.block _ hzw).trans (HbW1.out.block _ (by omega)))
          have hh1 : w3.heap[w.heap.size + 1]? = wr.heap[w.heap.size + 1]? := (hkk _ (by omega) na1).trans ((Hbb.out.block _ (by omega)).trans (HbW1.out.block _ (by omega)))
          have Hnext : Hid (CFSt w (w3.setCell ⟨w.heap.size, 3, none⟩ v3) nm p r v3 (bs.take (k + 1))) := by have e : bs.take (k + 1) = bs.take k ++ [y] := (by rw [List.take_succ_eq_append_getElem hkl, Hy.out]); show CFSt _ _ _ _ _ _ _; rw [e]; exact Hs.out.next hown3 hb3 hh0 hh1
          have hz3 : w2.heap.size ≤ w3.heap.size := Nat.le_trans (by simp) hgrow.size
          subst hv3
          clear hkk na na1 nb hb3 hh0 hh1 hown3 hgrow n0 n1 n2 n3 n4 n5 n6))
    all_goals
     go_wp2_with fail
     go_roundw
     case rel => exact ⟨k + 1, _, by omega, by go_num, by simp [World.setCell]; omega, by have h := Hnext.out; (try simp only [List.length_take, Nat.min_eq_left hk] at h); first | exact h | exact h.drew | exact h.drew.drew | exact h.drew.drew.drew⟩
     case measure => simp [intOf]; omega
  · obtain rfl : k = bs.length := by omega
    rw [List.take_length] at hs Hs
    obtain ⟨po, pc2, hpv⟩ := hs.own.shape
    subst hpv
    obtain ⟨b0, b1, b2, b3⟩ := hs.box.get4
    obtain ⟨o0, o1, o2, o3⟩ := hs.out.get4
    simp only [Nat.zero_add] at b1 b2 b3 o1 o2 o3
    have y0 := hs.outFree 0
    have y1 := hs.outFree 1
    have y2 := hs.outFree 2
    have y3 := hs.outFree 3
    have hz10 : w.heap.size + 1 < wr.heap.size := cell_lt o0
    clear hs
    go_wp2_with fail
    have hcells := set4 (u0 := .string nm) (u1 := .int .i64 p) (u2 := .int .i64 r) (u3 := .slice po bs.length pc2) Hs.out.out
    obtain ⟨h0, h1, h2, h3⟩ := hcells.get4
    simp only [Nat.zero_add] at h1 h2 h3
    obtain ⟨W5, hW5⟩ : ∃ W5, W5 = ((((wr.setCell ⟨w.heap.size + 1, 0, none⟩ (.string nm)).setCell ⟨w.heap.size + 1, 1, none⟩ (.int .i64 p)).setCell ⟨w.heap.size + 1, 2, none⟩ (.int .i64 r)).setCell ⟨w.heap.size + 1, 3, none⟩ (.slice po bs.length pc2)) := ⟨_, rfl⟩
    rw [← hW5] at h0 h1 h2 h3 ⊢
    have hle : w.heap.size ≤ w.heap.size + 1 := Nat.le_succ _
    have hlt : w.heap.size + 1 < w.heap.size + 2 := Nat.lt_succ_self _
    have hbW5 : Below w.heap.size w W5 := by
     rw [hW5]
     exact (((Hs.out.below.setCell (p := ⟨w.heap.size + 1, 0, none⟩) hle _).setCell (p := ⟨w.heap.size + 1, 1, none⟩) hle _).setCell (p := ⟨w.heap.size + 1, 2, none⟩) hle _).setCell (p := ⟨w.heap.size + 1, 3, none⟩) hle _
    have hown5 : Own (w.heap.size + 2) W5 76 6 rBlock (.slice po bs.length pc2) bs := by
     rw [hW5]
     exact (((Hs.out.own.setLow rBlock_mono (p := ⟨w.heap.size + 1, 0, none⟩) hlt _).setLow rBlock_mono (p := ⟨w.heap.size + 1, 1, none⟩) hlt _).setLow rBlock_mono (p := ⟨w.heap.size + 1, 2, none⟩) hlt _).setLow rBlock_mono (p := ⟨w.heap.size + 1, 3, none⟩) hlt _
    refine bodyPost_ret (v := .agg #[.string nm, .int .i64 p, .int .i64 r, .slice po bs.length pc2]) ?_ rfl ⟨_, rfl, hown5.inn, hbW5⟩
    simp [results, Tryz.results66, go_sem, h0, h1, h2, h3]

end Go.Proofs.YtnkogppgacappaaGreatDoor

namespace Go.Proofs.YtnkogppgacappaaGreatDoor
open Go.RowKit

theorem infoGlobal : (Tryz.prog.info? 48).map (fun i => (i.zero, i.size, i.bytes)) = some (some (.agg #[.string ⟨#[]⟩, .int .i64 0, .slice none 0 0]), 3, 48) := by kernel_rfl
theorem infoFunc : (Tryz.prog.info? 38).map (fun i => (i.zero, i.size, i.bytes)) = some (some (.agg #[.string ⟨#[]⟩, .int .i64 0, .int .i64 0, .slice none 0 0]), 4, 56) := by kernel_rfl

structure CPBox (w wr : World) (g f gv fv : Value) : Prop where
 below : Below w.heap.size w wr
 par : CellsAt wr w.heap.size 0 [g, f]
 res : CellsAt wr (w.heap.size + 1) 0 [.slice none 0 0, .slice none 0 0]
 resFree : ∀ j, wr.frozen? ⟨w.heap.size + 1, j, none⟩ = false
 out : CellsAt wr (w.heap.size + 2) 0 [gv, fv]
 outFree : ∀ j, wr.frozen? ⟨w.heap.size + 2, j, none⟩ = false
theorem cells_keep {w w' : World} {b o : Nat} {cs : List Value} (h : CellsAt w b o cs) (hk : w'.heap[b]? = w.heap[b]?) : CellsAt w' b o cs := fun j v hj => by
 rw [World.cell?_of_block (w := w) (a := ⟨b, o + j, none⟩) hk]; exact h j v hj
theorem CPBox.keep {w wr w3 : World} {g f gv fv : Value} (h : CPBox w wr g f gv fv) (hb : Below w.heap.size w w3) (hk : ∀ b, w.heap.size ≤ b → b < w.heap.size + 3 → w3.heap[b]? = wr.heap[b]?) : CPBox w w3 g f gv fv :=
 ⟨hb, cells_keep h.par (hk _ (by omega) (by omega)), cells_keep h.res (hk _ (by omega) (by omega)), fun j => (World.frozen?_of_block (w := wr) (a := ⟨w.heap.size + 1, j, none⟩) (hk _ (by dsimp only; omega) (by dsimp only; omega))).trans (h.resFree j),
   cells_keep h.out (hk _ (by omega) (by omega)), fun j => (World.frozen?_of_block (w := wr) (a := ⟨w.heap.size + 2, j, none⟩) (hk _ (by dsimp only; omega) (by dsimp only; omega))).trans (h.outFree j)⟩
theorem CPBox.set0 {w wr : World} {g f gv fv : Value} (h : CPBox w wr g f gv fv) (u : Value) : CPBox w (wr.setCell ⟨w.heap.size + 2, 0, none⟩ u) g f u fv := by
 obtain ⟨o0, o1⟩ := h.out.get2
 have hk : ∀ b, b ≠ w.heap.size + 2 → (wr.setCell ⟨w.heap.size + 2, 0, none⟩ u).heap[b]? = wr.heap[b]? := fun b hb => Below.heap_setCell _ _ _ _ hb
 refine ⟨h.below.setCell (by dsimp only; omega) _, cells_keep h.par (hk _ (by omega)), cells_keep h.res (hk _ (by omega)), fun j => (World.frozen?_of_block (w := wr) (a := ⟨w.heap.size + 1, j, none⟩) (hk _ (by dsimp only; omega))).trans (h.resFree j), ?_, fun j => by simp; exact h.outFree j⟩
 exact .cons (by rw [cell_set o0, if_pos rfl]) (.cons (by rw [Nat.zero_add, cell_set o0, if_neg (by decide)]; exact o1) (CellsAt.nil _ _ _))
theorem CPBox.set1 {w wr : World} {g f gv fv : Value} (h : CPBox w wr g f gv fv) (u : Value) : CPBox w (wr.setCell ⟨w.heap.size + 2, 1, none⟩ u) g f gv u := by
 obtain ⟨o0, o1⟩ := h.out.get2
 rw [Nat.zero_add] at o1
 have hk : ∀ b, b ≠ w.heap.size + 2 → (wr.setCell ⟨w.heap.size + 2, 1, none⟩ u).heap[b]? = wr.heap[b]? := fun b hb => Below.heap_setCell _ _ _ _ hb
 refine ⟨h.below.setCell (by dsimp only; omega) _, cells_keep h.par (hk _ (by omega)), cells_keep h.res (hk _ (by omega)), fun j => (World.frozen?_of_block (w := wr) (a := ⟨w.heap.size + 1, j, none⟩) (hk _ (by dsimp only; omega))).trans (h.resFree j), ?_, fun j => by simp; exact h.outFree j⟩
 exact .cons (by rw [cell_set o1, if_neg (by decide)]; exact o0) (.cons (by rw [Nat.zero_add, cell_set o1, if_pos rfl]) (CellsAt.nil _ _ _))
theorem global_at {S : Nat → Prop} {w : World} {a : Option Addr} {n c : Nat} {l : List DGlobal} (h : SlAt S w 3 rGlobal (.slice a n c) l) {k : Nat} (hk : k < l.length) :
 ∃ b off ia ic, a = some ⟨b, off, none⟩ ∧ CellsAt w b (off + k * 3) [.string l[k].name, .int .i64 l[k].size, .slice ia l[k].init.length ic] ∧ SlAt S w 1 rInt (.slice ia l[k].init.length ic) l[k].init ∧ I64 l[k].size := by
 obtain ⟨b, off, cs, ha, -, hr, -, hcs⟩ := h.get hk
 obtain ⟨ia, ic, rfl, h1, -, h2⟩ := hr.opens
 exact ⟨b, off, ia, ic, ha, hcs, h1, h2⟩
theorem func_at {S : Nat → Prop} {w : World} {a : Option Addr} {n c : Nat} {l : List DFunc} (h : SlAt S w 4 rFunc (.slice a n c) l) {k : Nat} (hk : k < l.length) :
 ∃ b off xa xc, a = some ⟨b, off, none⟩ ∧ CellsAt w b (off + k * 4) [.string l[k].name, .int .i64 l[k].params, .int .i64 l[k].regs, .slice xa l[k].blocks.length xc] ∧ SlAt S w 6 rBlock (.slice xa l[k].blocks.length xc) l[k].blocks ∧ I64 l[k].params ∧ I64 l[k].regs := by
 obtain ⟨b, off, cs, ha, -, hr, -, hcs⟩ := h.get hk
 obtain ⟨xa, xc, rfl, h1, -, h2, h3⟩ := hr.opens
 exact ⟨b, off, xa, xc, ha, hcs, h1, h2, h3⟩

structure SmallF (f : DFunc) : Prop where
 blocks : f.blocks.length ≤ 1048576
 each : ∀ x ∈ f.blocks, SmallB x

set_option maxRecDepth 100000 in
set_option maxHeartbeats 4000000 in
theorem copy_any {S : Nat → Prop} (ga fa : Option Addr) (gc fc : Nat) (gs : List DGlobal) (fs : List DFunc) (w : World) (hg : SlAt S w 3 rGlobal (.slice ga gs.length gc) gs) (hf : SlAt S w 4 rFunc (.slice fa fs.length fc) fs)
 (ng : gs.length ≤ 1048576) (nf : fs.length ≤ 1048576) (sg : ∀ g ∈ gs, g.init.length ≤ 1048576) (sf : ∀ f ∈ fs, SmallF f) :
 Calls Tryz.prog 36 #[.agg #[.slice ga gs.length gc, .slice fa fs.length fc]] w fun e w' =>
  ∃ gv fv A, e = .returned (.agg #[gv, fv]) ∧ w.heap.size + 3 ≤ A ∧ A ≤ w'.heap.size ∧ OwnIn (w.heap.size + 3) A w' 48 3 rGlobal gv gs ∧ OwnIn A w'.heap.size w' 38 4 rFunc fv fs ∧ Below w.heap.size w w' := by
 have Hg := hid hg
 have Hf := hid hf
 have Sg := hid sg
 have Sf := hid sf
 clear hg hf sg sf
 obtain ⟨ig, hig, hgz0, hgz1, hgz2⟩ := info_parts infoGlobal
 obtain ⟨if_, hif, hfz0, hfz1, hfz2⟩ := info_parts infoFunc
 go_enter Tryz.func36, Tryz.ntmps36
 go_wp2_with fail
 obtain ⟨W0, hW0⟩ : ∃ W0, W0 = ((w.alloc (.cells #[.slice ga gs.length gc, .slice fa fs.length fc] 25)).alloc (.cells #[.slice none 0 0, .slice none 0 0] 25)).alloc (.cells #[.slice none 0 0, .slice none 0 0] 25) := ⟨_, rfl⟩
 have hs0 : W0.heap.size = w.heap.size + 3 := by rw [hW0]; simp
 have hst : CPBox w W0 (.slice ga gs.length gc) (.slice fa fs.length fc) (.slice none 0 0) (.slice none 0 0) := by
  refine ⟨by rw [hW0]; (repeat (first | exact Below.refl _ _ | refine Below.alloc ?_ (by first|omega|(simp<;>omega)) _ | refine Below.setCell ?_ (by first|omega|(simp<;>omega)) _ | refine below_drewN ?_ _ | refine Below.drew ?_)), ?_, ?_, by intro j; rw [hW0, World.frozen?_alloc_old _ _ _ (by simp), World.frozen?_alloc_at _ _ _ _ (by simp)], ?_, by intro j; rw [hW0, World.frozen?_alloc_at _ _ _ _ (by simp)]⟩
  · intro j u hj; rw [hW0, Nat.zero_add, World.cell?_alloc_past _ _ _ (by simp; omega), World.cell?_alloc2_first]; simpa using hj
  · intro j u hj; rw [hW0, Nat.zero_add, World.cell?_alloc_past _ _ _ (by simp), World.cell?_alloc2_new]; simpa using hj
  · intro j u hj; rw [hW0, Nat.zero_add, World.cell?_alloc_at _ _ _ _ (by simp)]; simpa using hj
 rw [← hW0]
 have Hst := hid hst
 have Hs0 := hid hs0
 clear hW0 hst hs0
 go_loopw [12] (fun i wr => ∃ (k : Nat) (v : Value), k ≤ gs.length ∧ i = .int .i64 k ∧ w.heap.size + 3 ≤ wr.heap.size ∧ CPBox w wr (.slice ga gs.length gc) (.slice fa fs.length fc) v (.slice none 0 0) ∧ Own (w.heap.size + 3) wr 48 3 rGlobal v (gs.take k)) (fun i _ => gs.length - (intOf i).toNat)
 case atStart => exact ⟨0, _, Nat.zero_le _, rfl, Nat.le_of_eq Hs0.out.symm, Hst.out, Own.nil _ _ _ _ _⟩
 case round =>
  obtain ⟨k, v, hk, rfl, hsz, hbx, hown⟩ := hrel
  have Hbx := hid hbx
  have Hown := hid hown
  by_cases hkl : k < gs.length
  · obtain ⟨b, off, ia, ic, rfl, hcs, hin, hd⟩ := global_at (Hg.out.later rGlobal_mono hbx.below) hkl
    obtain ⟨d0, d1, d2⟩ := hcs.get3
    have hb9 : b < wr.heap.size := cell_lt d0
    obtain ⟨y, hy⟩ : ∃ y, y = gs[k] := ⟨_, rfl⟩
    rw [← hy] at d0 d1 d2 hin hd
    have Hy := hid hy
    have hns : y.init.length ≤ 1048576 := by rw [hy]; exact Sg.out _ (List.getElem_mem hkl)
    have Hin := hid hin
    have Hd := hid hd
    obtain ⟨W1, hW1⟩ : ∃ W1, W1 = wr.alloc (.cells #[.string y.name, .int .i64 y.size, .slice ia y.init.length ic] 48) := ⟨_, rfl⟩
    have kc : CellsAt W1 wr.heap.size 0 [.string y.name, .int .i64 y.size, .slice ia y.init.length ic] := by
     intro j u hj
     rw [hW1, Nat.zero_add, World.cell?_alloc_new]
     simpa using hj
    have kf : W1.frozen? ⟨wr.heap.size, 2, none⟩ = false := by rw [hW1]; simp
    have hz1 : W1.heap.size = wr.heap.size + 1 := by rw [hW1]; simp
    have hbW1 : Below wr.heap.size wr W1 := by rw [hW1]; (repeat (first | exact Below.refl _ _ | refine Below.alloc ?_ (by first|omega|(simp<;>omega)) _ | refine Below.setCell ?_ (by first|omega|(simp<;>omega)) _ | refine below_drewN ?_ _ | refine Below.drew ?_))
    have HbW1 := hid hbW1
    have g3 : W1.cell? ⟨w.heap.size + 2, 0, none⟩ = some v := cell_later' hbx.out.get2.1 hbW1
    have f3 : W1.frozen? ⟨w.heap.size + 2, 0, none⟩ = false := (hbW1.frozen (p := ⟨w.heap.size + 2, 0, none⟩) (by dsimp only; omega)).trans (hbx.outFree 0)
    clear hbx hown hcs hy hin hd
    go_wp2_with fail
    rw [← hW1]
    refine (cloneInts_any (S := S) ia ic y.init W1 (Hin.out.later rInt_mono hbW1) hns).mono ?_
    rintro e w2 ⟨v', rfl, hv', hb2⟩
    obtain ⟨a', c', rfl⟩ := hv'.shape
    have Hv' := hid hv'
    have Hb2 := hid hb2
    obtain ⟨m0, m1, m2⟩ := (kc.later hb2).get3
    simp only [Nat.zero_add] at m1 m2
    have mf : w2.frozen? ⟨wr.heap.size, 2, none⟩ = false := (hb2.frozen (p := ⟨wr.heap.size, 2, none⟩) (by dsimp only; omega)).trans kf
    have n3 := cell_later' g3 hb2
    have ff3 : w2.frozen? ⟨w.heap.size + 2, 0, none⟩ = false := (hb2.frozen (p := ⟨w.heap.size + 2, 0, none⟩) (by dsimp only; omega)).trans f3
    have hz2 : wr.heap.size < w2.heap.size := cell_lt m0
    have hz3 : w.heap.size + 2 < wr.heap.size := by omega
    clear kc kf hbW1 hv' hb2 hW1 d0 d1 d2 g3 f3
    go_wp2_with (at_builtin; refine wpList_append_Own rfl _ _ 22 rfl (w.heap.size + 3) 48 ig _ 3 48 Tryz.underlying22 hig hgz0 hgz1 hgz2 rfl (by decide) rGlobal_mono v (gs.take k) rfl ?_ ⟨w2.heap.size, 0, none⟩ 1 [.string y.name, .int .i64 y.size, .slice a' y.init.length c'] y rfl rfl ?_ ?_ ?_ ?_ (by decide) ?_ ?_)
    · exact Hown.out.later rGlobal_mono (by have h := HbW1.out; have h2 := Hb2.out; (have hz0 := (h2).size; have hy0 := hz0; (try simp at hy0); have hz1 := (h).size; have hy1 := hz1; (try simp at hy1); repeat (first | exact Below.refl _ _ | refine Below.trans ?_ ((h2).mono (by first|omega|(simp<;>omega))) | refine Below.trans ?_ ((h).mono (by first|omega|(simp<;>omega))) | refine Below.alloc ?_ (by first|omega|(simp<;>omega)) _ | refine Below.setCell ?_ (by first|omega|(simp<;>omega)) _ | refine below_drewN ?_ _ | refine Below.drew ?_)))
    · exact new_cells _ _ _ (by simp)
    · intro u hu; simp at hu; rcases hu with rfl | rfl | rfl <;> rfl
    · refine ⟨_, rfl, Hv'.out.sub rInt_mono (by decide) (by omega) (fun g hg => by have := Hown.out.lt g hg; omega) (fun b hb hl => heap_set_alloc _ _ _ _ hl (by dsimp only; omega)) (by simp), Hd.out⟩
    · rw [List.length_take]; omega
    · simp; omega
    · intro v2 w3 hown3 hgrow g2 cap2 hv2
      have hkk : ∀ B, B < wr.heap.size → some B ≠ v.ownBlock → w3.heap[B]? = wr.heap[B]? := fun B h1 h2 => by
       rw [hgrow.block B (by simp; omega) h2, heap_set_alloc _ _ _ _ (by omega) (by dsimp only; omega), Hb2.out.block B (by omega), HbW1.out.block B h1]
      have hlow : ∀ B, w.heap.size ≤ B → B < w.heap.size + 3 → w3.heap[B]? = wr.heap[B]? := fun B h1 h2 => hkk B (by omega) (fun e => by have := (Hown.out.lt B e.symm).1; omega)
      have hb3 : Below w.heap.size w w3 := by
       refine Below.grown ?_ hgrow (by simp; omega) (fun g hg => by have := (Hown.out.lt g hg).1; omega)
       have h := Hbx.out.below; have h1 := HbW1.out; have h2 := Hb2.out
       (have hz0 := (h2).size; have hy0 := hz0; (try simp at hy0); have hz1 := (h1).size; have hy1 := hz1; (try simp at hy1); have hz2 := (h).size; have hy2 := hz2; (try simp at hy2); repeat (first | exact Below.refl _ _ | refine Below.trans ?_ ((h2).mono (by first|omega|(simp<;>omega))) | refine Below.trans ?_ ((h1).mono (by first|omega|(simp<;>omega))) | refine Below.trans ?_ ((h).mono (by first|omega|(simp<;>omega))) | refine Below.alloc ?_ (by first|omega|(simp<;>omega)) _ | refine Below.setCell ?_ (by first|omega|(simp<;>omega)) _ | refine below_drewN ?_ _ | refine Below.drew ?_))
      have hbx3 := Hbx.out.keep hb3 hlow
      have n4 : w3.cell? ⟨w.heap.size + 2, 0, none⟩ = some v := hbx3.out.get2.1
      have ff4 : w3.frozen? ⟨w.heap.size + 2, 0, none⟩ = false := hbx3.outFree 0
      have Hbx3 := hid (hbx3.set0 v2)
      have Hown3 : Hid (Own (w.heap.size + 3) (w3.setCell ⟨w.heap.size + 2, 0, none⟩ v2) 48 3 rGlobal v2 (gs.take (k + 1))) := by
       have e : gs.take (k + 1) = gs.take k ++ [y] := by rw [List.take_succ_eq_append_getElem hkl, Hy.out]
       show Own _ _ _ _ _ _ _
       rw [e]; exact hown3.setLow rGlobal_mono (by dsimp only; omega) _
      have hz4 : w2.heap.size ≤ w3.heap.size := Nat.le_trans (by simp) hgrow.size
      subst hv2
      clear hown3 hgrow hkk hlow hb3 hbx3
      go_wp2_with fail
      go_roundw
      case rel => exact ⟨k + 1, _, by omega, by go_num, by simp [World.setCell]; omega, by have h := Hbx3.out; (try simp only [List.length_take, Nat.min_eq_left hk] at h); exact h, by have h := Hown3.out; (try simp only [List.length_take, Nat.min_eq_left hk] at h); exact h⟩
      case measure => simp [intOf]; omega
  · obtain rfl : k = gs.length := by omega
    rw [List.take_length] at Hown
    obtain ⟨WA, hWA⟩ : ∃ WA, WA = wr := ⟨_, rfl⟩
    rw [← hWA] at Hbx Hown hsz ⊢
    have q1 : WA.cell? ⟨w.heap.size, 1, none⟩ = some (.slice fa fs.length fc) := Hbx.out.par.get2.2
    clear hWA hbx hown
    go_wp2_with fail
    clear q1
    go_loopw [30] (fun i wr => ∃ (k : Nat) (v2 : Value), k ≤ fs.length ∧ i = .int .i64 k ∧ WA.heap.size ≤ wr.heap.size ∧ CPBox w wr (.slice ga gs.length gc) (.slice fa fs.length fc) v v2 ∧ Own WA.heap.size wr 38 4 rFunc v2 (fs.take k) ∧
     OwnIn (w.heap.size + 3) WA.heap.size wr 48 3 rGlobal v gs) (fun i _ => fs.length - (intOf i).toNat)
    case atStart => exact ⟨0, _, Nat.zero_le _, rfl, Nat.le_refl _, Hbx.out, Own.nil _ _ _ _ _, Hown.out.inn⟩
    case round =>
     obtain ⟨k, v2, hk, rfl, hsz2, hbx, hown, hgl⟩ := hrel
     have Hbx2 := hid hbx
     have Hown2 := hid hown
     have Hgl2 := hid hgl
     by_cases hkl : k < fs.length
     · obtain ⟨b, off, xa, xc, rfl, hcs, hin, hd1, hd2⟩ := func_at (Hf.out.later rFunc_mono hbx.below) hkl
       obtain ⟨d0, d1, d2, d3⟩ := hcs.get4
       have hb9 : b < wr.heap.size := cell_lt d0
       obtain ⟨y, hy⟩ : ∃ y, y = fs[k] := ⟨_, rfl⟩
       rw [← hy] at d0 d1 d2 d3 hin hd1 hd2
       have Hy := hid hy
       have hns : SmallF y := by rw [hy]; exact Sf.out _ (List.getElem_mem hkl)
       have Hns := hid hns
       have Hin := hid hin
       have Hd1 := hid hd1
       have Hd2 := hid hd2
       obtain ⟨W1, hW1⟩ : ∃ W1, W1 = wr.alloc (.cells #[.string y.name, .int .i64 y.params, .int .i64 y.regs, .slice xa y.blocks.length xc] 38) := ⟨_, rfl⟩
       have kc : CellsAt W1 wr.heap.size 0 [.string y.name, .int .i64 y.params, .int .i64 y.regs, .slice xa y.blocks.length xc] := by
        intro j u hj
        rw [hW1, Nat.zero_add, World.cell?_alloc_new]
        simpa using hj
       have hz1 : W1.heap.size = wr.heap.size + 1 := by rw [hW1]; simp
       have hbW1 : Below wr.heap.size wr W1 := by rw [hW1]; (repeat (first | exact Below.refl _ _ | refine Below.alloc ?_ (by first|omega|(simp<;>omega)) _ | refine Below.setCell ?_ (by first|omega|(simp<;>omega)) _ | refine below_drewN ?_ _ | refine Below.drew ?_))
       have HbW1 := hid hbW1
       obtain ⟨m0, m1, m2, m3⟩ := kc.get4
       simp only [Nat.zero_add] at m1 m2 m3
       have g3 : W1.cell? ⟨w.heap.size + 2, 1, none⟩ = some v2 := cell_later' (by have h := hbx.out.get2.2; rw [Nat.zero_add] at h; exact h) hbW1
       have f3 : W1.frozen? ⟨w.heap.size + 2, 1, none⟩ = false := (hbW1.frozen (p := ⟨w.heap.size + 2, 1, none⟩) (by dsimp only; omega)).trans (hbx.outFree 1)
       have hzw : w.heap.size + 2 < W1.heap.size := by omega
       clear hbx hown hgl hcs hy hin hd1 hd2 hns kc hbW1
       go_wp2_with fail
       clear d0 d1 d2 d3
       rw [← hW1]
       have HW1 := hid hW1
       clear hW1
       go_region_law
        (first
          | (refine step_append_Own rfl _ _ 23 rfl WA.heap.size 38 if_ _ 4 56 Tryz.underlying23 hif hfz0 hfz1 hfz2 rfl (by decide) rFunc_mono v2 (fs.take k) rfl ?_ ⟨w2.heap.size, 0, none⟩ 1 [.string y.name, .int .i64 y.params, .int .i64 y.regs, .slice xa2 y.blocks.length xc2] y rfl rfl ?_ ?_ ?_ ?_ (by decide) ?_ ?_
             · exact Hown2.out.later rFunc_mono (by have h := HbW1.out; have h2 := Hbb.out; (have hz0 := (h2).size; have hy0 := hz0; (try simp at hy0); have hz1 := (h).size; have hy1 := hz1; (try simp at hy1); repeat (first | exact Below.refl _ _ | refine Below.trans ?_ ((h2).mono (by first|omega|(simp<;>omega))) | refine Below.trans ?_ ((h).mono (by first|omega|(simp<;>omega))) | refine Below.alloc ?_ (by first|omega|(simp<;>omega)) _ | refine Below.setCell ?_ (by first|omega|(simp<;>omega)) _ | refine below_drewN ?_ _ | refine Below.drew ?_)))
             · exact new_cells w2 _ _ rfl
             · intro u hu; simp at hu; rcases hu with rfl | rfl | rfl | rfl <;> rfl
             · exact rFunc_mono.out _ _ _ _ _ _ (fun _ h => h) (Stays.below' (by (repeat (first | exact Below.refl _ _ | refine Below.alloc ?_ (by first|omega|(simp<;>omega)) _ | refine Below.setCell ?_ (by first|omega|(simp<;>omega)) _ | refine below_drewN ?_ _ | refine Below.drew ?_)))) ⟨_, rfl, (Hbi.out.toSl rBlock_mono (by decide)).mono rBlock_mono (fun b h => ⟨Nat.le_trans (Nat.le_trans hsz2 (Nat.le_trans (Nat.le_succ _) (Nat.le_of_eq hz1.symm))) (Nat.le_trans (Nat.le_add_right _ 2) h.1), Nat.lt_of_lt_of_le h.2 (by simp), fun e => Nat.lt_irrefl _ (Nat.lt_of_lt_of_le (Hown2.out.lt b e).2 (Nat.le_trans (Nat.le_trans (Nat.le_succ _) (Nat.le_of_eq hz1.symm)) (Nat.le_trans (Nat.le_add_right _ 2) h.1)))⟩) (Stays.refl _ _), Hd1.out, Hd2.out⟩
             · rw [List.length_take]; omega
             · simp; omega
             intro v3 w3 hown3 hgrow ⟨g9, cap9, hv3⟩
             have hkk : ∀ B, B < wr.heap.size → some B ≠ v2.ownBlock → w3.heap[B]? = wr.heap[B]? := fun B h1 h2 => (hgrow.block B (by simp; omega) h2).trans ((Below.heap_alloc w2 _ _ (by omega)).trans ((Hbb.out.block _ (by omega)).trans (HbW1.out.block _ h1)))
             have hlow : ∀ B, w.heap.size ≤ B → B < WA.heap.size → w3.heap[B]? = wr.heap[B]? := fun B h1 h2 => hkk B (by omega) (fun e => by have := (Hown2.out.lt B e.symm).1; omega)
             have hb3 : Below w.heap.size w w3 := by
              refine Below.grown ?_ hgrow (by simp; omega) (fun g hg => by have := (Hown2.out.lt g hg).1; omega)
              have h := Hbx2.out.below; have h1 := HbW1.out; have h2 := Hbb.out
              (have hz0 := (h2).size; have hy0 := hz0; (try simp at hy0); have hz1 := (h1).size; have hy1 := hz1; (try simp at hy1); have hz2 := (h).size; have hy2 := hz2; (try simp at hy2); repeat (first | exact Below.refl _ _ | refine Below.trans ?_ ((h2).mono (by first|omega|(simp<;>omega))) | refine Below.trans ?_ ((h1).mono (by first|omega|(simp<;>omega))) | refine Below.trans ?_ ((h).mono (by first|omega|(simp<;>omega))) | refine Below.alloc ?_ (by first|omega|(simp<;>omega)) _ | refine Below.setCell ?_ (by first|omega|(simp<;>omega)) _ | refine below_drewN ?_ _ | refine Below.drew ?_))
             have hbx3 := Hbx2.out.keep hb3 (fun b h1 h2 => hlow b h1 (by omega))
             have n4 : w3.cell? ⟨w.heap.size + 2, 1, none⟩ = some v2 := (by have h := hbx3.out.get2.2; rw [Nat.zero_add] at h; exact h)
             have ff4 : w3.frozen? ⟨w.heap.size + 2, 1, none⟩ = false := hbx3.outFree 1
             have Hbx3 := hid (hbx3.set1 v3)
             have Hgl3 : Hid (OwnIn (w.heap.size + 3) WA.heap.size (w3.setCell ⟨w.heap.size + 2, 1, none⟩ v3) 48 3 rGlobal v gs) := Hgl2.out.kept rGlobal_mono (fun b h1 h2 => (Below.heap_setCell w3 ⟨w.heap.size + 2, 1, none⟩ v3 b (by dsimp only; omega)).trans (hlow b (by omega) h2))
             have Hown3 : Hid (Own WA.heap.size (w3.setCell ⟨w.heap.size + 2, 1, none⟩ v3) 38 4 rFunc v3 (fs.take (k + 1))) := by
              have e : fs.take (k + 1) = fs.take k ++ [y] := (by rw [List.take_succ_eq_append_getElem hkl, Hy.out])
              show Own _ _ _ _ _ _ _
              rw [e]; exact hown3.setLow rFunc_mono (by dsimp only; omega) _
             have hz4 : w2.heap.size ≤ w3.heap.size := Nat.le_trans (by simp) hgrow.size
             have hz5 : WA.heap.size ≤ w3.heap.size := by omega
             subst hv3
             clear hown3 hgrow hkk hlow hb3 hbx3)
          | (go_simp; go_at_call 66; refine (copyFunc_any (S := S) y.name y.params y.regs xa xc y.blocks W1.drew (Hin.out.later rBlock_mono HbW1.out.drew) Hns.out.blocks Hns.out.each).mono ?_; rintro e w2 ⟨bv, rfl, hbi, hb2⟩; have hbb : Below W1.heap.size W1 w2 := (Below.refl W1.heap.size W1).drew.trans hb2; have Hbb := hid hbb; have Hbi := hid hbi; have n3 := cell_later' g3 hbb; have zz0 : w.heap.size + 2 < w2.heap.size := cell_lt n3; have zz2 : W1.heap.size ≤ w2.heap.size := hbb.size; have ff3 : w2.frozen? ⟨w.heap.size + 2, 1, none⟩ = false := (hbb.frozen (p := ⟨w.heap.size + 2, 1, none⟩) hzw).trans f3; obtain ⟨xa2, xc2, rfl⟩ := hbi.shape; clear hbi hb2 hbb))
       all_goals
        go_wp2_with fail
        go_roundw
        case rel => exact ⟨k + 1, _, by omega, by go_num, by simp [World.setCell]; omega, by have h := Hbx3.out; (try simp only [List.length_take, Nat.min_eq_left hk] at h); first | exact h | exact h.drew, by have h := Hown3.out; (try simp only [List.length_take, Nat.min_eq_left hk] at h); first | exact h | exact h.later rFunc_mono (Below.refl _ _).drew, by have h := Hgl3.out; (try simp only [List.length_take, Nat.min_eq_left hk] at h); exact h⟩
        case measure => simp [intOf]; omega
     · obtain rfl : k = fs.length := by omega
       rw [List.take_length] at Hown2
       obtain ⟨go, gc2, hgv⟩ := hgl.shape
       obtain ⟨fo, fc2, hfv⟩ := Hown2.out.shape
       subst hgv hfv
       obtain ⟨b0, b1⟩ := hbx.out.get2
       obtain ⟨o0, o1⟩ := hbx.res.get2
       rw [Nat.zero_add] at b1 o1
       have y0 := hbx.resFree 0
       have y1 := hbx.resFree 1
       have hz10 : w.heap.size + 2 < wr.heap.size := cell_lt b0
       clear hbx hown hgl
       go_wp2_with fail
       have hcells := set2 (u0 := .slice go gs.length gc2) (u1 := .slice fo fs.length fc2) Hbx2.out.res
       obtain ⟨h0, h1⟩ := hcells.get2
       rw [Nat.zero_add] at h1
       obtain ⟨W5, hW5⟩ : ∃ W5, W5 = ((wr.setCell ⟨w.heap.size + 1, 0, none⟩ (.slice go gs.length gc2)).setCell ⟨w.heap.size + 1, 1, none⟩ (.slice fo fs.length fc2)) := ⟨_, rfl⟩
       rw [← hW5] at h0 h1 ⊢
       have hle : w.heap.size ≤ w.heap.size + 1 := Nat.le_succ _
       have hlt : w.heap.size + 1 < WA.heap.size := by omega
       have hbW5 : Below w.heap.size w W5 := by
        rw [hW5]
        exact (Hbx2.out.below.setCell (p := ⟨w.heap.size + 1, 0, none⟩) hle _).setCell (p := ⟨w.heap.size + 1, 1, none⟩) hle _
       have hown5 : Own WA.heap.size W5 38 4 rFunc (.slice fo fs.length fc2) fs := by
        rw [hW5]
        exact (Hown2.out.setLow rFunc_mono (p := ⟨w.heap.size + 1, 0, none⟩) hlt _).setLow rFunc_mono (p := ⟨w.heap.size + 1, 1, none⟩) hlt _
       have hgl5 : OwnIn (w.heap.size + 3) WA.heap.size W5 48 3 rGlobal (.slice go gs.length gc2) gs := by
        refine Hgl2.out.kept rGlobal_mono (fun b h1 h2 => ?_)
        rw [hW5, Below.heap_setCell _ _ _ _ (by dsimp only; omega), Below.heap_setCell _ _ _ _ (by dsimp only; omega)]
       have hsz5 : W5.heap.size = wr.heap.size := by rw [hW5]; simp [World.setCell]
       refine bodyPost_ret (v := .agg #[.slice go gs.length gc2, .slice fo fs.length fc2]) ?_ rfl ⟨_, _, WA.heap.size, rfl, hsz, by omega, hgl5, hown5.inn, hbW5⟩
       simp [results, Tryz.results36, go_sem, h0, h1]

end Go.Proofs.YtnkogppgacappaaGreatDoor

namespace Go.Proofs.YtnkogppgacappaaGreatDoor
open Go.RowKit

theorem ownsRow_shape {W : World} {base sz n : Nat} {e : TypeId} {v : Value} {xs : List Value} (h : W.ownsRow base e sz v n xs) : ∃ a c, v = .slice a n c := by
 rcases h.2 with ⟨h1, h2⟩ | ⟨g, cap, cur, e1, -⟩
 · exact ⟨none, 0, by rw [h1, h2]⟩
 · exact ⟨_, _, e1⟩

set_option maxRecDepth 100000 in
set_option maxHeartbeats 1000000 in
theorem cloneInt_row (a : Option Addr) (n c : Nat) (cs : List Value) (w : World) (hl : cs.length = n * 1) (hnil : a = none → n = 0) (hc : ∀ b, a = some b → ∀ (j : Nat) u, cs[j]? = some u → w.cell? (b.add j) = some u) (h1 : ∀ u ∈ cs, u.oneCell' = true) (hn : n ≤ 1048576) :
 Calls Tryz.prog 65 #[.slice a n c] w fun e w' => ∃ va vc, e = .returned (.slice va n vc) ∧ w'.ownsRow w.heap.size 3 1 (.slice va n vc) n cs ∧ Below w.heap.size w w' := by
 have Hl := hid hl
 have Hc := hid hc
 have H1 := hid h1
 have Hnil := hid hnil
 clear hl hc h1 hnil
 have hnil := fun (w : World) (a : Option Addr) (n c n' c' : Nat) => Lib.run_eql_slice_nil (P := Tryz.prog) w 33 3 a n c n' c' Tryz.underlying33
 obtain ⟨i0, hi, hz0, hz1, hz2⟩ := info_parts infoInt'
 cases a with
 | none =>
   obtain rfl := Hnil.out rfl
   go_enter Tryz.func65, Tryz.ntmps65
   go_wp2
   go_ret
   have h0 : cs = [] := List.eq_nil_of_length_eq_zero (by have := Hl.out; omega)
   subst h0
   exact ⟨_, _, rfl, World.ownsRow_nil _ _ _ _, Below.refl _ _⟩
 | some ad =>
   go_enter Tryz.func65, Tryz.ntmps65
   go_wp2_with (at_builtin; refine wpList_append_own_at _ rfl _ _ 33 rfl w.heap.size 3 i0 (.int .i64 0) 1 8 Tryz.underlying33 hi hz0 hz1 hz2 rfl (by decide) (.slice (some ⟨w.heap.size, 0, none⟩) 0 0) 0 [] rfl (World.ownsRow_made w #[] 0 (Nat.le_refl _) (by decide) rfl) ad n c cs rfl ?_ ?_ ?_ ?_ ?_ ?_ ?_)
   · exact Hl.out
   · intro j u hj
     rw [World.cell?_alloc_lt _ _ _ (cell_blk (Hc.out ad rfl j u hj))]
     exact Hc.out ad rfl j u hj
   · exact H1.out
   · unfold maxLen; omega
   · omega
   · simp
   · intro v' w1 hown hgrow _ _
     have hown2 : w1.ownsRow w.heap.size 3 1 v' n cs := by simpa using hown
     obtain ⟨va, vc, rfl⟩ := ownsRow_shape hown2
     have Hown := hid hown2
     have Hgrow := hid hgrow
     clear hown hgrow hown2
     go_wp2
     go_ret
     exact ⟨_, _, rfl, Hown.out, ((Below.refl _ _).alloc (Nat.le_refl _) _).grown Hgrow.out (by simp) (fun k hk => by cases hk; exact Nat.le_refl _)⟩

set_option maxRecDepth 100000 in
set_option maxHeartbeats 1000000 in
theorem cloneVal_row (a : Option Addr) (n c : Nat) (cs : List Value) (w : World) (hl : cs.length = n * 2) (hnil : a = none → n = 0) (hc : ∀ b, a = some b → ∀ (j : Nat) u, cs[j]? = some u → w.cell? (b.add j) = some u) (h1 : ∀ u ∈ cs, u.oneCell' = true) (hn : n ≤ 1048576) :
 Calls Tryz.prog 104 #[.slice a n c] w fun e w' => ∃ va vc, e = .returned (.slice va n vc) ∧ w'.ownsRow w.heap.size 72 2 (.slice va n vc) n cs ∧ Below w.heap.size w w' := by
 have Hl := hid hl
 have Hc := hid hc
 have H1 := hid h1
 have Hnil := hid hnil
 clear hl hc h1 hnil
 have hnil := fun (w : World) (a : Option Addr) (n c n' c' : Nat) => Lib.run_eql_slice_nil (P := Tryz.prog) w 78 72 a n c n' c' Tryz.underlying78
 obtain ⟨i0, hi, hz0, hz1, hz2⟩ := info_parts infoVal
 cases a with
 | none =>
   obtain rfl := Hnil.out rfl
   go_enter Tryz.func104, Tryz.ntmps104
   go_wp2
   go_ret
   have h0 : cs = [] := List.eq_nil_of_length_eq_zero (by have := Hl.out; omega)
   subst h0
   exact ⟨_, _, rfl, World.ownsRow_nil _ _ _ _, Below.refl _ _⟩
 | some ad =>
   go_enter Tryz.func104, Tryz.ntmps104
   go_wp2_with (at_builtin; refine wpList_append_own_at _ rfl _ _ 78 rfl w.heap.size 72 i0 (.agg #[.bool false, .int .i64 0]) 2 16 Tryz.underlying78 hi hz0 hz1 hz2 rfl (by decide) (.slice (some ⟨w.heap.size, 0, none⟩) 0 0) 0 [] rfl (World.ownsRow_made w #[] 0 (Nat.le_refl _) (by decide) rfl) ad n c cs rfl ?_ ?_ ?_ ?_ ?_ ?_ ?_)
   · exact Hl.out
   · intro j u hj
     rw [World.cell?_alloc_lt _ _ _ (cell_blk (Hc.out ad rfl j u hj))]
     exact Hc.out ad rfl j u hj
   · exact H1.out
   · unfold maxLen; omega
   · omega
   · simp
   · intro v' w1 hown hgrow _ _
     have hown2 : w1.ownsRow w.heap.size 72 2 v' n cs := by simpa using hown
     obtain ⟨va, vc, rfl⟩ := ownsRow_shape hown2
     have Hown := hid hown2
     have Hgrow := hid hgrow
     clear hown hgrow hown2
     go_wp2
     go_ret
     exact ⟨_, _, rfl, Hown.out, ((Below.refl _ _).alloc (Nat.le_refl _) _).grown Hgrow.out (by simp) (fun k hk => by cases hk; exact Nat.le_refl _)⟩

set_option maxRecDepth 100000 in
set_option maxHeartbeats 1000000 in
theorem clonePhi_row (a : Option Addr) (n c : Nat) (cs : List Value) (w : World) (hl : cs.length = n * 2) (hnil : a = none → n = 0) (hc : ∀ b, a = some b → ∀ (j : Nat) u, cs[j]? = some u → w.cell? (b.add j) = some u) (h1 : ∀ u ∈ cs, u.oneCell' = true) (hn : n ≤ 1048576) :
 Calls Tryz.prog 103 #[.slice a n c] w fun e w' => ∃ va vc, e = .returned (.slice va n vc) ∧ w'.ownsRow w.heap.size 94 2 (.slice va n vc) n cs ∧ Below w.heap.size w w' := by
 have Hl := hid hl
 have Hc := hid hc
 have H1 := hid h1
 have Hnil := hid hnil
 clear hl hc h1 hnil
 have hnil := fun (w : World) (a : Option Addr) (n c n' c' : Nat) => Lib.run_eql_slice_nil (P := Tryz.prog) w 69 94 a n c n' c' Tryz.underlying69
 obtain ⟨i0, hi, hz0, hz1, hz2⟩ := info_parts infoPhi
 cases a with
 | none =>
   obtain rfl := Hnil.out rfl
   go_enter Tryz.func103, Tryz.ntmps103
   go_wp2
   go_ret
   have h0 : cs = [] := List.eq_nil_of_length_eq_zero (by have := Hl.out; omega)
   subst h0
   exact ⟨_, _, rfl, World.ownsRow_nil _ _ _ _, Below.refl _ _⟩
 | some ad =>
   go_enter Tryz.func103, Tryz.ntmps103
   go_wp2_with (at_builtin; refine wpList_append_own_at _ rfl _ _ 69 rfl w.heap.size 94 i0 (.agg #[.int .i64 0, .slice none 0 0]) 2 32 Tryz.underlying69 hi hz0 hz1 hz2 rfl (by decide) (.slice (some ⟨w.heap.size, 0, none⟩) 0 0) 0 [] rfl (World.ownsRow_made w #[] 0 (Nat.le_refl _) (by decide) rfl) ad n c cs rfl ?_ ?_ ?_ ?_ ?_ ?_ ?_)
   · exact Hl.out
   · intro j u hj
     rw [World.cell?_alloc_lt _ _ _ (cell_blk (Hc.out ad rfl j u hj))]
     exact Hc.out ad rfl j u hj
   · exact H1.out
   · unfold maxLen; omega
   · omega
   · simp
   · intro v' w1 hown hgrow _ _
     have hown2 : w1.ownsRow w.heap.size 94 2 v' n cs := by simpa using hown
     obtain ⟨va, vc, rfl⟩ := ownsRow_shape hown2
     have Hown := hid hown2
     have Hgrow := hid hgrow
     clear hown hgrow hown2
     go_wp2
     go_ret
     exact ⟨_, _, rfl, Hown.out, ((Below.refl _ _).alloc (Nat.le_refl _) _).grown Hgrow.out (by simp) (fun k hk => by cases hk; exact Nat.le_refl _)⟩

set_option maxRecDepth 100000 in
set_option maxHeartbeats 1000000 in
theorem cloneIns_row (a : Option Addr) (n c : Nat) (cs : List Value) (w : World) (hl : cs.length = n * 8) (hnil : a = none → n = 0) (hc : ∀ b, a = some b → ∀ (j : Nat) u, cs[j]? = some u → w.cell? (b.add j) = some u) (h1 : ∀ u ∈ cs, u.oneCell' = true) (hn : n ≤ 1048576) :
 Calls Tryz.prog 105 #[.slice a n c] w fun e w' => ∃ va vc, e = .returned (.slice va n vc) ∧ w'.ownsRow w.heap.size 80 8 (.slice va n vc) n cs ∧ Below w.heap.size w w' := by
 have Hl := hid hl
 have Hc := hid hc
 have H1 := hid h1
 have Hnil := hid hnil
 clear hl hc h1 hnil
 have hnil := fun (w : World) (a : Option Addr) (n c n' c' : Nat) => Lib.run_eql_slice_nil (P := Tryz.prog) w 70 80 a n c n' c' Tryz.underlying70
 obtain ⟨i0, hi, hz0, hz1, hz2⟩ := info_parts infoIns
 cases a with
 | none =>
   obtain rfl := Hnil.out rfl
   go_enter Tryz.func105, Tryz.ntmps105
   go_wp2
   go_ret
   have h0 : cs = [] := List.eq_nil_of_length_eq_zero (by have := Hl.out; omega)
   subst h0
   exact ⟨_, _, rfl, World.ownsRow_nil _ _ _ _, Below.refl _ _⟩
 | some ad =>
   go_enter Tryz.func105, Tryz.ntmps105
   go_wp2_with (at_builtin; refine wpList_append_own_at _ rfl _ _ 70 rfl w.heap.size 80 i0 (.agg #[.int .i64 0, .int .i64 0, .bool false, .int .i64 0, .bool false, .int .i64 0, .int .i64 0, .slice none 0 0]) 8 80 Tryz.underlying70 hi hz0 hz1 hz2 rfl (by decide) (.slice (some ⟨w.heap.size, 0, none⟩) 0 0) 0 [] rfl (World.ownsRow_made w #[] 0 (Nat.le_refl _) (by decide) rfl) ad n c cs rfl ?_ ?_ ?_ ?_ ?_ ?_ ?_)
   · exact Hl.out
   · intro j u hj
     rw [World.cell?_alloc_lt _ _ _ (cell_blk (Hc.out ad rfl j u hj))]
     exact Hc.out ad rfl j u hj
   · exact H1.out
   · unfold maxLen; omega
   · omega
   · simp
   · intro v' w1 hown hgrow _ _
     have hown2 : w1.ownsRow w.heap.size 80 8 v' n cs := by simpa using hown
     obtain ⟨va, vc, rfl⟩ := ownsRow_shape hown2
     have Hown := hid hown2
     have Hgrow := hid hgrow
     clear hown hgrow hown2
     go_wp2
     go_ret
     exact ⟨_, _, rfl, Hown.out, ((Below.refl _ _).alloc (Nat.le_refl _) _).grown Hgrow.out (by simp) (fun k hk => by cases hk; exact Nat.le_refl _)⟩

set_option maxRecDepth 100000 in
set_option maxHeartbeats 1000000 in
theorem cloneBlk_row (a : Option Addr) (n c : Nat) (cs : List Value) (w : World) (hl : cs.length = n * 6) (hnil : a = none → n = 0) (hc : ∀ b, a = some b → ∀ (j : Nat) u, cs[j]? = some u → w.cell? (b.add j) = some u) (h1 : ∀ u ∈ cs, u.oneCell' = true) (hn : n ≤ 1048576) :
 Calls Tryz.prog 102 #[.slice a n c] w fun e w' => ∃ va vc, e = .returned (.slice va n vc) ∧ w'.ownsRow w.heap.size 76 6 (.slice va n vc) n cs ∧ Below w.heap.size w w' := by
 have Hl := hid hl
 have Hc := hid hc
 have H1 := hid h1
 have Hnil := hid hnil
 clear hl hc h1 hnil
 have hnil := fun (w : World) (a : Option Addr) (n c n' c' : Nat) => Lib.run_eql_slice_nil (P := Tryz.prog) w 36 76 a n c n' c' Tryz.underlying36
 obtain ⟨i0, hi, hz0, hz1, hz2⟩ := info_parts infoBlock
 cases a with
 | none =>
   obtain rfl := Hnil.out rfl
   go_enter Tryz.func102, Tryz.ntmps102
   go_wp2
   go_ret
   have h0 : cs = [] := List.eq_nil_of_length_eq_zero (by have := Hl.out; omega)
   subst h0
   exact ⟨_, _, rfl, World.ownsRow_nil _ _ _ _, Below.refl _ _⟩
 | some ad =>
   go_enter Tryz.func102, Tryz.ntmps102
   go_wp2_with (at_builtin; refine wpList_append_own_at _ rfl _ _ 36 rfl w.heap.size 76 i0 (.agg #[.slice none 0 0, .slice none 0 0, .int .i64 0, .bool false, .int .i64 0, .slice none 0 0]) 6 96 Tryz.underlying36 hi hz0 hz1 hz2 rfl (by decide) (.slice (some ⟨w.heap.size, 0, none⟩) 0 0) 0 [] rfl (World.ownsRow_made w #[] 0 (Nat.le_refl _) (by decide) rfl) ad n c cs rfl ?_ ?_ ?_ ?_ ?_ ?_ ?_)
   · exact Hl.out
   · intro j u hj
     rw [World.cell?_alloc_lt _ _ _ (cell_blk (Hc.out ad rfl j u hj))]
     exact Hc.out ad rfl j u hj
   · exact H1.out
   · unfold maxLen; omega
   · omega
   · simp
   · intro v' w1 hown hgrow _ _
     have hown2 : w1.ownsRow w.heap.size 76 6 v' n cs := by simpa using hown
     obtain ⟨va, vc, rfl⟩ := ownsRow_shape hown2
     have Hown := hid hown2
     have Hgrow := hid hgrow
     clear hown hgrow hown2
     go_wp2
     go_ret
     exact ⟨_, _, rfl, Hown.out, ((Below.refl _ _).alloc (Nat.le_refl _) _).grown Hgrow.out (by simp) (fun k hk => by cases hk; exact Nat.le_refl _)⟩

set_option maxRecDepth 100000 in
set_option maxHeartbeats 1000000 in
theorem cloneFun_row (a : Option Addr) (n c : Nat) (cs : List Value) (w : World) (hl : cs.length = n * 4) (hnil : a = none → n = 0) (hc : ∀ b, a = some b → ∀ (j : Nat) u, cs[j]? = some u → w.cell? (b.add j) = some u) (h1 : ∀ u ∈ cs, u.oneCell' = true) (hn : n ≤ 1048576) :
 Calls Tryz.prog 69 #[.slice a n c] w fun e w' => ∃ va vc, e = .returned (.slice va n vc) ∧ w'.ownsRow w.heap.size 38 4 (.slice va n vc) n cs ∧ Below w.heap.size w w' := by
 have Hl := hid hl
 have Hc := hid hc
 have H1 := hid h1
 have Hnil := hid hnil
 clear hl hc h1 hnil
 have hnil := fun (w : World) (a : Option Addr) (n c n' c' : Nat) => Lib.run_eql_slice_nil (P := Tryz.prog) w 23 38 a n c n' c' Tryz.underlying23
 obtain ⟨i0, hi, hz0, hz1, hz2⟩ := info_parts infoFunc
 cases a with
 | none =>
   obtain rfl := Hnil.out rfl
   go_enter Tryz.func69, Tryz.ntmps69
   go_wp2
   go_ret
   have h0 : cs = [] := List.eq_nil_of_length_eq_zero (by have := Hl.out; omega)
   subst h0
   exact ⟨_, _, rfl, World.ownsRow_nil _ _ _ _, Below.refl _ _⟩
 | some ad =>
   go_enter Tryz.func69, Tryz.ntmps69
   go_wp2_with (at_builtin; refine wpList_append_own_at _ rfl _ _ 23 rfl w.heap.size 38 i0 (.agg #[.string ⟨#[]⟩, .int .i64 0, .int .i64 0, .slice none 0 0]) 4 56 Tryz.underlying23 hi hz0 hz1 hz2 rfl (by decide) (.slice (some ⟨w.heap.size, 0, none⟩) 0 0) 0 [] rfl (World.ownsRow_made w #[] 0 (Nat.le_refl _) (by decide) rfl) ad n c cs rfl ?_ ?_ ?_ ?_ ?_ ?_ ?_)
   · exact Hl.out
   · intro j u hj
     rw [World.cell?_alloc_lt _ _ _ (cell_blk (Hc.out ad rfl j u hj))]
     exact Hc.out ad rfl j u hj
   · exact H1.out
   · unfold maxLen; omega
   · omega
   · simp
   · intro v' w1 hown hgrow _ _
     have hown2 : w1.ownsRow w.heap.size 38 4 v' n cs := by simpa using hown
     obtain ⟨va, vc, rfl⟩ := ownsRow_shape hown2
     have Hown := hid hown2
     have Hgrow := hid hgrow
     clear hown hgrow hown2
     go_wp2
     go_ret
     exact ⟨_, _, rfl, Hown.out, ((Below.refl _ _).alloc (Nat.le_refl _) _).grown Hgrow.out (by simp) (fun k hk => by cases hk; exact Nat.le_refl _)⟩

set_option maxRecDepth 100000 in
set_option maxHeartbeats 1000000 in
theorem cloneGlo_row (a : Option Addr) (n c : Nat) (cs : List Value) (w : World) (hl : cs.length = n * 3) (hnil : a = none → n = 0) (hc : ∀ b, a = some b → ∀ (j : Nat) u, cs[j]? = some u → w.cell? (b.add j) = some u) (h1 : ∀ u ∈ cs, u.oneCell' = true) (hn : n ≤ 1048576) :
 Calls Tryz.prog 68 #[.slice a n c] w fun e w' => ∃ va vc, e = .returned (.slice va n vc) ∧ w'.ownsRow w.heap.size 48 3 (.slice va n vc) n cs ∧ Below w.heap.size w w' := by
 have Hl := hid hl
 have Hc := hid hc
 have H1 := hid h1
 have Hnil := hid hnil
 clear hl hc h1 hnil
 have hnil := fun (w : World) (a : Option Addr) (n c n' c' : Nat) => Lib.run_eql_slice_nil (P := Tryz.prog) w 22 48 a n c n' c' Tryz.underlying22
 obtain ⟨i0, hi, hz0, hz1, hz2⟩ := info_parts infoGlobal
 cases a with
 | none =>
   obtain rfl := Hnil.out rfl
   go_enter Tryz.func68, Tryz.ntmps68
   go_wp2
   go_ret
   have h0 : cs = [] := List.eq_nil_of_length_eq_zero (by have := Hl.out; omega)
   subst h0
   exact ⟨_, _, rfl, World.ownsRow_nil _ _ _ _, Below.refl _ _⟩
 | some ad =>
   go_enter Tryz.func68, Tryz.ntmps68
   go_wp2_with (at_builtin; refine wpList_append_own_at _ rfl _ _ 22 rfl w.heap.size 48 i0 (.agg #[.string ⟨#[]⟩, .int .i64 0, .slice none 0 0]) 3 48 Tryz.underlying22 hi hz0 hz1 hz2 rfl (by decide) (.slice (some ⟨w.heap.size, 0, none⟩) 0 0) 0 [] rfl (World.ownsRow_made w #[] 0 (Nat.le_refl _) (by decide) rfl) ad n c cs rfl ?_ ?_ ?_ ?_ ?_ ?_ ?_)
   · exact Hl.out
   · intro j u hj
     rw [World.cell?_alloc_lt _ _ _ (cell_blk (Hc.out ad rfl j u hj))]
     exact Hc.out ad rfl j u hj
   · exact H1.out
   · unfold maxLen; omega
   · omega
   · simp
   · intro v' w1 hown hgrow _ _
     have hown2 : w1.ownsRow w.heap.size 48 3 v' n cs := by simpa using hown
     obtain ⟨va, vc, rfl⟩ := ownsRow_shape hown2
     have Hown := hid hown2
     have Hgrow := hid hgrow
     clear hown hgrow hown2
     go_wp2
     go_ret
     exact ⟨_, _, rfl, Hown.out, ((Below.refl _ _).alloc (Nat.le_refl _) _).grown Hgrow.out (by simp) (fun k hk => by cases hk; exact Nat.le_refl _)⟩

end Go.Proofs.YtnkogppgacappaaGreatDoor
