/- calls.CopyFunc: a function of the call's own memory. -/
import Derived.Test.YtaehkcnankijfaaDoorCopyB
import Derived.Deep.RegionLaw
import Derived.Deep.RegionWith
namespace Go.Proofs.YtaehkcnankijfaaDoor
open Go.RowKit

theorem infoBlock : (Tryd.prog.info? 47).map (fun i => (i.zero, i.size, i.bytes)) = some (some (.agg #[.slice none 0 0, .slice none 0 0, .int .i64 0, .bool false, .int .i64 0, .slice none 0 0]), 6, 96) := by kernel_rfl

theorem BlockIn.rd {lo hi : Nat} {w : World} {pv lv tv : Value} {x : DBlock} (h : BlockIn lo hi w pv lv tv x) {S : Nat → Prop} (hS : ∀ b, lo ≤ b → b < hi → S b) (h1 : I64 x.fin.kind) (h2 : I64 x.fin.on.n) :
    rBlock S w [pv, lv, .int .i64 x.fin.kind, .bool x.fin.on.reg, .int .i64 x.fin.on.n, tv] x := by
  obtain ⟨a1, b1, a2, b2, a3, b3, k1, k2, k3, -, -, -, p, l, t⟩ := h
  exact ⟨pv, lv, _, rfl, (p.toSl rPhi_mono (by decide)).mono rPhi_mono (fun b hb => hS b (Nat.le_trans k1.1 hb.1) (Nat.lt_of_lt_of_le hb.2 k1.2.2)) (Stays.refl _ _),
    (l.toSl rIns_mono (by decide)).mono rIns_mono (fun b hb => hS b (Nat.le_trans k2.1 hb.1) (Nat.lt_of_lt_of_le hb.2 k2.2.2)) (Stays.refl _ _),
    tv, rfl, (t.toSl rInt_mono (by decide)).mono rInt_mono (fun b hb => hS b (Nat.le_trans k3.1 hb.1) (Nat.lt_of_lt_of_le hb.2 k3.2.2)) (Stays.refl _ _), h1, h2⟩
theorem BlockIn.shape {lo hi : Nat} {w : World} {pv lv tv : Value} {x : DBlock} (h : BlockIn lo hi w pv lv tv x) : (∃ a c, pv = .slice a x.phis.length c) ∧ (∃ a c, lv = .slice a x.list.length c) ∧ ∃ a c, tv = .slice a x.fin.to.length c := by
  obtain ⟨a1, b1, a2, b2, a3, b3, k1, k2, k3, -, -, -, p, l, t⟩ := h
  exact ⟨p.shape, l.shape, t.shape⟩

/-- The sizes of a block that are asked of it. -/
structure SmallB (x : DBlock) : Prop where
  phis : x.phis.length ≤ 1048576
  list : x.list.length ≤ 1048576
  to : x.fin.to.length ≤ 1048576
  src : ∀ p ∈ x.phis, p.src.length ≤ 1048576
  args : ∀ i ∈ x.list, i.args.length ≤ 1048576

/-- Between two rounds of CopyFunc's loop. -/
structure CFSt (w wr : World) (nm : ByteArray) (p r : Int) (v : Value) (l : List DBlock) : Prop where
  own : Own (w.heap.size + 2) wr 47 6 rBlock v l
  below : Below w.heap.size w wr
  box : CellsAt wr w.heap.size 0 [.string nm, .int .i64 p, .int .i64 r, v]
  free : ∀ j, wr.frozen? ⟨w.heap.size, j, none⟩ = false
  out : CellsAt wr (w.heap.size + 1) 0 [.string ⟨#[]⟩, .int .i64 0, .int .i64 0, .slice none 0 0]
  outFree : ∀ j, wr.frozen? ⟨w.heap.size + 1, j, none⟩ = false

theorem CFSt.next {w wr w3 : World} {nm : ByteArray} {p r : Int} {v v3 : Value} {l l3 : List DBlock} (h : CFSt w wr nm p r v l) (hown : Own (w.heap.size + 2) w3 47 6 rBlock v3 l3) (hb : Below w.heap.size w w3)
    (hk : w3.heap[w.heap.size]? = wr.heap[w.heap.size]?) (hk2 : w3.heap[w.heap.size + 1]? = wr.heap[w.heap.size + 1]?) : CFSt w (w3.setCell ⟨w.heap.size, 3, none⟩ v3) nm p r v3 l3 := by
  have c : ∀ j, w3.cell? ⟨w.heap.size, j, none⟩ = wr.cell? ⟨w.heap.size, j, none⟩ := fun j => World.cell?_of_block (a := ⟨w.heap.size, j, none⟩) hk
  have c' : ∀ j, w3.cell? ⟨w.heap.size + 1, j, none⟩ = wr.cell? ⟨w.heap.size + 1, j, none⟩ := fun j => World.cell?_of_block (a := ⟨w.heap.size + 1, j, none⟩) hk2
  obtain ⟨b0, b1, b2, b3⟩ := h.box.get4
  obtain ⟨o0, o1, o2, o3⟩ := h.out.get4
  simp only [Nat.zero_add] at b0 b1 b2 b3 o0 o1 o2 o3
  have hne : w.heap.size + 1 ≠ w.heap.size := by omega
  have e3 : w3.cell? ⟨w.heap.size, 3, none⟩ = some v := (c 3).trans b3
  refine ⟨hown.setLow rBlock_mono (by dsimp only; omega) _, hb.setCell (Nat.le_refl _) _, ?_, fun j => ?_, ?_, fun j => ?_⟩
  · refine .cons ?_ (.cons ?_ (.cons ?_ (.cons ?_ (CellsAt.nil _ _ _))))
    · rw [cell_set e3, if_neg (by decide)]; exact (c 0).trans b0
    · rw [cell_set e3, if_neg (by decide)]; exact (c 1).trans b1
    · rw [cell_set e3, if_neg (by decide)]; exact (c 2).trans b2
    · rw [cell_set e3, if_pos rfl]
  · rw [show (w3.setCell ⟨w.heap.size, 3, none⟩ v3).frozen? ⟨w.heap.size, j, none⟩ = w3.frozen? ⟨w.heap.size, j, none⟩ by simp, World.frozen?_of_block (w := wr) (a := ⟨w.heap.size, j, none⟩) hk]; exact h.free j
  · refine .cons ?_ (.cons ?_ (.cons ?_ (.cons ?_ (CellsAt.nil _ _ _))))
    · rw [cell_set_ne _ hne]; exact (c' 0).trans o0
    · rw [cell_set_ne _ hne]; exact (c' 1).trans o1
    · rw [cell_set_ne _ hne]; exact (c' 2).trans o2
    · rw [cell_set_ne _ hne]; exact (c' 3).trans o3
  · rw [show (w3.setCell ⟨w.heap.size, 3, none⟩ v3).frozen? ⟨w.heap.size + 1, j, none⟩ = w3.frozen? ⟨w.heap.size + 1, j, none⟩ by simp, World.frozen?_of_block (w := wr) (a := ⟨w.heap.size + 1, j, none⟩) hk2]; exact h.outFree j
theorem CFSt.drew {w wr : World} {nm : ByteArray} {p r : Int} {v : Value} {l : List DBlock} (h : CFSt w wr nm p r v l) : CFSt w wr.drew nm p r v l :=
  ⟨h.own.later rBlock_mono (Below.refl _ _).drew, h.below.drew, h.box, h.free, h.out, h.outFree⟩

theorem block_at {S : Nat → Prop} {w : World} {a : Option Addr} {n c : Nat} {l : List DBlock} (h : SlAt S w 6 rBlock (.slice a n c) l) {k : Nat} (hk : k < l.length) :
    ∃ b off pa pc la lc ta tc, a = some ⟨b, off, none⟩ ∧ CellsAt w b (off + k * 6) [.slice pa l[k].phis.length pc, .slice la l[k].list.length lc, .int .i64 l[k].fin.kind, .bool l[k].fin.on.reg, .int .i64 l[k].fin.on.n, .slice ta l[k].fin.to.length tc] ∧
      SlAt S w 2 rPhi (.slice pa l[k].phis.length pc) l[k].phis ∧ SlAt S w 8 rIns (.slice la l[k].list.length lc) l[k].list ∧ SlAt S w 1 rInt (.slice ta l[k].fin.to.length tc) l[k].fin.to ∧ I64 l[k].fin.kind ∧ I64 l[k].fin.on.n := by
  obtain ⟨b, off, cs, ha, -, hr, -, hcs⟩ := h.get hk
  obtain ⟨pa, pc, la, lc, ta, tc, rfl, h1, h2, h3, -, -, -, h4, h5⟩ := hr.opens
  exact ⟨b, off, pa, pc, la, lc, ta, tc, ha, hcs, h1, h2, h3, h4, h5⟩

set_option maxRecDepth 100000 in
set_option maxHeartbeats 4000000 in
theorem copyFunc_any {S : Nat → Prop} (nm : ByteArray) (p r : Int) (ba : Option Addr) (bc : Nat) (bs : List DBlock) (w : World) (hb : SlAt S w 6 rBlock (.slice ba bs.length bc) bs) (hn : bs.length ≤ 1048576) (hsm : ∀ x ∈ bs, SmallB x) :
    Calls Tryd.prog 83 #[.agg #[.string nm, .int .i64 p, .int .i64 r, .slice ba bs.length bc]] w fun e w' =>
      ∃ bv, e = .returned (.agg #[.string nm, .int .i64 p, .int .i64 r, bv]) ∧ OwnIn (w.heap.size + 2) w'.heap.size w' 47 6 rBlock bv bs ∧ Below w.heap.size w w' := by
  have Hb := hid hb
  have Hsm := hid hsm
  clear hb hsm
  obtain ⟨ib, hib, hbz0, hbz1, hbz2⟩ := info_parts infoBlock
  go_enter Tryd.func83, Tryd.ntmps83
  go_wp2_with fail
  obtain ⟨W0, hW0⟩ : ∃ W0, W0 = (w.alloc (.cells #[.string nm, .int .i64 p, .int .i64 r, .slice none 0 0] 35)).alloc (.cells #[.string ⟨#[]⟩, .int .i64 0, .int .i64 0, .slice none 0 0] 35) := ⟨_, rfl⟩
  have hst : CFSt w W0 nm p r (.slice none 0 0) [] := by
    refine ⟨Own.nil _ _ _ _ _, by rw [hW0]; (repeat (first | exact Below.refl _ _ | refine Below.alloc ?_ (by first | omega | (simp <;> omega)) _ | refine Below.setCell ?_ (by first | omega | (simp <;> omega)) _ | refine below_drewN ?_ _ | refine Below.drew ?_)), ?_, by intro j; rw [hW0]; simp, ?_, by intro j; rw [hW0]; simp⟩
    · intro j u hj; rw [hW0, Nat.zero_add, World.cell?_alloc2_first]; simpa using hj
    · intro j u hj; rw [hW0, Nat.zero_add, World.cell?_alloc2_new]; simpa using hj
  have hs0 : w.heap.size + 2 ≤ W0.heap.size := by rw [hW0]; simp
  rw [← hW0]
  have Hst := hid hst
  clear hW0 hst
  go_loopw [11] (fun i wr => ∃ (k : Nat) (v : Value), k ≤ bs.length ∧ i = .int .i64 k ∧ w.heap.size + 2 ≤ wr.heap.size ∧ CFSt w wr nm p r v (bs.take k)) (fun i _ => bs.length - (intOf i).toNat)
  case atStart => exact ⟨0, _, Nat.zero_le _, rfl, hs0, Hst.out⟩
  case round =>
    obtain ⟨k, v, hk, rfl, hsz, hs⟩ := hrel
    have Hs := hid hs
    by_cases hkl : k < bs.length
    · obtain ⟨b, off, pa, pc, la, lc, ta, tc, rfl, hcs, hp, hl, ht, hd1, hd2⟩ := block_at (Hb.out.later rBlock_mono hs.below) hkl
      obtain ⟨d0, d1, d2, d3, d4, d5⟩ := hcs.get6
      have hb9 : b < wr.heap.size := cell_lt d0
      obtain ⟨y, hy⟩ : ∃ y, y = bs[k] := ⟨_, rfl⟩
      rw [← hy] at d0 d1 d2 d3 d4 d5 hp hl ht hd1 hd2
      have Hy := hid hy
      have hsy : SmallB y := by rw [hy]; exact Hsm.out _ (List.getElem_mem hkl)
      have Hsy := hid hsy
      have Hp := hid hp
      have Hl := hid hl
      have Ht := hid ht
      have Hd1 := hid hd1
      have Hd2 := hid hd2
      obtain ⟨W1, hW1⟩ : ∃ W1, W1 = wr.alloc (.cells #[.slice pa y.phis.length pc, .slice la y.list.length lc, .int .i64 y.fin.kind, .bool y.fin.on.reg, .int .i64 y.fin.on.n, .slice ta y.fin.to.length tc] 47) := ⟨_, rfl⟩
      have kc : CellsAt W1 wr.heap.size 0 [.slice pa y.phis.length pc, .slice la y.list.length lc, .int .i64 y.fin.kind, .bool y.fin.on.reg, .int .i64 y.fin.on.n, .slice ta y.fin.to.length tc] := by
        intro j u hj
        rw [hW1, Nat.zero_add, World.cell?_alloc_new]
        simpa using hj
      have hz1 : W1.heap.size = wr.heap.size + 1 := by rw [hW1]; simp
      have hbW1 : Below wr.heap.size wr W1 := by rw [hW1]; (repeat (first | exact Below.refl _ _ | refine Below.alloc ?_ (by first | omega | (simp <;> omega)) _ | refine Below.setCell ?_ (by first | omega | (simp <;> omega)) _ | refine below_drewN ?_ _ | refine Below.drew ?_))
      have HbW1 := hid hbW1
      obtain ⟨m0, m1, m2, m3, m4, m5⟩ := kc.get6
      simp only [Nat.zero_add] at m1 m2 m3 m4 m5
      have hzw : w.heap.size < W1.heap.size := by omega
      have g3 : W1.cell? ⟨w.heap.size, 3, none⟩ = some v := cell_later' (hs.box.get4.2.2.2) hbW1
      have f3 : W1.frozen? ⟨w.heap.size, 3, none⟩ = false := (hbW1.frozen (p := ⟨w.heap.size, 3, none⟩) (by dsimp only; omega)).trans (hs.free 3)
      clear hs hcs hy hsy hp hl ht hd1 hd2 kc hbW1
      go_wp2_with fail
      clear d0 d1 d2 d3 d4 d5
      rw [← hW1]
      have HW1 := hid hW1
      clear hW1
      go_region_law
        (first
          | (go_simp; go_at_call 84; refine (copyBlock_any (S := S) y pa la ta pc lc tc W1.drew (Hp.out.later rPhi_mono HbW1.out.drew) (Hl.out.later rIns_mono HbW1.out.drew) (Ht.out.later rInt_mono HbW1.out.drew) Hsy.out.phis Hsy.out.list Hsy.out.to Hsy.out.src Hsy.out.args).mono ?_; rintro e w2 ⟨pv, lv, tv, rfl, hbi, hb2⟩; have hbb : Below W1.heap.size W1 w2 := (Below.refl W1.heap.size W1).drew.trans hb2; have Hbb := hid hbb; have Hbi := hid hbi; have n3 := cell_later' g3 hbb; have n0 := cell_later' m0 hbb; have n1 := cell_later' m1 hbb; have n2 := cell_later' m2 hbb; have n4 := cell_later' m3 hbb; have n5 := cell_later' m4 hbb; have n6 := cell_later' m5 hbb; have zz0 : w.heap.size < w2.heap.size := cell_lt n3; have zz1 : wr.heap.size < w2.heap.size := cell_lt n0; have zz2 : W1.heap.size ≤ w2.heap.size := hbb.size; have ff3 : w2.frozen? ⟨w.heap.size, 3, none⟩ = false := (hbb.frozen (p := ⟨w.heap.size, 3, none⟩) hzw).trans f3; obtain ⟨⟨pa2, pc2, rfl⟩, ⟨la2, lc2, rfl⟩, ⟨ta2, tc2, rfl⟩⟩ := hbi.shape; clear hbi hb2 hbb)
          | (refine step_append_Own rfl _ _ 33 rfl (w.heap.size + 2) 47 ib _ 6 96 Tryd.underlying33 hib hbz0 hbz1 hbz2 rfl (by decide) rBlock_mono v (bs.take k) rfl ?_ ⟨w2.heap.size, 0, none⟩ 1 [.slice pa2 y.phis.length pc2, .slice la2 y.list.length lc2, .int .i64 y.fin.kind, .bool y.fin.on.reg, .int .i64 y.fin.on.n, .slice ta2 y.fin.to.length tc2] y rfl rfl ?_ ?_ ?_ ?_ (by decide) ?_ ?_
             · exact Hs.out.own.later rBlock_mono (by have h := HbW1.out; have h2 := Hbb.out; (repeat (first | exact Below.refl _ _ | exact (h2).mono (by first | omega | (simp <;> omega) | (have hh := (h2).size; (try simp at hh); omega) | (have hh := (h2).size; (try simp at hh); (try simp); omega) | (have hh := (h).size; (try simp at hh); omega) | (have hh := (h).size; (try simp at hh); (try simp); omega)) | refine Below.trans ?_ ((h2).mono (by first | omega | (simp <;> omega) | (have hh := (h2).size; (try simp at hh); omega) | (have hh := (h2).size; (try simp at hh); (try simp); omega) | (have hh := (h).size; (try simp at hh); omega) | (have hh := (h).size; (try simp at hh); (try simp); omega))) | exact (h).mono (by first | omega | (simp <;> omega) | (have hh := (h2).size; (try simp at hh); omega) | (have hh := (h2).size; (try simp at hh); (try simp); omega) | (have hh := (h).size; (try simp at hh); omega) | (have hh := (h).size; (try simp at hh); (try simp); omega)) | refine Below.trans ?_ ((h).mono (by first | omega | (simp <;> omega) | (have hh := (h2).size; (try simp at hh); omega) | (have hh := (h2).size; (try simp at hh); (try simp); omega) | (have hh := (h).size; (try simp at hh); omega) | (have hh := (h).size; (try simp at hh); (try simp); omega))) | refine Below.alloc ?_ (by first | omega | (simp <;> omega) | (have hh := (h2).size; (try simp at hh); omega) | (have hh := (h2).size; (try simp at hh); (try simp); omega) | (have hh := (h).size; (try simp at hh); omega) | (have hh := (h).size; (try simp at hh); (try simp); omega)) _ | refine Below.setCell ?_ (by first | omega | (simp <;> omega) | (have hh := (h2).size; (try simp at hh); omega) | (have hh := (h2).size; (try simp at hh); (try simp); omega) | (have hh := (h).size; (try simp at hh); omega) | (have hh := (h).size; (try simp at hh); (try simp); omega)) _ | refine below_drewN ?_ _ | refine Below.drew ?_)))
             · exact new_cells w2 _ _ rfl
             · intro u hu; simp at hu; rcases hu with rfl | rfl | rfl | rfl | rfl | rfl <;> rfl
             · exact rBlock_mono.out _ _ _ _ _ _ (fun _ h => h) (Stays.below' (by (repeat (first | exact Below.refl _ _ | refine Below.alloc ?_ (by first | omega | (simp <;> omega)) _ | refine Below.setCell ?_ (by first | omega | (simp <;> omega)) _ | refine below_drewN ?_ _ | refine Below.drew ?_)))) (Hbi.out.rd (fun b h1 h2 => ⟨Nat.le_trans (Nat.le_trans hsz (Nat.le_trans (Nat.le_succ _) (Nat.le_of_eq hz1.symm))) h1, Nat.lt_of_lt_of_le h2 (by simp), fun e => Nat.lt_irrefl _ (Nat.lt_of_lt_of_le (Hs.out.own.lt b e).2 (Nat.le_trans (Nat.le_trans (Nat.le_succ _) (Nat.le_of_eq hz1.symm)) h1))⟩) Hd1.out Hd2.out)
             · rw [List.length_take]; omega
             · simp; omega
             intro v3 w3 hown3 hgrow ⟨g9, cap9, hv3⟩
             have hkk : ∀ B, B < w2.heap.size → some B ≠ v.ownBlock → w3.heap[B]? = w2.heap[B]? := fun B h1 h2 => (hgrow.block B (by simp; omega) h2).trans (Below.heap_alloc w2 _ _ h1)
             have na : some w.heap.size ≠ v.ownBlock := fun e => by have := (Hs.out.own.lt _ e.symm).1; omega
             have na1 : some (w.heap.size + 1) ≠ v.ownBlock := fun e => by have := (Hs.out.own.lt _ e.symm).1; omega
             have nb : some wr.heap.size ≠ v.ownBlock := fun e => by have := (Hs.out.own.lt _ e.symm).2; omega
             have x3 := (World.cell?_of_block (w := w2) (a := ⟨w.heap.size, 3, none⟩) (hkk _ zz0 na)).trans n3
             have x0 := (World.cell?_of_block (w := w2) (a := ⟨wr.heap.size, 0, none⟩) (hkk _ zz1 nb)).trans n0
             have x1 := (World.cell?_of_block (w := w2) (a := ⟨wr.heap.size, 1, none⟩) (hkk _ zz1 nb)).trans n1
             have x2 := (World.cell?_of_block (w := w2) (a := ⟨wr.heap.size, 2, none⟩) (hkk _ zz1 nb)).trans n2
             have x4 := (World.cell?_of_block (w := w2) (a := ⟨wr.heap.size, 3, none⟩) (hkk _ zz1 nb)).trans n4
             have x5 := (World.cell?_of_block (w := w2) (a := ⟨wr.heap.size, 4, none⟩) (hkk _ zz1 nb)).trans n5
             have x6 := (World.cell?_of_block (w := w2) (a := ⟨wr.heap.size, 5, none⟩) (hkk _ zz1 nb)).trans n6
             have y3 : w3.frozen? ⟨w.heap.size, 3, none⟩ = false := (World.frozen?_of_block (w := w2) (a := ⟨w.heap.size, 3, none⟩) (hkk _ zz0 na)).trans ff3
             have hb3 : Below w.heap.size w w3 := by
               refine Below.grown ?_ hgrow (by simp; omega) (fun g hg => by have := (Hs.out.own.lt g hg).1; omega)
               have h := Hs.out.below; have h1 := HbW1.out; have h2 := Hbb.out
               (repeat (first | exact Below.refl _ _ | exact (h2).mono (by first | omega | (simp <;> omega) | (have hh := (h2).size; (try simp at hh); omega) | (have hh := (h2).size; (try simp at hh); (try simp); omega) | (have hh := (h1).size; (try simp at hh); omega) | (have hh := (h1).size; (try simp at hh); (try simp); omega) | (have hh := (h).size; (try simp at hh); omega) | (have hh := (h).size; (try simp at hh); (try simp); omega)) | refine Below.trans ?_ ((h2).mono (by first | omega | (simp <;> omega) | (have hh := (h2).size; (try simp at hh); omega) | (have hh := (h2).size; (try simp at hh); (try simp); omega) | (have hh := (h1).size; (try simp at hh); omega) | (have hh := (h1).size; (try simp at hh); (try simp); omega) | (have hh := (h).size; (try simp at hh); omega) | (have hh := (h).size; (try simp at hh); (try simp); omega))) | exact (h1).mono (by first | omega | (simp <;> omega) | (have hh := (h2).size; (try simp at hh); omega) | (have hh := (h2).size; (try simp at hh); (try simp); omega) | (have hh := (h1).size; (try simp at hh); omega) | (have hh := (h1).size; (try simp at hh); (try simp); omega) | (have hh := (h).size; (try simp at hh); omega) | (have hh := (h).size; (try simp at hh); (try simp); omega)) | refine Below.trans ?_ ((h1).mono (by first | omega | (simp <;> omega) | (have hh := (h2).size; (try simp at hh); omega) | (have hh := (h2).size; (try simp at hh); (try simp); omega) | (have hh := (h1).size; (try simp at hh); omega) | (have hh := (h1).size; (try simp at hh); (try simp); omega) | (have hh := (h).size; (try simp at hh); omega) | (have hh := (h).size; (try simp at hh); (try simp); omega))) | exact (h).mono (by first | omega | (simp <;> omega) | (have hh := (h2).size; (try simp at hh); omega) | (have hh := (h2).size; (try simp at hh); (try simp); omega) | (have hh := (h1).size; (try simp at hh); omega) | (have hh := (h1).size; (try simp at hh); (try simp); omega) | (have hh := (h).size; (try simp at hh); omega) | (have hh := (h).size; (try simp at hh); (try simp); omega)) | refine Below.trans ?_ ((h).mono (by first | omega | (simp <;> omega) | (have hh := (h2).size; (try simp at hh); omega) | (have hh := (h2).size; (try simp at hh); (try simp); omega) | (have hh := (h1).size; (try simp at hh); omega) | (have hh := (h1).size; (try simp at hh); (try simp); omega) | (have hh := (h).size; (try simp at hh); omega) | (have hh := (h).size; (try simp at hh); (try simp); omega))) | refine Below.alloc ?_ (by first | omega | (simp <;> omega) | (have hh := (h2).size; (try simp at hh); omega) | (have hh := (h2).size; (try simp at hh); (try simp); omega) | (have hh := (h1).size; (try simp at hh); omega) | (have hh := (h1).size; (try simp at hh); (try simp); omega) | (have hh := (h).size; (try simp at hh); omega) | (have hh := (h).size; (try simp at hh); (try simp); omega)) _ | refine Below.setCell ?_ (by first | omega | (simp <;> omega) | (have hh := (h2).size; (try simp at hh); omega) | (have hh := (h2).size; (try simp at hh); (try simp); omega) | (have hh := (h1).size; (try simp at hh); omega) | (have hh := (h1).size; (try simp at hh); (try simp); omega) | (have hh := (h).size; (try simp at hh); omega) | (have hh := (h).size; (try simp at hh); (try simp); omega)) _ | refine below_drewN ?_ _ | refine Below.drew ?_))
             have hh0 : w3.heap[w.heap.size]? = wr.heap[w.heap.size]? := (hkk _ zz0 na).trans ((Hbb.out.block _ hzw).trans (HbW1.out.block _ (by omega)))
             have hh1 : w3.heap[w.heap.size + 1]? = wr.heap[w.heap.size + 1]? := (hkk _ (by omega) na1).trans ((Hbb.out.block _ (by omega)).trans (HbW1.out.block _ (by omega)))
             have Hnext : Hid (CFSt w (w3.setCell ⟨w.heap.size, 3, none⟩ v3) nm p r v3 (bs.take (k + 1))) := by have e : bs.take (k + 1) = bs.take k ++ [y] := (by rw [List.take_succ_eq_append_getElem hkl, Hy.out]); show CFSt _ _ _ _ _ _ _; rw [e]; exact Hs.out.next hown3 hb3 hh0 hh1
             have hz3 : w2.heap.size ≤ w3.heap.size := Nat.le_trans (by simp) hgrow.size
             subst hv3
             clear hkk na na1 nb hb3 hh0 hh1 hown3 hgrow n0 n1 n2 n3 n4 n5 n6))
      all_goals
        go_wp2_with fail
        go_roundw
        case rel => exact ⟨k + 1, _, by omega, by go_num, by simp [World.setCell]; omega, by have h := Hnext.out; (try simp only [List.length_take, Nat.min_eq_left hk] at h); first | exact h | exact h.drew | exact h.drew.drew | exact h.drew.drew.drew⟩
        case measure => simp [intOf]; omega
    · obtain rfl : k = bs.length := by omega
      rw [List.take_length] at hs Hs
      obtain ⟨po, pc2, hpv⟩ := hs.own.shape
      subst hpv
      obtain ⟨b0, b1, b2, b3⟩ := hs.box.get4
      obtain ⟨o0, o1, o2, o3⟩ := hs.out.get4
      simp only [Nat.zero_add] at b1 b2 b3 o1 o2 o3
      have y0 := hs.outFree 0
      have y1 := hs.outFree 1
      have y2 := hs.outFree 2
      have y3 := hs.outFree 3
      have hz10 : w.heap.size + 1 < wr.heap.size := cell_lt o0
      clear hs
      go_wp2_with fail
      have hcells := set4 (u0 := .string nm) (u1 := .int .i64 p) (u2 := .int .i64 r) (u3 := .slice po bs.length pc2) Hs.out.out
      obtain ⟨h0, h1, h2, h3⟩ := hcells.get4
      simp only [Nat.zero_add] at h1 h2 h3
      obtain ⟨W5, hW5⟩ : ∃ W5, W5 = ((((wr.setCell ⟨w.heap.size + 1, 0, none⟩ (.string nm)).setCell ⟨w.heap.size + 1, 1, none⟩ (.int .i64 p)).setCell ⟨w.heap.size + 1, 2, none⟩ (.int .i64 r)).setCell ⟨w.heap.size + 1, 3, none⟩ (.slice po bs.length pc2)) := ⟨_, rfl⟩
      rw [← hW5] at h0 h1 h2 h3 ⊢
      have hle : w.heap.size ≤ w.heap.size + 1 := Nat.le_succ _
      have hlt : w.heap.size + 1 < w.heap.size + 2 := Nat.lt_succ_self _
      have hbW5 : Below w.heap.size w W5 := by
        rw [hW5]
        exact (((Hs.out.below.setCell (p := ⟨w.heap.size + 1, 0, none⟩) hle _).setCell (p := ⟨w.heap.size + 1, 1, none⟩) hle _).setCell (p := ⟨w.heap.size + 1, 2, none⟩) hle _).setCell (p := ⟨w.heap.size + 1, 3, none⟩) hle _
      have hown5 : Own (w.heap.size + 2) W5 47 6 rBlock (.slice po bs.length pc2) bs := by
        rw [hW5]
        exact (((Hs.out.own.setLow rBlock_mono (p := ⟨w.heap.size + 1, 0, none⟩) hlt _).setLow rBlock_mono (p := ⟨w.heap.size + 1, 1, none⟩) hlt _).setLow rBlock_mono (p := ⟨w.heap.size + 1, 2, none⟩) hlt _).setLow rBlock_mono (p := ⟨w.heap.size + 1, 3, none⟩) hlt _
      refine bodyPost_ret (v := .agg #[.string nm, .int .i64 p, .int .i64 r, .slice po bs.length pc2]) ?_ rfl ⟨_, rfl, hown5.inn, hbW5⟩
      simp [results, Tryd.results83, go_sem, h0, h1, h2, h3]

end Go.Proofs.YtaehkcnankijfaaDoor
