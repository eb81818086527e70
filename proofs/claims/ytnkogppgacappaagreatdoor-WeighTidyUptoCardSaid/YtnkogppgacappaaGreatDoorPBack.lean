/- calls.CopyBlock: a block of the call's own memory. calls.Each: all instructions of a function, one by one, in memory that the loop over them may change elsewhere. slices.Backward over a list of numbers, in memory that the loop over it may change elsewhere. -/
import Derived.Test.YtnkogppgacappaaGreatDoorPClone
import Derived.RangeFuncNested
import Derived.RangeFuncBound
import Derived.RangeFuncCalls
import Derived.RangeFuncLeaves
import Derived.Shelf.Abstract
import Derived.Shelf.RegionOpen
import Derived.WalkKit
import Derived.OwnWalkIn
import Derived.TacticsInMore
import Derived.LoopNIn
import Derived.LoopIn
namespace Go.Proofs.YtnkogppgacappaaGreatDoor
open Go.RowKit

theorem infoPhi : (Tryz.prog.info? 94).map (fun i => (i.zero, i.size, i.bytes)) = some (some (.agg #[.int .i64 0, .slice none 0 0]), 2, 32) := by kernel_rfl
theorem infoIns : (Tryz.prog.info? 80).map (fun i => (i.zero, i.size, i.bytes)) = some (some (.agg #[.int .i64 0, .int .i64 0, .bool false, .int .i64 0, .bool false, .int .i64 0, .int .i64 0, .slice none 0 0]), 8, 80) := by kernel_rfl

def Apart (a b c d : Nat) : Prop := b ≤ c ∨ d ≤ a
def BlockIn (lo hi : Nat) (w : World) (pv lv tv : Value) (x : DBlock) : Prop :=
 ∃ a1 b1 a2 b2 a3 b3 : Nat, (lo ≤ a1 ∧ a1 ≤ b1 ∧ b1 ≤ hi) ∧ (lo ≤ a2 ∧ a2 ≤ b2 ∧ b2 ≤ hi) ∧ (lo ≤ a3 ∧ a3 ≤ b3 ∧ b3 ≤ hi) ∧ Apart a1 b1 a2 b2 ∧ Apart a1 b1 a3 b3 ∧ Apart a2 b2 a3 b3 ∧
   OwnIn a1 b1 w 94 2 rPhi pv x.phis ∧ OwnIn a2 b2 w 80 8 rIns lv x.list ∧ OwnIn a3 b3 w 3 1 rInt tv x.fin.to

theorem ins_at {S : Nat → Prop} {w : World} {a : Option Addr} {n c : Nat} {l : List DIns} (h : SlAt S w 8 rIns (.slice a n c) l) {k : Nat} (hk : k < l.length) :
 ∃ b off fa fc, a = some ⟨b, off, none⟩ ∧ CellsAt w b (off + k * 8) [.int .i64 l[k].op, .int .i64 l[k].dst, .bool l[k].a.reg, .int .i64 l[k].a.n, .bool l[k].b.reg, .int .i64 l[k].b.n, .int .i64 l[k].fn, .slice fa l[k].args.length fc] ∧
   SlAt S w 2 rVal (.slice fa l[k].args.length fc) l[k].args ∧ (I64 l[k].op ∧ I64 l[k].dst ∧ I64 l[k].a.n ∧ I64 l[k].b.n ∧ I64 l[k].fn) := by
 obtain ⟨b, off, cs, ha, -, hr, -, hcs⟩ := h.get hk
 obtain ⟨fa, fc, rfl, h1, h2, h3⟩ := hr.opens
 exact ⟨b, off, fa, fc, ha, hcs, h1, h3⟩

theorem phi_at {S : Nat → Prop} {w : World} {a : Option Addr} {n c : Nat} {l : List DPhi} (h : SlAt S w 2 rPhi (.slice a n c) l) {k : Nat} (hk : k < l.length) :
 ∃ b off fa fc, a = some ⟨b, off, none⟩ ∧ w.cell? ⟨b, off + k * 2, none⟩ = some (.int .i64 l[k].dst) ∧ w.cell? ⟨b, off + k * 2 + 1, none⟩ = some (.slice fa l[k].src.length fc) ∧ SlAt S w 2 rVal (.slice fa l[k].src.length fc) l[k].src ∧ I64 l[k].dst ∧ l[k].src.length ≤ 9223372036854775807 := by
 obtain ⟨b, off, cs, ha, -, hr, -, hcs⟩ := h.get hk
 obtain ⟨fa, fc, rfl, h1, h2, h3⟩ := hr.opens
 obtain ⟨c0, c1⟩ := hcs.get2
 exact ⟨b, off, fa, fc, ha, c0, c1, h1, h3, h2⟩

set_option maxRecDepth 100000 in
set_option maxHeartbeats 4000000 in
theorem copyBlock_any {S : Nat → Prop} (x : DBlock) (pa la ta : Option Addr) (pc lc tc : Nat) (w : World) (hp : SlAt S w 2 rPhi (.slice pa x.phis.length pc) x.phis) (hl : SlAt S w 8 rIns (.slice la x.list.length lc) x.list) (ht : SlAt S w 1 rInt (.slice ta x.fin.to.length tc) x.fin.to)
 (np : x.phis.length ≤ 1048576) (nl : x.list.length ≤ 1048576) (nt : x.fin.to.length ≤ 1048576) (ns : ∀ p ∈ x.phis, p.src.length ≤ 1048576) (na : ∀ i ∈ x.list, i.args.length ≤ 1048576) :
 Calls Tryz.prog 77 #[.agg #[.slice pa x.phis.length pc, .slice la x.list.length lc, .int .i64 x.fin.kind, .bool x.fin.on.reg, .int .i64 x.fin.on.n, .slice ta x.fin.to.length tc]] w fun e w' =>
  ∃ pv lv tv, e = .returned (.agg #[pv, lv, .int .i64 x.fin.kind, .bool x.fin.on.reg, .int .i64 x.fin.on.n, tv]) ∧ BlockIn w.heap.size w'.heap.size w' pv lv tv x ∧ Below w.heap.size w w' := by
 have Hp := hid hp
 have Hl := hid hl
 have Ht := hid ht
 have Ns := hid ns
 have Na := hid na
 clear hp hl ht ns na
 obtain ⟨ip, hip, hpz0, hpz1, hpz2⟩ := info_parts infoPhi
 obtain ⟨ii, hii, hiz0, hiz1, hiz2⟩ := info_parts infoIns
 go_enter Tryz.func77, Tryz.ntmps77
 go_wp2_with fail
 obtain ⟨W0, hW0⟩ : ∃ W0, W0 = (w.alloc (.cells #[.slice pa x.phis.length pc, .slice la x.list.length lc, .int .i64 x.fin.kind, .bool x.fin.on.reg, .int .i64 x.fin.on.n, .slice ta x.fin.to.length tc] 76)).alloc
  (.cells #[.slice none 0 0, .slice none 0 0, .int .i64 0, .bool false, .int .i64 0, .slice none 0 0] 76) := ⟨_, rfl⟩
 have hb0 : Below w.heap.size w W0 := by rw [hW0]; (repeat (first | exact Below.refl _ _ | refine Below.alloc ?_ (by first|omega|(simp<;>omega)) _ | refine Below.setCell ?_ (by first|omega|(simp<;>omega)) _ | refine below_drewN ?_ _ | refine Below.drew ?_))
 have hs0 : W0.heap.size = w.heap.size + 2 := by rw [hW0]; simp
 have B0 : ∀ (j : Nat) u, [Value.slice pa x.phis.length pc, .slice la x.list.length lc, .int .i64 x.fin.kind, .bool x.fin.on.reg, .int .i64 x.fin.on.n, .slice ta x.fin.to.length tc][j]? = some u → W0.cell? ⟨w.heap.size, j, none⟩ = some u := by
  intro j u hj
  rw [hW0, World.cell?_alloc2_first]
  simpa using hj
 have B1 : ∀ (j : Nat) u, [Value.slice none 0 0, .slice none 0 0, .int .i64 0, .bool false, .int .i64 0, .slice none 0 0][j]? = some u → W0.cell? ⟨w.heap.size + 1, j, none⟩ = some u := by
  intro j u hj
  rw [hW0, World.cell?_alloc2_new]
  simpa using hj
 have F0 : ∀ (j : Nat), W0.frozen? ⟨w.heap.size, j, none⟩ = false := by intro j; rw [hW0]; simp
 have F1 : ∀ (j : Nat), W0.frozen? ⟨w.heap.size + 1, j, none⟩ = false := by intro j; rw [hW0]; simp
 have Hb0 := hid hb0
 have B0' := hid B0
 have B1' := hid B1
 have F0' := hid F0
 have F1' := hid F1
 rw [← hW0]
 have hst := Build.start W0 94 2 rPhi
 have Hst := hid hst
 clear hW0 hb0 B0 B1 F0 F1 hst
 go_loopw [3, 12] (fun v3 i wr => ∃ (k : Nat) (v : Value), v = v3 ∧ k ≤ x.phis.length ∧ i = .int .i64 k ∧ Build W0 wr 94 2 rPhi v (x.phis.take k)) (fun _ i _ => x.phis.length - (intOf i).toNat)
 case atStart => exact ⟨0, _, rfl, Nat.zero_le _, rfl, Hst.out⟩
 case round =>
  obtain ⟨k, v, rfl, hk, rfl, hs⟩ := hrel
  have Hs := hid hs
  have z0 : W0.heap.size ≤ wr.heap.size := hs.old.size
  have Hwr : Hid (Below w.heap.size w wr) := Hb0.out.trans (hs.old.mono (by omega))
  by_cases hkl : k < x.phis.length
  · obtain ⟨b, off, fa, fc, rfl, c0, c1, hsrc, hd, hsl⟩ := phi_at (Hp.out.later rPhi_mono Hwr.out) hkl
    have hb9 : b < wr.heap.size := cell_lt c0
    have Hsrc := hid hsrc
    have Hd := hid hd
    have hns : x.phis[k].src.length ≤ 1048576 := Ns.out _ (List.getElem_mem hkl)
    clear hs hsrc hd
    obtain ⟨W1, hW1⟩ : ∃ W1, W1 = wr.alloc (.cells #[.int .i64 x.phis[k].dst, .slice fa x.phis[k].src.length fc] 94) := ⟨_, rfl⟩
    have k0 : W1.cell? ⟨wr.heap.size, 0, none⟩ = some (.int .i64 x.phis[k].dst) := by rw [hW1]; simp
    have k1 : W1.cell? ⟨wr.heap.size, 1, none⟩ = some (.slice fa x.phis[k].src.length fc) := by rw [hW1]; simp
    have kf : ∀ j, W1.frozen? ⟨wr.heap.size, j, none⟩ = false := by intro j; rw [hW1]; simp
    have hz1 : W1.heap.size = wr.heap.size + 1 := by rw [hW1]; simp
    have hbW1 : Below wr.heap.size wr W1 := by rw [hW1]; (repeat (first | exact Below.refl _ _ | refine Below.alloc ?_ (by first|omega|(simp<;>omega)) _ | refine Below.setCell ?_ (by first|omega|(simp<;>omega)) _ | refine below_drewN ?_ _ | refine Below.drew ?_))
    have HbW1 := hid hbW1
    go_wp2_with fail
    rw [← hW1]
    refine (cloneVals_any (S := S) fa fc x.phis[k].src W1 (Hsrc.out.later rVal_mono hbW1) hns).mono ?_
    rintro e w2 ⟨v', rfl, hv', hb2⟩
    obtain ⟨a', c', rfl⟩ := hv'.shape
    have Hv' := hid hv'
    have Hb2 := hid hb2
    have m0 := cell_later' k0 hb2
    have m1 := cell_later' k1 hb2
    have mf : w2.frozen? ⟨wr.heap.size, 1, none⟩ = false := (hb2.frozen (p := ⟨wr.heap.size, 1, none⟩) (by dsimp only; omega)).trans (kf 1)
    have hz2 : wr.heap.size < w2.heap.size := cell_lt m0
    clear k0 k1 kf hbW1 hv' hb2 hW1 c0 c1
    go_wp2_with (at_builtin; refine wpList_append_Own rfl _ _ 69 rfl W0.heap.size 94 ip _ 2 32 Tryz.underlying69 hip hpz0 hpz1 hpz2 rfl (by decide) rPhi_mono v (x.phis.take k) rfl ?_ ⟨w2.heap.size, 0, none⟩ 1 [.int .i64 x.phis[k].dst, .slice a' x.phis[k].src.length c'] x.phis[k] rfl rfl ?_ ?_ ?_ ?_ (by decide) ?_ ?_)
    · exact Hs.out.own.later rPhi_mono (by have h := HbW1.out; have h2 := Hb2.out; (have hz0 := (h2).size; have hy0 := hz0; (try simp at hy0); have hz1 := (h).size; have hy1 := hz1; (try simp at hy1); repeat (first | exact Below.refl _ _ | refine Below.trans ?_ ((h2).mono (by first|omega|(simp<;>omega))) | refine Below.trans ?_ ((h).mono (by first|omega|(simp<;>omega))) | refine Below.alloc ?_ (by first|omega|(simp<;>omega)) _ | refine Below.setCell ?_ (by first|omega|(simp<;>omega)) _ | refine below_drewN ?_ _ | refine Below.drew ?_)))
    · exact new_cells _ _ _ (by simp)
    · intro u hu; simp at hu; rcases hu with rfl | rfl <;> rfl
    · refine ⟨_, rfl, Hv'.out.sub rVal_mono (by decide) (by omega) (fun g hg => by have := Hs.out.own.lt g hg; omega) (fun b hb hl => heap_set_alloc _ _ _ _ hl (by dsimp only; omega)) (by simp), Hd.out⟩
    · rw [List.length_take]; omega
    · simp; omega
    · intro v2 w3 hown hgrow g2 cap2 hv2
      have hb3 : Below W0.heap.size W0 w3 := by
       refine Below.grown ?_ hgrow (by simp; omega) (fun g hg => (Hs.out.own.lt g hg).1)
       have h := HbW1.out; have h2 := Hb2.out; have h3 := Hs.out.old
       (have hz0 := (h2).size; have hy0 := hz0; (try simp at hy0); have hz1 := (h).size; have hy1 := hz1; (try simp at hy1); have hz2 := (h3).size; have hy2 := hz2; (try simp at hy2); repeat (first | exact Below.refl _ _ | refine Below.trans ?_ ((h2).mono (by first|omega|(simp<;>omega))) | refine Below.trans ?_ ((h).mono (by first|omega|(simp<;>omega))) | refine Below.trans ?_ ((h3).mono (by first|omega|(simp<;>omega))) | refine Below.alloc ?_ (by first|omega|(simp<;>omega)) _ | refine Below.setCell ?_ (by first|omega|(simp<;>omega)) _ | refine below_drewN ?_ _ | refine Below.drew ?_))
      have Hb3 := hid hb3
      have Hown := hid hown
      clear hown hgrow hb3
      go_wp2_with fail
      go_roundw
      case rel => exact ⟨k + 1, _, rfl, by omega, by go_num, ⟨by have h := Hown.out; (try rw [← List.take_succ_eq_append_getElem hkl] at h); first | exact h | (rw [hs0]; exact h), Hb3.out⟩⟩
      case measure => simp [intOf]; omega
  · obtain rfl : k = x.phis.length := by omega
    rw [List.take_length] at Hs
    have g0 := cell_later' (B0'.out 1 _ rfl) Hs.out.old
    have hwr := Hwr.out
    have hs' : w.heap.size < wr.heap.size := cell_lt g0
    clear hs
    go_wp2_with fail
    obtain ⟨WA, hWA⟩ : ∃ WA, WA = wr := ⟨_, rfl⟩
    rw [← hWA] at Hs Hwr ⊢
    have hst2 := Build.start WA 80 8 rIns
    have Hst2 := hid hst2
    have zA : w.heap.size + 2 ≤ WA.heap.size := by have := Hs.out.old.size; omega
    clear hWA hst2 g0 hwr hs' z0
    go_loopw [6, 28] (fun v6 i wr => ∃ (k : Nat) (v : Value), v = v6 ∧ k ≤ x.list.length ∧ i = .int .i64 k ∧ Build WA wr 80 8 rIns v (x.list.take k)) (fun _ i _ => x.list.length - (intOf i).toNat)
    case atStart => exact ⟨0, _, rfl, Nat.zero_le _, rfl, Hst2.out⟩
    case round =>
     obtain ⟨k, vl, rfl, hk, rfl, hs2⟩ := hrel
     have Hs2 := hid hs2
     have z0 : WA.heap.size ≤ wr.heap.size := hs2.old.size
     have Hwr2 : Hid (Below w.heap.size w wr) := Hwr.out.trans (hs2.old.mono (by omega))
     by_cases hkl : k < x.list.length
     · obtain ⟨b, off, fa, fc, rfl, hcs, hsrc, hd⟩ := ins_at (Hl.out.later rIns_mono Hwr2.out) hkl
       obtain ⟨d0, d1, d2, d3, d4, d5, d6, d7⟩ := hcs.get8
       have hb9 : b < wr.heap.size := cell_lt d0
       have Hsrc := hid hsrc
       have Hd := hid hd
       have hns : x.list[k].args.length ≤ 1048576 := Na.out _ (List.getElem_mem hkl)
       clear hs2 hsrc hd hcs
       obtain ⟨y, hy⟩ : ∃ y, y = x.list[k] := ⟨_, rfl⟩
       have Hy := hid hy
       rw [← hy] at Hsrc Hd hns d0 d1 d2 d3 d4 d5 d6 d7
       clear hy
       obtain ⟨W1, hW1⟩ : ∃ W1, W1 = wr.alloc (.cells #[.int .i64 y.op, .int .i64 y.dst, .bool y.a.reg, .int .i64 y.a.n, .bool y.b.reg, .int .i64 y.b.n, .int .i64 y.fn, .slice fa y.args.length fc] 80) := ⟨_, rfl⟩
       have kc : CellsAt W1 wr.heap.size 0 [.int .i64 y.op, .int .i64 y.dst, .bool y.a.reg, .int .i64 y.a.n, .bool y.b.reg, .int .i64 y.b.n, .int .i64 y.fn, .slice fa y.args.length fc] := by
        intro j u hj
        rw [hW1, Nat.zero_add, World.cell?_alloc_new]
        simpa using hj
       have kf : ∀ j, W1.frozen? ⟨wr.heap.size, j, none⟩ = false := by intro j; rw [hW1]; simp
       have hz1 : W1.heap.size = wr.heap.size + 1 := by rw [hW1]; simp
       have hbW1 : Below wr.heap.size wr W1 := by rw [hW1]; (repeat (first | exact Below.refl _ _ | refine Below.alloc ?_ (by first|omega|(simp<;>omega)) _ | refine Below.setCell ?_ (by first|omega|(simp<;>omega)) _ | refine below_drewN ?_ _ | refine Below.drew ?_))
       have HbW1 := hid hbW1
       have Kc := hid kc
       have Kf := hid kf
       clear kc kf
       go_wp2_with fail
       rw [← hW1]
       refine (cloneVals_any (S := S) fa fc y.args W1 (Hsrc.out.later rVal_mono hbW1) hns).mono ?_
       rintro e w2 ⟨v', rfl, hv', hb2⟩
       obtain ⟨a', c', rfl⟩ := hv'.shape
       have Hv' := hid hv'
       have Hb2 := hid hb2
       obtain ⟨m0, m1, m2, m3, m4, m5, m6, m7⟩ := (Kc.out.later hb2).get8
       have mf : w2.frozen? ⟨wr.heap.size, 7, none⟩ = false := (hb2.frozen (p := ⟨wr.heap.size, 7, none⟩) (by dsimp only; omega)).trans (Kf.out 7)
       have hz2 : wr.heap.size < w2.heap.size := cell_lt m0
       clear hbW1 hv' hb2 hW1 d0 d1 d2 d3 d4 d5 d6 d7
       go_wp2_with (at_builtin; refine wpList_append_Own rfl _ _ 70 rfl WA.heap.size 80 ii _ 8 80 Tryz.underlying70 hii hiz0 hiz1 hiz2 rfl (by decide) rIns_mono vl (x.list.take k) rfl ?_ ⟨w2.heap.size, 0, none⟩ 1 [.int .i64 y.op, .int .i64 y.dst, .bool y.a.reg, .int .i64 y.a.n, .bool y.b.reg, .int .i64 y.b.n, .int .i64 y.fn, .slice a' y.args.length c'] y rfl rfl ?_ ?_ ?_ ?_ (by decide) ?_ ?_)
       · exact Hs2.out.own.later rIns_mono (by have h := HbW1.out; have h2 := Hb2.out; (have hz0 := (h2).size; have hy0 := hz0; (try simp at hy0); have hz1 := (h).size; have hy1 := hz1; (try simp at hy1); repeat (first | exact Below.refl _ _ | refine Below.trans ?_ ((h2).mono (by first|omega|(simp<;>omega))) | refine Below.trans ?_ ((h).mono (by first|omega|(simp<;>omega))) | refine Below.alloc ?_ (by first|omega|(simp<;>omega)) _ | refine Below.setCell ?_ (by first|omega|(simp<;>omega)) _ | refine below_drewN ?_ _ | refine Below.drew ?_)))
       · exact new_cells _ _ _ (by simp)
       · intro u hu; simp at hu; rcases hu with rfl | rfl | rfl | rfl | rfl | rfl | rfl | rfl <;> rfl
       · refine ⟨_, rfl, Hv'.out.sub rVal_mono (by decide) (by omega) (fun g hg => by have := Hs2.out.own.lt g hg; omega) (fun b hb hl => heap_set_alloc _ _ _ _ hl (by dsimp only; omega)) (by simp), Hd.out⟩
       · rw [List.length_take]; omega
       · simp; omega
       · intro v2 w3 hown hgrow g2 cap2 hv2
         have hb3 : Below WA.heap.size WA w3 := by
          refine Below.grown ?_ hgrow (by simp; omega) (fun g hg => (Hs2.out.own.lt g hg).1)
          have h := HbW1.out; have h2 := Hb2.out; have h3 := Hs2.out.old
          (have hz0 := (h2).size; have hy0 := hz0; (try simp at hy0); have hz1 := (h).size; have hy1 := hz1; (try simp at hy1); have hz2 := (h3).size; have hy2 := hz2; (try simp at hy2); repeat (first | exact Below.refl _ _ | refine Below.trans ?_ ((h2).mono (by first|omega|(simp<;>omega))) | refine Below.trans ?_ ((h).mono (by first|omega|(simp<;>omega))) | refine Below.trans ?_ ((h3).mono (by first|omega|(simp<;>omega))) | refine Below.alloc ?_ (by first|omega|(simp<;>omega)) _ | refine Below.setCell ?_ (by first|omega|(simp<;>omega)) _ | refine below_drewN ?_ _ | refine Below.drew ?_))
         have Hb3 := hid hb3
         have Hown := hid hown
         clear hown hgrow hb3
         go_wp2_with fail
         go_roundw
         case rel => exact ⟨k + 1, _, rfl, by omega, by go_num, ⟨by have h := Hown.out; rw [Hy.out] at h; (try rw [← List.take_succ_eq_append_getElem hkl] at h); exact h, Hb3.out⟩⟩
         case measure => simp [intOf]; omega
     · obtain rfl : k = x.list.length := by omega
       rw [List.take_length] at Hs2
       obtain ⟨po, pc2, hpv⟩ := Hs.out.own.shape
       obtain ⟨lo, lc2, hlv⟩ := Hs2.out.own.shape
       subst hpv hlv
       -- the boxes, as they lie before the last stores
       have hbB : Below W0.heap.size W0 wr := Hs.out.old.trans (Hs2.out.old.mono (by omega))
       have q0 := cell_later' (B0'.out 0 _ rfl) hbB
       have q1 := cell_later' (B0'.out 1 _ rfl) hbB
       have q2 := cell_later' (B0'.out 2 _ rfl) hbB
       have q3 := cell_later' (B0'.out 3 _ rfl) hbB
       have q4 := cell_later' (B0'.out 4 _ rfl) hbB
       have q5 := cell_later' (B0'.out 5 _ rfl) hbB
       have p0 := cell_later' (B1'.out 0 _ rfl) hbB
       have p1 := cell_later' (B1'.out 1 _ rfl) hbB
       have p2 := cell_later' (B1'.out 2 _ rfl) hbB
       have p3 := cell_later' (B1'.out 3 _ rfl) hbB
       have p4 := cell_later' (B1'.out 4 _ rfl) hbB
       have p5 := cell_later' (B1'.out 5 _ rfl) hbB
       have e0 : ∀ j, wr.frozen? ⟨w.heap.size, j, none⟩ = false := fun j => (hbB.frozen (p := ⟨w.heap.size, j, none⟩) (by dsimp only; omega)).trans (F0'.out j)
       have e1 : ∀ j, wr.frozen? ⟨w.heap.size + 1, j, none⟩ = false := fun j => (hbB.frozen (p := ⟨w.heap.size + 1, j, none⟩) (by dsimp only; omega)).trans (F1'.out j)
       have e00 := e0 0
       have e01 := e0 1
       have hz9 : w.heap.size + 1 < wr.heap.size := cell_lt p0
       have E0 := hid e0
       have E1 := hid e1
       have HbB := hid hbB
       clear hs2 hbB e0 e1
       go_wp2_with fail
       obtain ⟨W2, hW2⟩ : ∃ W2, W2 = (wr.setCell ⟨w.heap.size, 0, none⟩ (.slice po x.phis.length pc2)).setCell ⟨w.heap.size, 1, none⟩ (.slice lo x.list.length lc2) := ⟨_, rfl⟩
       rw [← hW2]
       have c1 : (wr.setCell ⟨w.heap.size, 0, none⟩ (.slice po x.phis.length pc2)).cell? ⟨w.heap.size, 1, none⟩ = some (.slice la x.list.length lc) := by rw [cell_set q0, if_neg (by decide)]; exact q1
       have r0 : W2.cell? ⟨w.heap.size, 0, none⟩ = some (.slice po x.phis.length pc2) := by rw [hW2, cell_set c1, if_neg (by decide), cell_set q0, if_pos rfl]
       have r1 : W2.cell? ⟨w.heap.size, 1, none⟩ = some (.slice lo x.list.length lc2) := by rw [hW2, cell_set c1, if_pos rfl]
       have r2 : W2.cell? ⟨w.heap.size, 2, none⟩ = some (.int .i64 x.fin.kind) := by rw [hW2, cell_set c1, if_neg (by decide), cell_set q0, if_neg (by decide)]; exact q2
       have r3 : W2.cell? ⟨w.heap.size, 3, none⟩ = some (.bool x.fin.on.reg) := by rw [hW2, cell_set c1, if_neg (by decide), cell_set q0, if_neg (by decide)]; exact q3
       have r4 : W2.cell? ⟨w.heap.size, 4, none⟩ = some (.int .i64 x.fin.on.n) := by rw [hW2, cell_set c1, if_neg (by decide), cell_set q0, if_neg (by decide)]; exact q4
       have r5 : W2.cell? ⟨w.heap.size, 5, none⟩ = some (.slice ta x.fin.to.length tc) := by rw [hW2, cell_set c1, if_neg (by decide), cell_set q0, if_neg (by decide)]; exact q5
       have hne : w.heap.size + 1 ≠ w.heap.size := by omega
       have s0 : W2.cell? ⟨w.heap.size + 1, 0, none⟩ = some (.slice none 0 0) := by rw [hW2, cell_set_ne _ hne, cell_set_ne _ hne]; exact p0
       have s1 : W2.cell? ⟨w.heap.size + 1, 1, none⟩ = some (.slice none 0 0) := by rw [hW2, cell_set_ne _ hne, cell_set_ne _ hne]; exact p1
       have s2 : W2.cell? ⟨w.heap.size + 1, 2, none⟩ = some (.int .i64 0) := by rw [hW2, cell_set_ne _ hne, cell_set_ne _ hne]; exact p2
       have s3 : W2.cell? ⟨w.heap.size + 1, 3, none⟩ = some (.bool false) := by rw [hW2, cell_set_ne _ hne, cell_set_ne _ hne]; exact p3
       have s4 : W2.cell? ⟨w.heap.size + 1, 4, none⟩ = some (.int .i64 0) := by rw [hW2, cell_set_ne _ hne, cell_set_ne _ hne]; exact p4
       have s5 : W2.cell? ⟨w.heap.size + 1, 5, none⟩ = some (.slice none 0 0) := by rw [hW2, cell_set_ne _ hne, cell_set_ne _ hne]; exact p5
       have fz0 : ∀ j, W2.frozen? ⟨w.heap.size, j, none⟩ = false := by intro j; rw [hW2]; simp [E0.out]
       have fz1 : ∀ j, W2.frozen? ⟨w.heap.size + 1, j, none⟩ = false := by intro j; rw [hW2]; simp [E1.out]
       have hbW2 : Below w.heap.size w W2 := by rw [hW2]; have h := Hwr2.out; (have hz0 := (h).size; have hy0 := hz0; (try simp at hy0); repeat (first | exact Below.refl _ _ | refine Below.trans ?_ ((h).mono (by first|omega|(simp<;>omega))) | refine Below.alloc ?_ (by first|omega|(simp<;>omega)) _ | refine Below.setCell ?_ (by first|omega|(simp<;>omega)) _ | refine below_drewN ?_ _ | refine Below.drew ?_))
       have hsW2 : W2.heap.size = wr.heap.size := by rw [hW2]; simp [World.setCell]
       have hkW2 : Hid (∀ b, w.heap.size + 2 ≤ b → W2.heap[b]? = wr.heap[b]?) := fun b hb => by rw [hW2, Below.heap_setCell _ _ _ _ (by dsimp only; omega), Below.heap_setCell _ _ _ _ (by dsimp only; omega)]
       refine (cloneInts_any (S := S) ta tc x.fin.to W2 (Ht.out.later rInt_mono hbW2) nt).mono ?_
       rintro e w3 ⟨tv, rfl, htv, hb3⟩
       obtain ⟨to', tc', rfl⟩ := htv.shape
       have Htv := hid htv
       have Hb3 := hid hb3
       have t0 := cell_later' r0 hb3
       have t1 := cell_later' r1 hb3
       have t2 := cell_later' r2 hb3
       have t3 := cell_later' r3 hb3
       have t4 := cell_later' r4 hb3
       have t5 := cell_later' r5 hb3
       have v0 := cell_later' s0 hb3
       have v1 := cell_later' s1 hb3
       have v2 := cell_later' s2 hb3
       have v3 := cell_later' s3 hb3
       have v4 := cell_later' s4 hb3
       have v5 := cell_later' s5 hb3
       have hz10 : w.heap.size + 1 < w3.heap.size := cell_lt v0
       have y5 : w3.frozen? ⟨w.heap.size, 5, none⟩ = false := (hb3.frozen (p := ⟨w.heap.size, 5, none⟩) (by dsimp only; omega)).trans (fz0 5)
       have y : ∀ j, w3.frozen? ⟨w.heap.size + 1, j, none⟩ = false := fun j => (hb3.frozen (p := ⟨w.heap.size + 1, j, none⟩) (by dsimp only; omega)).trans (fz1 j)
       have y0 := y 0
       have y1 := y 1
       have y2 := y 2
       have y3 := y 3
       have y4 := y 4
       have y6 := y 5
       have HsW2 := hid hsW2
       have HbW2 := hid hbW2
       clear q0 q1 q2 q3 q4 q5 p0 p1 p2 p3 p4 p5 r0 r1 r2 r3 r4 r5 s0 s1 s2 s3 s4 s5 fz0 fz1 hW2 c1 htv hb3 y hne hz9 e00 e01 hsW2 hbW2
       go_wp2_with fail
       have hcells := set6 (u0 := .slice po x.phis.length pc2) (u1 := .slice lo x.list.length lc2) (u2 := .int .i64 x.fin.kind) (u3 := .bool x.fin.on.reg) (u4 := .int .i64 x.fin.on.n) (u5 := .slice to' x.fin.to.length tc')
        (w := w3.setCell ⟨w.heap.size, 5, none⟩ (.slice to' x.fin.to.length tc')) (b := w.heap.size + 1) (o0 := .slice none 0 0) (o1 := .slice none 0 0) (o2 := .int .i64 0) (o3 := .bool false) (o4 := .int .i64 0) (o5 := .slice none 0 0)
        (by
          have hne : w.heap.size + 1 ≠ w.heap.size := by omega
          exact .cons ((cell_set_ne w3 hne _ 0).trans v0) (.cons ((cell_set_ne w3 hne _ 1).trans v1) (.cons ((cell_set_ne w3 hne _ 2).trans v2) (.cons ((cell_set_ne w3 hne _ 3).trans v3) (.cons ((cell_set_ne w3 hne _ 4).trans v4) (.cons ((cell_set_ne w3 hne _ 5).trans v5) (CellsAt.nil _ _ _)))))))
       obtain ⟨h0, h1, h2, h3, h4, h5⟩ := hcells.get6
       obtain ⟨W5, hW5⟩ : ∃ W5, W5 = (((((((w3.setCell ⟨w.heap.size, 5, none⟩ (.slice to' x.fin.to.length tc')).setCell ⟨w.heap.size + 1, 0, none⟩ (.slice po x.phis.length pc2)).setCell ⟨w.heap.size + 1, 1, none⟩ (.slice lo x.list.length lc2)).setCell ⟨w.heap.size + 1, 2, none⟩ (.int .i64 x.fin.kind)).setCell ⟨w.heap.size + 1, 3, none⟩ (.bool x.fin.on.reg)).setCell ⟨w.heap.size + 1, 4, none⟩ (.int .i64 x.fin.on.n)).setCell ⟨w.heap.size + 1, 5, none⟩ (.slice to' x.fin.to.length tc')) := ⟨_, rfl⟩
       rw [← hW5] at h0 h1 h2 h3 h4 h5 ⊢
       have hbw3 : Below w.heap.size w w3 := HbW2.out.trans (Hb3.out.mono HbW2.out.size)
       have hle : w.heap.size ≤ w.heap.size + 1 := Nat.le_succ _
       have hbW5 : Below w.heap.size w W5 := by
        rw [hW5]
        exact ((((((hbw3.setCell (p := ⟨w.heap.size, 5, none⟩) (Nat.le_refl _) _).setCell (p := ⟨w.heap.size + 1, 0, none⟩) hle _).setCell (p := ⟨w.heap.size + 1, 1, none⟩) hle _).setCell (p := ⟨w.heap.size + 1, 2, none⟩) hle _).setCell (p := ⟨w.heap.size + 1, 3, none⟩) hle _).setCell (p := ⟨w.heap.size + 1, 4, none⟩) hle _).setCell (p := ⟨w.heap.size + 1, 5, none⟩) hle _
       have hsW5 : W5.heap.size = w3.heap.size := by rw [hW5]; simp [World.setCell]
       have hkW5 : ∀ b, w.heap.size + 2 ≤ b → W5.heap[b]? = w3.heap[b]? := fun b hb => by
        rw [hW5]
        iterate 7 rw [Below.heap_setCell _ _ _ _ (by dsimp only; omega)]
       refine bodyPost_ret (v := .agg #[.slice po x.phis.length pc2, .slice lo x.list.length lc2, .int .i64 x.fin.kind, .bool x.fin.on.reg, .int .i64 x.fin.on.n, .slice to' x.fin.to.length tc']) ?_ rfl ⟨_, _, _, rfl, ?_, hbW5⟩
       · simp [results, Tryz.results77, go_sem, h0, h1, h2, h3, h4, h5]
       · have z1 := Hs.out.old.size
         have z2 := Hs2.out.old.size
         have z3 := Hb3.out.size
         have z4 := HsW2.out
         refine ⟨w.heap.size + 2, WA.heap.size, WA.heap.size, wr.heap.size, W2.heap.size, w3.heap.size, ⟨by omega, by omega, by omega⟩, ⟨by omega, by omega, by omega⟩, ⟨by omega, by omega, by omega⟩, .inl (by omega), .inl (by omega), .inl (by omega), ?_, ?_, ?_⟩
         · have h := Hs.out.own.inn
           rw [hs0] at h
           refine h.kept rPhi_mono (fun b h1 h2 => ?_)
           rw [hkW5 b h1, Hb3.out.block b (by omega), hkW2.out b h1, Hs2.out.old.block b h2]
         · refine Hs2.out.own.inn.kept rIns_mono (fun b h1 h2 => ?_)
           rw [hkW5 b (by omega), Hb3.out.block b (by omega), hkW2.out b (by omega)]
         · refine Htv.out.inn.kept rInt_mono (fun b h1 h2 => ?_)
           rw [hkW5 b (by omega)]

end Go.Proofs.YtnkogppgacappaaGreatDoor

namespace Go.Proofs.YtnkogppgacappaaGreatDoor
open Go.RowKit Go.Shelf

attribute [local go_sem] Oper.semAt_some

def KeepE (n₀ : Nat) (X : Nat → Prop) (W W' : World) : Prop := W.heap.size ≤ W'.heap.size ∧ ∀ b, b < n₀ → ¬ X b → W'.heap[b]? = W.heap[b]?
theorem KeepE.refl (n₀ : Nat) (X : Nat → Prop) (W : World) : KeepE n₀ X W W := ⟨Nat.le_refl _, fun _ _ _ => rfl⟩
theorem keepE_t {n₀ : Nat} {X : Nat → Prop} {A B C : World} (h : KeepE n₀ X A B) (k : KeepE n₀ X B C) : KeepE n₀ X A C := ⟨Nat.le_trans h.1 k.1, fun b h1 h2 => (k.2 b h1 h2).trans (h.2 b h1 h2)⟩
theorem keepE_b {n₀ : Nat} {X : Nat → Prop} {w : World} (hn : n₀ ≤ w.heap.size) (W : World) (l : Nat) (o o' : Obj) (hl : w.heap.size ≤ l) (_ : W.heap[l]? = some o) (_ : o.isCells = false) (_ : o.isWalk = false) : KeepE n₀ X W (W.putObj l o') :=
 ⟨by simp, fun b h1 _ => World.putObj_heap_other (by omega)⟩
theorem KeepE.cell {n₀ : Nat} {X : Nat → Prop} {W W' : World} (h : KeepE n₀ X W W') {b o : Nat} {v : Value} (hc : W.cell? ⟨b, o, none⟩ = some v) (hb : b < n₀) (hx : ¬ X b) : W'.cell? ⟨b, o, none⟩ = some v := by
 rw [World.cell?_of_block (w := W) (a := ⟨b, o, none⟩) (h.2 b hb hx)]; exact hc
end Go.Proofs.YtnkogppgacappaaGreatDoor

namespace Go.Proofs.YtnkogppgacappaaGreatDoor
open Go.RowKit Go.Shelf

attribute [local go_sem] Oper.semAt_some

def BackP (L : List Int) : Type := { x : Nat × Int // L[x.1]? = some x.2 }
def numOf {L : List Int} (x : BackP L) : Int := x.1.2
def encB {L : List Int} (x : BackP L) : Array Value := #[.int .i64 (x.1.1 : Int), .int .i64 x.1.2]
theorem numOf_mem {L : List Int} (x : BackP L) : numOf x ∈ L := List.mem_of_getElem? x.2

theorem back_in (F : Fence) (n : Nat) (h : F.fn 134) (hro : F.round = none) (a : Option Addr) (m c : Nat) (w : World) :
 CallsIn F n Tryz.prog 134 #[.slice a m c] w fun e w' => e = .returned (.func (.func 152) #[] #[.pointer (some ⟨w.heap.size, 0, none⟩)]) ∧ w' = w.alloc (.cells #[.slice a m c] 33) := by
 refine callsIn_of_wp Tryz.func134 rfl h ?_ hro
 simp only [Tryz.ntmps134, List.size_toArray, List.length_cons, List.length_nil, Nat.reduceAdd, Nat.reduceSub, Array.replicate_succ, Array.replicate_zero, List.push_toArray, List.append_toArray, List.nil_append, List.cons_append]
 gi_wp2
 go_ret
 exact ⟨rfl, rfl⟩

set_option maxRecDepth 100000 in
set_option maxHeartbeats 4000000 in
theorem back1_in (F : Fence) (n : Nat) (h : F.fn 152) (hro : F.round = none) (hn : 1 ≤ n) (l Bs n₀ : Nat) (X : Nat → Prop) (a : Option Addr) (c : Nat) (L : List Int) (W0 : World)
 (hL : L.length ≤ 1048576) (hb : SlAt (fun b => b < n₀ ∧ ¬ X b) W0 1 rInt (.slice a L.length c) L) (hBn : Bs < n₀ ∧ ¬ X Bs)
 (J Jx : List (BackP L) → World → Prop)
 (hY : ∀ pre x W1, J pre W1 → pre.length < L.length → YieldAt F (n - 1) Tryz.prog l (encB x) W1 fun e W' =>
   (e = .returned (.bool true) ∧ J (pre ++ [x]) W' ∧ KeepE n₀ X W1 W') ∨ (e = .returned (.bool false) ∧ Jx (pre ++ [x]) W'))
 (W : World) (hW : Below W0.heap.size W0 W) (hBs : W.cell? ⟨Bs, 0, none⟩ = some (.slice a L.length c)) (h0 : J [] W) :
 CallsIn F n Tryz.prog 152 #[.func (.yield l) #[] #[], .pointer (some ⟨Bs, 0, none⟩)] W fun e W' => (∃ v, e = .returned v) ∧
  ((∃ ys : List (BackP L), ys.map numOf = L.reverse ∧ J ys W') ∨ (∃ pre : List (BackP L), pre.map numOf <+: L.reverse ∧ Jx pre W')) := by
 have Hb := hid hb
 have HY := hid hY
 have HW := hid hW
 have HBs := hid hBs
 have zB : Bs < W.heap.size := cell_lt hBs
 clear hb hY hW
 refine callsIn_of_wp Tryz.func152 rfl h ?_ hro
 simp only [Tryz.ntmps152, List.size_toArray, List.length_cons, List.length_nil, Nat.reduceAdd, Nat.reduceSub, Array.replicate_succ, Array.replicate_zero, List.push_toArray, List.append_toArray, List.nil_append, List.cons_append]
 gi_wp2
 clear hBs
 gi_loopw [3] (fun i wr => ∃ (k : Nat) (pre : List (BackP L)), k ≤ L.length ∧ i = .int .i64 ((k : Int) - 1) ∧ pre.map numOf = (L.drop k).reverse ∧ J pre wr ∧ KeepE n₀ X W wr) (fun i _ => (intOf i + 1).toNat)
 case atStart => exact ⟨L.length, [], Nat.le_refl _, rfl, by simp, h0, KeepE.refl _ _ _⟩
 case round =>
  obtain ⟨k, pre, hk, rfl, hpre, hJ, hkp⟩ := hrel
  have Hpre := hid hpre
  have HJ := hid hJ
  have Hkp := hid hkp
  have c0 := hkp.cell HBs.out hBn.1 hBn.2
  have z0 : Bs < wr.heap.size := cell_lt c0
  clear hpre hJ hkp
  cases k with
  | zero =>
    have Hpr : Hid (pre.map numOf = L.reverse) := by show _ = _; rw [Hpre.out, List.drop_zero]
    have e0 : ((0 : Nat) : Int) - 1 = -1 := rfl
    rw [e0]
    clear e0
    gi_wp2
    go_end0
    exact ⟨⟨_, rfl⟩, .inl ⟨pre, Hpr.out, HJ.out⟩⟩
  | succ k =>
    have hkl : k < L.length := hk
    have e0 : ((k + 1 : Nat) : Int) - 1 = (k : Int) := by omega
    rw [e0]
    obtain ⟨xb, xoff, cs, hxa, hxS, ⟨rfl, -⟩, -, hcs⟩ := Hb.out.get hkl
    subst hxa
    have hd := hcs.get1
    rw [Nat.mul_one] at hd
    obtain ⟨y, hy⟩ : ∃ y, y = L[k] := ⟨_, rfl⟩
    rw [← hy] at hd
    have d0 := Hkp.out.cell (cell_later' hd HW.out) hxS.1 hxS.2
    have zx : xb < wr.heap.size := cell_lt d0
    obtain ⟨x, hx⟩ : ∃ x : BackP L, x = ⟨(k, y), by rw [hy]; exact List.getElem?_eq_getElem hkl⟩ := ⟨_, rfl⟩
    have henc : encB x = #[.int .i64 (k : Int), .int .i64 y] := by rw [hx]; rfl
    have hnum : numOf x = y := by rw [hx]; rfl
    have hlen : pre.length < L.length := by
     have h := congrArg List.length Hpre.out
     rw [List.length_map, List.length_reverse, List.length_drop] at h
     omega
    obtain ⟨fn, tmps, assign, body, hyy, hR⟩ := HY.out pre x wr HJ.out hlen
    rw [henc] at hyy
    have Hpr2 : Hid ((pre ++ [x]).map numOf = (L.drop k).reverse) := by
     show _ = _
     rw [List.map_append, Hpre.out, List.drop_eq_getElem_cons hkl, List.reverse_cons]
     show _ ++ [numOf x] = _
     rw [hnum, hy]
    have Hpx : Hid ((L.drop k).reverse <+: L.reverse) := List.reverse_prefix.2 (List.drop_suffix k L)
    have HR := hid hR
    clear hcs hx henc hnum hR hd hy hlen e0
    gi_wp2
    refine HR.out.mono ?_
    rintro e W3 (⟨rfl, hJ3, hk3⟩ | ⟨rfl, hJx3⟩)
    · have HJ3 := hid hJ3
      have Hk3 := hid (keepE_t Hkp.out hk3)
      clear hJ3 hk3
      gi_wp2
      go_roundw
      case rel => exact ⟨k, pre ++ [x], by omega, rfl, Hpr2.out, HJ3.out, Hk3.out⟩
      case measure => simp [intOf]
    · have HJ3 := hid hJx3
      clear hJx3
      gi_wp2
      refine bodyPost_ret (results_none rfl _ _ _) rfl ?_
      exact ⟨⟨_, rfl⟩, .inr ⟨pre ++ [x], by rw [Hpr2.out]; exact Hpx.out, HJ3.out⟩⟩

theorem back_stops (F : Fence) (n : Nat) (h : F.fn 152) (hro : F.round = none) (hn : 1 ≤ n) (Bs n₀ : Nat) (X : Nat → Prop) (a : Option Addr) (c : Nat) (L : List Int) (W0 w : World)
 (hL : L.length ≤ 1048576) (hb : SlAt (fun b => b < n₀ ∧ ¬ X b) W0 1 rInt (.slice a L.length c) L) (hBn : Bs < n₀ ∧ ¬ X Bs) (h0 : Below W0.heap.size W0 w) (hBs : w.cell? ⟨Bs, 0, none⟩ = some (.slice a L.length c)) :
 SeqStopsK F n Tryz.prog 152 #[.pointer (some ⟨Bs, 0, none⟩)] (encB (L := L)) (KeepE n₀ X) (fun ys => ys.map numOf = L.reverse) (fun pre => pre.map numOf <+: L.reverse) L.length w :=
 fun l J Jx W hW _ _ hY hJ0 =>
  (back1_in F n h hro hn l Bs n₀ X a c L W0 hL hb hBn J Jx hY W (h0.trans (hW.mono h0.size)) (cell_later' hBs hW) hJ0).mono fun _ _ h => h

end Go.Proofs.YtnkogppgacappaaGreatDoor
