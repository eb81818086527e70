/- calls.Copy: a unit of the call's own memory. -/
import Derived.Test.YtaehkcnankijfaaDoorCopyF
namespace Go.Proofs.YtaehkcnankijfaaDoor
open Go.RowKit

theorem infoGlobal : (Tryd.prog.info? 83).map (fun i => (i.zero, i.size, i.bytes)) = some (some (.agg #[.string ⟨#[]⟩, .int .i64 0, .slice none 0 0]), 3, 48) := by kernel_rfl
theorem infoFunc : (Tryd.prog.info? 35).map (fun i => (i.zero, i.size, i.bytes)) = some (some (.agg #[.string ⟨#[]⟩, .int .i64 0, .int .i64 0, .slice none 0 0]), 4, 56) := by kernel_rfl

/-- The three boxes of Copy. -/
structure CPBox (w wr : World) (g f gv fv : Value) : Prop where
  below : Below w.heap.size w wr
  par : CellsAt wr w.heap.size 0 [g, f]
  res : CellsAt wr (w.heap.size + 1) 0 [.slice none 0 0, .slice none 0 0]
  resFree : ∀ j, wr.frozen? ⟨w.heap.size + 1, j, none⟩ = false
  out : CellsAt wr (w.heap.size + 2) 0 [gv, fv]
  outFree : ∀ j, wr.frozen? ⟨w.heap.size + 2, j, none⟩ = false
theorem cells_keep {w w' : World} {b o : Nat} {cs : List Value} (h : CellsAt w b o cs) (hk : w'.heap[b]? = w.heap[b]?) : CellsAt w' b o cs := fun j v hj => by
  rw [World.cell?_of_block (w := w) (a := ⟨b, o + j, none⟩) hk]; exact h j v hj
theorem CPBox.keep {w wr w3 : World} {g f gv fv : Value} (h : CPBox w wr g f gv fv) (hb : Below w.heap.size w w3) (hk : ∀ b, w.heap.size ≤ b → b < w.heap.size + 3 → w3.heap[b]? = wr.heap[b]?) : CPBox w w3 g f gv fv :=
  ⟨hb, cells_keep h.par (hk _ (by omega) (by omega)), cells_keep h.res (hk _ (by omega) (by omega)), fun j => (World.frozen?_of_block (w := wr) (a := ⟨w.heap.size + 1, j, none⟩) (hk _ (by dsimp only; omega) (by dsimp only; omega))).trans (h.resFree j),
    cells_keep h.out (hk _ (by omega) (by omega)), fun j => (World.frozen?_of_block (w := wr) (a := ⟨w.heap.size + 2, j, none⟩) (hk _ (by dsimp only; omega) (by dsimp only; omega))).trans (h.outFree j)⟩
theorem CPBox.set0 {w wr : World} {g f gv fv : Value} (h : CPBox w wr g f gv fv) (u : Value) : CPBox w (wr.setCell ⟨w.heap.size + 2, 0, none⟩ u) g f u fv := by
  obtain ⟨o0, o1⟩ := h.out.get2
  have hk : ∀ b, b ≠ w.heap.size + 2 → (wr.setCell ⟨w.heap.size + 2, 0, none⟩ u).heap[b]? = wr.heap[b]? := fun b hb => Below.heap_setCell _ _ _ _ hb
  refine ⟨h.below.setCell (by dsimp only; omega) _, cells_keep h.par (hk _ (by omega)), cells_keep h.res (hk _ (by omega)), fun j => (World.frozen?_of_block (w := wr) (a := ⟨w.heap.size + 1, j, none⟩) (hk _ (by dsimp only; omega))).trans (h.resFree j), ?_, fun j => by simp; exact h.outFree j⟩
  exact .cons (by rw [cell_set o0, if_pos rfl]) (.cons (by rw [Nat.zero_add, cell_set o0, if_neg (by decide)]; exact o1) (CellsAt.nil _ _ _))
theorem CPBox.set1 {w wr : World} {g f gv fv : Value} (h : CPBox w wr g f gv fv) (u : Value) : CPBox w (wr.setCell ⟨w.heap.size + 2, 1, none⟩ u) g f gv u := by
  obtain ⟨o0, o1⟩ := h.out.get2
  rw [Nat.zero_add] at o1
  have hk : ∀ b, b ≠ w.heap.size + 2 → (wr.setCell ⟨w.heap.size + 2, 1, none⟩ u).heap[b]? = wr.heap[b]? := fun b hb => Below.heap_setCell _ _ _ _ hb
  refine ⟨h.below.setCell (by dsimp only; omega) _, cells_keep h.par (hk _ (by omega)), cells_keep h.res (hk _ (by omega)), fun j => (World.frozen?_of_block (w := wr) (a := ⟨w.heap.size + 1, j, none⟩) (hk _ (by dsimp only; omega))).trans (h.resFree j), ?_, fun j => by simp; exact h.outFree j⟩
  exact .cons (by rw [cell_set o1, if_neg (by decide)]; exact o0) (.cons (by rw [Nat.zero_add, cell_set o1, if_pos rfl]) (CellsAt.nil _ _ _))
theorem CPBox.drew {w wr : World} {g f gv fv : Value} (h : CPBox w wr g f gv fv) : CPBox w wr.drew g f gv fv := ⟨h.below.drew, h.par, h.res, h.resFree, h.out, h.outFree⟩

theorem global_at {S : Nat → Prop} {w : World} {a : Option Addr} {n c : Nat} {l : List DGlobal} (h : SlAt S w 3 rGlobal (.slice a n c) l) {k : Nat} (hk : k < l.length) :
    ∃ b off ia ic, a = some ⟨b, off, none⟩ ∧ CellsAt w b (off + k * 3) [.string l[k].name, .int .i64 l[k].size, .slice ia l[k].init.length ic] ∧ SlAt S w 1 rInt (.slice ia l[k].init.length ic) l[k].init ∧ I64 l[k].size := by
  obtain ⟨b, off, cs, ha, -, hr, -, hcs⟩ := h.get hk
  obtain ⟨ia, ic, rfl, h1, -, h2⟩ := hr.opens
  exact ⟨b, off, ia, ic, ha, hcs, h1, h2⟩
theorem func_at {S : Nat → Prop} {w : World} {a : Option Addr} {n c : Nat} {l : List DFunc} (h : SlAt S w 4 rFunc (.slice a n c) l) {k : Nat} (hk : k < l.length) :
    ∃ b off xa xc, a = some ⟨b, off, none⟩ ∧ CellsAt w b (off + k * 4) [.string l[k].name, .int .i64 l[k].params, .int .i64 l[k].regs, .slice xa l[k].blocks.length xc] ∧ SlAt S w 6 rBlock (.slice xa l[k].blocks.length xc) l[k].blocks ∧ I64 l[k].params ∧ I64 l[k].regs := by
  obtain ⟨b, off, cs, ha, -, hr, -, hcs⟩ := h.get hk
  obtain ⟨xa, xc, rfl, h1, -, h2, h3⟩ := hr.opens
  exact ⟨b, off, xa, xc, ha, hcs, h1, h2, h3⟩

/-- The sizes of a function that are asked of it. -/
structure SmallF (f : DFunc) : Prop where
  blocks : f.blocks.length ≤ 1048576
  each : ∀ x ∈ f.blocks, SmallB x

set_option maxRecDepth 100000 in
set_option maxHeartbeats 4000000 in
theorem copy_any {S : Nat → Prop} (ga fa : Option Addr) (gc fc : Nat) (gs : List DGlobal) (fs : List DFunc) (w : World) (hg : SlAt S w 3 rGlobal (.slice ga gs.length gc) gs) (hf : SlAt S w 4 rFunc (.slice fa fs.length fc) fs)
    (ng : gs.length ≤ 1048576) (nf : fs.length ≤ 1048576) (sg : ∀ g ∈ gs, g.init.length ≤ 1048576) (sf : ∀ f ∈ fs, SmallF f) :
    Calls Tryd.prog 50 #[.agg #[.slice ga gs.length gc, .slice fa fs.length fc]] w fun e w' =>
      ∃ gv fv A, e = .returned (.agg #[gv, fv]) ∧ w.heap.size + 3 ≤ A ∧ A ≤ w'.heap.size ∧ OwnIn (w.heap.size + 3) A w' 83 3 rGlobal gv gs ∧ OwnIn A w'.heap.size w' 35 4 rFunc fv fs ∧ Below w.heap.size w w' := by
  have Hg := hid hg
  have Hf := hid hf
  have Sg := hid sg
  have Sf := hid sf
  clear hg hf sg sf
  obtain ⟨ig, hig, hgz0, hgz1, hgz2⟩ := info_parts infoGlobal
  obtain ⟨if_, hif, hfz0, hfz1, hfz2⟩ := info_parts infoFunc
  go_enter Tryd.func50, Tryd.ntmps50
  go_wp2_with fail
  obtain ⟨W0, hW0⟩ : ∃ W0, W0 = ((w.alloc (.cells #[.slice ga gs.length gc, .slice fa fs.length fc] 25)).alloc (.cells #[.slice none 0 0, .slice none 0 0] 25)).alloc (.cells #[.slice none 0 0, .slice none 0 0] 25) := ⟨_, rfl⟩
  have hs0 : W0.heap.size = w.heap.size + 3 := by rw [hW0]; simp
  have hst : CPBox w W0 (.slice ga gs.length gc) (.slice fa fs.length fc) (.slice none 0 0) (.slice none 0 0) := by
    refine ⟨by rw [hW0]; (repeat (first | exact Below.refl _ _ | refine Below.alloc ?_ (by first | omega | (simp <;> omega)) _ | refine Below.setCell ?_ (by first | omega | (simp <;> omega)) _ | refine below_drewN ?_ _ | refine Below.drew ?_)), ?_, ?_, by intro j; rw [hW0, World.frozen?_alloc_old _ _ _ (by simp), World.frozen?_alloc_at _ _ _ _ (by simp)], ?_, by intro j; rw [hW0, World.frozen?_alloc_at _ _ _ _ (by simp)]⟩
    · intro j u hj; rw [hW0, Nat.zero_add, World.cell?_alloc_past _ _ _ (by simp; omega), World.cell?_alloc2_first]; simpa using hj
    · intro j u hj; rw [hW0, Nat.zero_add, World.cell?_alloc_past _ _ _ (by simp), World.cell?_alloc2_new]; simpa using hj
    · intro j u hj; rw [hW0, Nat.zero_add, World.cell?_alloc_at _ _ _ _ (by simp)]; simpa using hj
  rw [← hW0]
  have Hst := hid hst
  have Hs0 := hid hs0
  clear hW0 hst hs0
  go_loopw [12] (fun i wr => ∃ (k : Nat) (v : Value), k ≤ gs.length ∧ i = .int .i64 k ∧ w.heap.size + 3 ≤ wr.heap.size ∧ CPBox w wr (.slice ga gs.length gc) (.slice fa fs.length fc) v (.slice none 0 0) ∧ Own (w.heap.size + 3) wr 83 3 rGlobal v (gs.take k)) (fun i _ => gs.length - (intOf i).toNat)
  case atStart => exact ⟨0, _, Nat.zero_le _, rfl, Nat.le_of_eq Hs0.out.symm, Hst.out, Own.nil _ _ _ _ _⟩
  case round =>
    obtain ⟨k, v, hk, rfl, hsz, hbx, hown⟩ := hrel
    have Hbx := hid hbx
    have Hown := hid hown
    by_cases hkl : k < gs.length
    · obtain ⟨b, off, ia, ic, rfl, hcs, hin, hd⟩ := global_at (Hg.out.later rGlobal_mono hbx.below) hkl
      obtain ⟨d0, d1, d2⟩ := hcs.get3
      have hb9 : b < wr.heap.size := cell_lt d0
      obtain ⟨y, hy⟩ : ∃ y, y = gs[k] := ⟨_, rfl⟩
      rw [← hy] at d0 d1 d2 hin hd
      have Hy := hid hy
      have hns : y.init.length ≤ 1048576 := by rw [hy]; exact Sg.out _ (List.getElem_mem hkl)
      have Hin := hid hin
      have Hd := hid hd
      obtain ⟨W1, hW1⟩ : ∃ W1, W1 = wr.alloc (.cells #[.string y.name, .int .i64 y.size, .slice ia y.init.length ic] 83) := ⟨_, rfl⟩
      have kc : CellsAt W1 wr.heap.size 0 [.string y.name, .int .i64 y.size, .slice ia y.init.length ic] := by
        intro j u hj
        rw [hW1, Nat.zero_add, World.cell?_alloc_new]
        simpa using hj
      have kf : W1.frozen? ⟨wr.heap.size, 2, none⟩ = false := by rw [hW1]; simp
      have hz1 : W1.heap.size = wr.heap.size + 1 := by rw [hW1]; simp
      have hbW1 : Below wr.heap.size wr W1 := by rw [hW1]; (repeat (first | exact Below.refl _ _ | refine Below.alloc ?_ (by first | omega | (simp <;> omega)) _ | refine Below.setCell ?_ (by first | omega | (simp <;> omega)) _ | refine below_drewN ?_ _ | refine Below.drew ?_))
      have HbW1 := hid hbW1
      have g3 : W1.cell? ⟨w.heap.size + 2, 0, none⟩ = some v := cell_later' hbx.out.get2.1 hbW1
      have f3 : W1.frozen? ⟨w.heap.size + 2, 0, none⟩ = false := (hbW1.frozen (p := ⟨w.heap.size + 2, 0, none⟩) (by dsimp only; omega)).trans (hbx.outFree 0)
      clear hbx hown hcs hy hin hd
      go_wp2_with fail
      rw [← hW1]
      refine (cloneInts_any (S := S) ia ic y.init W1 (Hin.out.later rInt_mono hbW1) hns).mono ?_
      rintro e w2 ⟨v', rfl, hv', hb2⟩
      obtain ⟨a', c', rfl⟩ := hv'.shape
      have Hv' := hid hv'
      have Hb2 := hid hb2
      obtain ⟨m0, m1, m2⟩ := (kc.later hb2).get3
      simp only [Nat.zero_add] at m1 m2
      have mf : w2.frozen? ⟨wr.heap.size, 2, none⟩ = false := (hb2.frozen (p := ⟨wr.heap.size, 2, none⟩) (by dsimp only; omega)).trans kf
      have n3 := cell_later' g3 hb2
      have ff3 : w2.frozen? ⟨w.heap.size + 2, 0, none⟩ = false := (hb2.frozen (p := ⟨w.heap.size + 2, 0, none⟩) (by dsimp only; omega)).trans f3
      have hz2 : wr.heap.size < w2.heap.size := cell_lt m0
      have hz3 : w.heap.size + 2 < wr.heap.size := by omega
      clear kc kf hbW1 hv' hb2 hW1 d0 d1 d2 g3 f3
      go_wp2_with (at_builtin; refine wpList_append_Own rfl _ _ 22 rfl (w.heap.size + 3) 83 ig _ 3 48 Tryd.underlying22 hig hgz0 hgz1 hgz2 rfl (by decide) rGlobal_mono v (gs.take k) rfl ?_ ⟨w2.heap.size, 0, none⟩ 1 [.string y.name, .int .i64 y.size, .slice a' y.init.length c'] y rfl rfl ?_ ?_ ?_ ?_ (by decide) ?_ ?_)
      · exact Hown.out.later rGlobal_mono (by have h := HbW1.out; have h2 := Hb2.out; (repeat (first | exact Below.refl _ _ | exact (h2).mono (by first | omega | (simp <;> omega) | (have hh := (h2).size; (try simp at hh); omega) | (have hh := (h2).size; (try simp at hh); (try simp); omega) | (have hh := (h).size; (try simp at hh); omega) | (have hh := (h).size; (try simp at hh); (try simp); omega)) | refine Below.trans ?_ ((h2).mono (by first | omega | (simp <;> omega) | (have hh := (h2).size; (try simp at hh); omega) | (have hh := (h2).size; (try simp at hh); (try simp); omega) | (have hh := (h).size; (try simp at hh); omega) | (have hh := (h).size; (try simp at hh); (try simp); omega))) | exact (h).mono (by first | omega | (simp <;> omega) | (have hh := (h2).size; (try simp at hh); omega) | (have hh := (h2).size; (try simp at hh); (try simp); omega) | (have hh := (h).size; (try simp at hh); omega) | (have hh := (h).size; (try simp at hh); (try simp); omega)) | refine Below.trans ?_ ((h).mono (by first | omega | (simp <;> omega) | (have hh := (h2).size; (try simp at hh); omega) | (have hh := (h2).size; (try simp at hh); (try simp); omega) | (have hh := (h).size; (try simp at hh); omega) | (have hh := (h).size; (try simp at hh); (try simp); omega))) | refine Below.alloc ?_ (by first | omega | (simp <;> omega) | (have hh := (h2).size; (try simp at hh); omega) | (have hh := (h2).size; (try simp at hh); (try simp); omega) | (have hh := (h).size; (try simp at hh); omega) | (have hh := (h).size; (try simp at hh); (try simp); omega)) _ | refine Below.setCell ?_ (by first | omega | (simp <;> omega) | (have hh := (h2).size; (try simp at hh); omega) | (have hh := (h2).size; (try simp at hh); (try simp); omega) | (have hh := (h).size; (try simp at hh); omega) | (have hh := (h).size; (try simp at hh); (try simp); omega)) _ | refine below_drewN ?_ _ | refine Below.drew ?_)))
      · exact new_cells _ _ _ (by simp)
      · intro u hu; simp at hu; rcases hu with rfl | rfl | rfl <;> rfl
      · refine ⟨_, rfl, Hv'.out.sub rInt_mono (by decide) (by omega) (fun g hg => by have := Hown.out.lt g hg; omega) (fun b hb hl => heap_set_alloc _ _ _ _ hl (by dsimp only; omega)) (by simp), Hd.out⟩
      · rw [List.length_take]; omega
      · simp; omega
      · intro v2 w3 hown3 hgrow g2 cap2 hv2
        have hkk : ∀ B, B < wr.heap.size → some B ≠ v.ownBlock → w3.heap[B]? = wr.heap[B]? := fun B h1 h2 => by
          rw [hgrow.block B (by simp; omega) h2, heap_set_alloc _ _ _ _ (by omega) (by dsimp only; omega), Hb2.out.block B (by omega), HbW1.out.block B h1]
        have hlow : ∀ B, w.heap.size ≤ B → B < w.heap.size + 3 → w3.heap[B]? = wr.heap[B]? := fun B h1 h2 => hkk B (by omega) (fun e => by have := (Hown.out.lt B e.symm).1; omega)
        have hb3 : Below w.heap.size w w3 := by
          refine Below.grown ?_ hgrow (by simp; omega) (fun g hg => by have := (Hown.out.lt g hg).1; omega)
          have h := Hbx.out.below; have h1 := HbW1.out; have h2 := Hb2.out
          (repeat (first | exact Below.refl _ _ | exact (h2).mono (by first | omega | (simp <;> omega) | (have hh := (h2).size; (try simp at hh); omega) | (have hh := (h2).size; (try simp at hh); (try simp); omega) | (have hh := (h1).size; (try simp at hh); omega) | (have hh := (h1).size; (try simp at hh); (try simp); omega) | (have hh := (h).size; (try simp at hh); omega) | (have hh := (h).size; (try simp at hh); (try simp); omega)) | refine Below.trans ?_ ((h2).mono (by first | omega | (simp <;> omega) | (have hh := (h2).size; (try simp at hh); omega) | (have hh := (h2).size; (try simp at hh); (try simp); omega) | (have hh := (h1).size; (try simp at hh); omega) | (have hh := (h1).size; (try simp at hh); (try simp); omega) | (have hh := (h).size; (try simp at hh); omega) | (have hh := (h).size; (try simp at hh); (try simp); omega))) | exact (h1).mono (by first | omega | (simp <;> omega) | (have hh := (h2).size; (try simp at hh); omega) | (have hh := (h2).size; (try simp at hh); (try simp); omega) | (have hh := (h1).size; (try simp at hh); omega) | (have hh := (h1).size; (try simp at hh); (try simp); omega) | (have hh := (h).size; (try simp at hh); omega) | (have hh := (h).size; (try simp at hh); (try simp); omega)) | refine Below.trans ?_ ((h1).mono (by first | omega | (simp <;> omega) | (have hh := (h2).size; (try simp at hh); omega) | (have hh := (h2).size; (try simp at hh); (try simp); omega) | (have hh := (h1).size; (try simp at hh); omega) | (have hh := (h1).size; (try simp at hh); (try simp); omega) | (have hh := (h).size; (try simp at hh); omega) | (have hh := (h).size; (try simp at hh); (try simp); omega))) | exact (h).mono (by first | omega | (simp <;> omega) | (have hh := (h2).size; (try simp at hh); omega) | (have hh := (h2).size; (try simp at hh); (try simp); omega) | (have hh := (h1).size; (try simp at hh); omega) | (have hh := (h1).size; (try simp at hh); (try simp); omega) | (have hh := (h).size; (try simp at hh); omega) | (have hh := (h).size; (try simp at hh); (try simp); omega)) | refine Below.trans ?_ ((h).mono (by first | omega | (simp <;> omega) | (have hh := (h2).size; (try simp at hh); omega) | (have hh := (h2).size; (try simp at hh); (try simp); omega) | (have hh := (h1).size; (try simp at hh); omega) | (have hh := (h1).size; (try simp at hh); (try simp); omega) | (have hh := (h).size; (try simp at hh); omega) | (have hh := (h).size; (try simp at hh); (try simp); omega))) | refine Below.alloc ?_ (by first | omega | (simp <;> omega) | (have hh := (h2).size; (try simp at hh); omega) | (have hh := (h2).size; (try simp at hh); (try simp); omega) | (have hh := (h1).size; (try simp at hh); omega) | (have hh := (h1).size; (try simp at hh); (try simp); omega) | (have hh := (h).size; (try simp at hh); omega) | (have hh := (h).size; (try simp at hh); (try simp); omega)) _ | refine Below.setCell ?_ (by first | omega | (simp <;> omega) | (have hh := (h2).size; (try simp at hh); omega) | (have hh := (h2).size; (try simp at hh); (try simp); omega) | (have hh := (h1).size; (try simp at hh); omega) | (have hh := (h1).size; (try simp at hh); (try simp); omega) | (have hh := (h).size; (try simp at hh); omega) | (have hh := (h).size; (try simp at hh); (try simp); omega)) _ | refine below_drewN ?_ _ | refine Below.drew ?_))
        have hbx3 := Hbx.out.keep hb3 hlow
        have n4 : w3.cell? ⟨w.heap.size + 2, 0, none⟩ = some v := hbx3.out.get2.1
        have ff4 : w3.frozen? ⟨w.heap.size + 2, 0, none⟩ = false := hbx3.outFree 0
        have Hbx3 := hid (hbx3.set0 v2)
        have Hown3 : Hid (Own (w.heap.size + 3) (w3.setCell ⟨w.heap.size + 2, 0, none⟩ v2) 83 3 rGlobal v2 (gs.take (k + 1))) := by
          have e : gs.take (k + 1) = gs.take k ++ [y] := by rw [List.take_succ_eq_append_getElem hkl, Hy.out]
          show Own _ _ _ _ _ _ _
          rw [e]; exact hown3.setLow rGlobal_mono (by dsimp only; omega) _
        have hz4 : w2.heap.size ≤ w3.heap.size := Nat.le_trans (by simp) hgrow.size
        subst hv2
        clear hown3 hgrow hkk hlow hb3 hbx3
        go_wp2_with fail
        go_roundw
        case rel => exact ⟨k + 1, _, by omega, by go_num, by simp [World.setCell]; omega, by have h := Hbx3.out; (try simp only [List.length_take, Nat.min_eq_left hk] at h); exact h, by have h := Hown3.out; (try simp only [List.length_take, Nat.min_eq_left hk] at h); exact h⟩
        case measure => simp [intOf]; omega
    · obtain rfl : k = gs.length := by omega
      rw [List.take_length] at Hown
      obtain ⟨WA, hWA⟩ : ∃ WA, WA = wr := ⟨_, rfl⟩
      rw [← hWA] at Hbx Hown hsz ⊢
      have q1 : WA.cell? ⟨w.heap.size, 1, none⟩ = some (.slice fa fs.length fc) := Hbx.out.par.get2.2
      clear hWA hbx hown
      go_wp2_with fail
      clear q1
      go_loopw [30] (fun i wr => ∃ (k : Nat) (v2 : Value), k ≤ fs.length ∧ i = .int .i64 k ∧ WA.heap.size ≤ wr.heap.size ∧ CPBox w wr (.slice ga gs.length gc) (.slice fa fs.length fc) v v2 ∧ Own WA.heap.size wr 35 4 rFunc v2 (fs.take k) ∧
        OwnIn (w.heap.size + 3) WA.heap.size wr 83 3 rGlobal v gs) (fun i _ => fs.length - (intOf i).toNat)
      case atStart => exact ⟨0, _, Nat.zero_le _, rfl, Nat.le_refl _, Hbx.out, Own.nil _ _ _ _ _, Hown.out.inn⟩
      case round =>
        obtain ⟨k, v2, hk, rfl, hsz2, hbx, hown, hgl⟩ := hrel
        have Hbx2 := hid hbx
        have Hown2 := hid hown
        have Hgl2 := hid hgl
        by_cases hkl : k < fs.length
        · obtain ⟨b, off, xa, xc, rfl, hcs, hin, hd1, hd2⟩ := func_at (Hf.out.later rFunc_mono hbx.below) hkl
          obtain ⟨d0, d1, d2, d3⟩ := hcs.get4
          have hb9 : b < wr.heap.size := cell_lt d0
          obtain ⟨y, hy⟩ : ∃ y, y = fs[k] := ⟨_, rfl⟩
          rw [← hy] at d0 d1 d2 d3 hin hd1 hd2
          have Hy := hid hy
          have hns : SmallF y := by rw [hy]; exact Sf.out _ (List.getElem_mem hkl)
          have Hns := hid hns
          have Hin := hid hin
          have Hd1 := hid hd1
          have Hd2 := hid hd2
          obtain ⟨W1, hW1⟩ : ∃ W1, W1 = wr.alloc (.cells #[.string y.name, .int .i64 y.params, .int .i64 y.regs, .slice xa y.blocks.length xc] 35) := ⟨_, rfl⟩
          have kc : CellsAt W1 wr.heap.size 0 [.string y.name, .int .i64 y.params, .int .i64 y.regs, .slice xa y.blocks.length xc] := by
            intro j u hj
            rw [hW1, Nat.zero_add, World.cell?_alloc_new]
            simpa using hj
          have hz1 : W1.heap.size = wr.heap.size + 1 := by rw [hW1]; simp
          have hbW1 : Below wr.heap.size wr W1 := by rw [hW1]; (repeat (first | exact Below.refl _ _ | refine Below.alloc ?_ (by first | omega | (simp <;> omega)) _ | refine Below.setCell ?_ (by first | omega | (simp <;> omega)) _ | refine below_drewN ?_ _ | refine Below.drew ?_))
          have HbW1 := hid hbW1
          obtain ⟨m0, m1, m2, m3⟩ := kc.get4
          simp only [Nat.zero_add] at m1 m2 m3
          have g3 : W1.cell? ⟨w.heap.size + 2, 1, none⟩ = some v2 := cell_later' (by have h := hbx.out.get2.2; rw [Nat.zero_add] at h; exact h) hbW1
          have f3 : W1.frozen? ⟨w.heap.size + 2, 1, none⟩ = false := (hbW1.frozen (p := ⟨w.heap.size + 2, 1, none⟩) (by dsimp only; omega)).trans (hbx.outFree 1)
          have hzw : w.heap.size + 2 < W1.heap.size := by omega
          clear hbx hown hgl hcs hy hin hd1 hd2 hns kc hbW1
          go_wp2_with fail
          clear d0 d1 d2 d3
          rw [← hW1]
          have HW1 := hid hW1
          clear hW1
          go_region_law
            (first
              | (refine step_append_Own rfl _ _ 23 rfl WA.heap.size 35 if_ _ 4 56 Tryd.underlying23 hif hfz0 hfz1 hfz2 rfl (by decide) rFunc_mono v2 (fs.take k) rfl ?_ ⟨w2.heap.size, 0, none⟩ 1 [.string y.name, .int .i64 y.params, .int .i64 y.regs, .slice xa2 y.blocks.length xc2] y rfl rfl ?_ ?_ ?_ ?_ (by decide) ?_ ?_
                 · exact Hown2.out.later rFunc_mono (by have h := HbW1.out; have h2 := Hbb.out; (repeat (first | exact Below.refl _ _ | exact (h2).mono (by first | omega | (simp <;> omega) | (have hh := (h2).size; (try simp at hh); omega) | (have hh := (h2).size; (try simp at hh); (try simp); omega) | (have hh := (h).size; (try simp at hh); omega) | (have hh := (h).size; (try simp at hh); (try simp); omega)) | refine Below.trans ?_ ((h2).mono (by first | omega | (simp <;> omega) | (have hh := (h2).size; (try simp at hh); omega) | (have hh := (h2).size; (try simp at hh); (try simp); omega) | (have hh := (h).size; (try simp at hh); omega) | (have hh := (h).size; (try simp at hh); (try simp); omega))) | exact (h).mono (by first | omega | (simp <;> omega) | (have hh := (h2).size; (try simp at hh); omega) | (have hh := (h2).size; (try simp at hh); (try simp); omega) | (have hh := (h).size; (try simp at hh); omega) | (have hh := (h).size; (try simp at hh); (try simp); omega)) | refine Below.trans ?_ ((h).mono (by first | omega | (simp <;> omega) | (have hh := (h2).size; (try simp at hh); omega) | (have hh := (h2).size; (try simp at hh); (try simp); omega) | (have hh := (h).size; (try simp at hh); omega) | (have hh := (h).size; (try simp at hh); (try simp); omega))) | refine Below.alloc ?_ (by first | omega | (simp <;> omega) | (have hh := (h2).size; (try simp at hh); omega) | (have hh := (h2).size; (try simp at hh); (try simp); omega) | (have hh := (h).size; (try simp at hh); omega) | (have hh := (h).size; (try simp at hh); (try simp); omega)) _ | refine Below.setCell ?_ (by first | omega | (simp <;> omega) | (have hh := (h2).size; (try simp at hh); omega) | (have hh := (h2).size; (try simp at hh); (try simp); omega) | (have hh := (h).size; (try simp at hh); omega) | (have hh := (h).size; (try simp at hh); (try simp); omega)) _ | refine below_drewN ?_ _ | refine Below.drew ?_)))
                 · exact new_cells w2 _ _ rfl
                 · intro u hu; simp at hu; rcases hu with rfl | rfl | rfl | rfl <;> rfl
                 · exact rFunc_mono.out _ _ _ _ _ _ (fun _ h => h) (Stays.below' (by (repeat (first | exact Below.refl _ _ | refine Below.alloc ?_ (by first | omega | (simp <;> omega)) _ | refine Below.setCell ?_ (by first | omega | (simp <;> omega)) _ | refine below_drewN ?_ _ | refine Below.drew ?_)))) ⟨_, rfl, (Hbi.out.toSl rBlock_mono (by decide)).mono rBlock_mono (fun b h => ⟨Nat.le_trans (Nat.le_trans hsz2 (Nat.le_trans (Nat.le_succ _) (Nat.le_of_eq hz1.symm))) (Nat.le_trans (Nat.le_add_right _ 2) h.1), Nat.lt_of_lt_of_le h.2 (by simp), fun e => Nat.lt_irrefl _ (Nat.lt_of_lt_of_le (Hown2.out.lt b e).2 (Nat.le_trans (Nat.le_trans (Nat.le_succ _) (Nat.le_of_eq hz1.symm)) (Nat.le_trans (Nat.le_add_right _ 2) h.1)))⟩) (Stays.refl _ _), Hd1.out, Hd2.out⟩
                 · rw [List.length_take]; omega
                 · simp; omega
                 intro v3 w3 hown3 hgrow ⟨g9, cap9, hv3⟩
                 have hkk : ∀ B, B < wr.heap.size → some B ≠ v2.ownBlock → w3.heap[B]? = wr.heap[B]? := fun B h1 h2 => (hgrow.block B (by simp; omega) h2).trans ((Below.heap_alloc w2 _ _ (by omega)).trans ((Hbb.out.block _ (by omega)).trans (HbW1.out.block _ h1)))
                 have hlow : ∀ B, w.heap.size ≤ B → B < WA.heap.size → w3.heap[B]? = wr.heap[B]? := fun B h1 h2 => hkk B (by omega) (fun e => by have := (Hown2.out.lt B e.symm).1; omega)
                 have hb3 : Below w.heap.size w w3 := by
                   refine Below.grown ?_ hgrow (by simp; omega) (fun g hg => by have := (Hown2.out.lt g hg).1; omega)
                   have h := Hbx2.out.below; have h1 := HbW1.out; have h2 := Hbb.out
                   (repeat (first | exact Below.refl _ _ | exact (h2).mono (by first | omega | (simp <;> omega) | (have hh := (h2).size; (try simp at hh); omega) | (have hh := (h2).size; (try simp at hh); (try simp); omega) | (have hh := (h1).size; (try simp at hh); omega) | (have hh := (h1).size; (try simp at hh); (try simp); omega) | (have hh := (h).size; (try simp at hh); omega) | (have hh := (h).size; (try simp at hh); (try simp); omega)) | refine Below.trans ?_ ((h2).mono (by first | omega | (simp <;> omega) | (have hh := (h2).size; (try simp at hh); omega) | (have hh := (h2).size; (try simp at hh); (try simp); omega) | (have hh := (h1).size; (try simp at hh); omega) | (have hh := (h1).size; (try simp at hh); (try simp); omega) | (have hh := (h).size; (try simp at hh); omega) | (have hh := (h).size; (try simp at hh); (try simp); omega))) | exact (h1).mono (by first | omega | (simp <;> omega) | (have hh := (h2).size; (try simp at hh); omega) | (have hh := (h2).size; (try simp at hh); (try simp); omega) | (have hh := (h1).size; (try simp at hh); omega) | (have hh := (h1).size; (try simp at hh); (try simp); omega) | (have hh := (h).size; (try simp at hh); omega) | (have hh := (h).size; (try simp at hh); (try simp); omega)) | refine Below.trans ?_ ((h1).mono (by first | omega | (simp <;> omega) | (have hh := (h2).size; (try simp at hh); omega) | (have hh := (h2).size; (try simp at hh); (try simp); omega) | (have hh := (h1).size; (try simp at hh); omega) | (have hh := (h1).size; (try simp at hh); (try simp); omega) | (have hh := (h).size; (try simp at hh); omega) | (have hh := (h).size; (try simp at hh); (try simp); omega))) | exact (h).mono (by first | omega | (simp <;> omega) | (have hh := (h2).size; (try simp at hh); omega) | (have hh := (h2).size; (try simp at hh); (try simp); omega) | (have hh := (h1).size; (try simp at hh); omega) | (have hh := (h1).size; (try simp at hh); (try simp); omega) | (have hh := (h).size; (try simp at hh); omega) | (have hh := (h).size; (try simp at hh); (try simp); omega)) | refine Below.trans ?_ ((h).mono (by first | omega | (simp <;> omega) | (have hh := (h2).size; (try simp at hh); omega) | (have hh := (h2).size; (try simp at hh); (try simp); omega) | (have hh := (h1).size; (try simp at hh); omega) | (have hh := (h1).size; (try simp at hh); (try simp); omega) | (have hh := (h).size; (try simp at hh); omega) | (have hh := (h).size; (try simp at hh); (try simp); omega))) | refine Below.alloc ?_ (by first | omega | (simp <;> omega) | (have hh := (h2).size; (try simp at hh); omega) | (have hh := (h2).size; (try simp at hh); (try simp); omega) | (have hh := (h1).size; (try simp at hh); omega) | (have hh := (h1).size; (try simp at hh); (try simp); omega) | (have hh := (h).size; (try simp at hh); omega) | (have hh := (h).size; (try simp at hh); (try simp); omega)) _ | refine Below.setCell ?_ (by first | omega | (simp <;> omega) | (have hh := (h2).size; (try simp at hh); omega) | (have hh := (h2).size; (try simp at hh); (try simp); omega) | (have hh := (h1).size; (try simp at hh); omega) | (have hh := (h1).size; (try simp at hh); (try simp); omega) | (have hh := (h).size; (try simp at hh); omega) | (have hh := (h).size; (try simp at hh); (try simp); omega)) _ | refine below_drewN ?_ _ | refine Below.drew ?_))
                 have hbx3 := Hbx2.out.keep hb3 (fun b h1 h2 => hlow b h1 (by omega))
                 have n4 : w3.cell? ⟨w.heap.size + 2, 1, none⟩ = some v2 := (by have h := hbx3.out.get2.2; rw [Nat.zero_add] at h; exact h)
                 have ff4 : w3.frozen? ⟨w.heap.size + 2, 1, none⟩ = false := hbx3.outFree 1
                 have Hbx3 := hid (hbx3.set1 v3)
                 have Hgl3 : Hid (OwnIn (w.heap.size + 3) WA.heap.size (w3.setCell ⟨w.heap.size + 2, 1, none⟩ v3) 83 3 rGlobal v gs) := Hgl2.out.kept rGlobal_mono (fun b h1 h2 => (Below.heap_setCell w3 ⟨w.heap.size + 2, 1, none⟩ v3 b (by dsimp only; omega)).trans (hlow b (by omega) h2))
                 have Hown3 : Hid (Own WA.heap.size (w3.setCell ⟨w.heap.size + 2, 1, none⟩ v3) 35 4 rFunc v3 (fs.take (k + 1))) := by
                   have e : fs.take (k + 1) = fs.take k ++ [y] := (by rw [List.take_succ_eq_append_getElem hkl, Hy.out])
                   show Own _ _ _ _ _ _ _
                   rw [e]; exact hown3.setLow rFunc_mono (by dsimp only; omega) _
                 have hz4 : w2.heap.size ≤ w3.heap.size := Nat.le_trans (by simp) hgrow.size
                 have hz5 : WA.heap.size ≤ w3.heap.size := by omega
                 subst hv3
                 clear hown3 hgrow hkk hlow hb3 hbx3)
              | (go_simp; go_at_call 83; refine (copyFunc_any (S := S) y.name y.params y.regs xa xc y.blocks W1.drew (Hin.out.later rBlock_mono HbW1.out.drew) Hns.out.blocks Hns.out.each).mono ?_; rintro e w2 ⟨bv, rfl, hbi, hb2⟩; have hbb : Below W1.heap.size W1 w2 := (Below.refl W1.heap.size W1).drew.trans hb2; have Hbb := hid hbb; have Hbi := hid hbi; have n3 := cell_later' g3 hbb; have zz0 : w.heap.size + 2 < w2.heap.size := cell_lt n3; have zz2 : W1.heap.size ≤ w2.heap.size := hbb.size; have ff3 : w2.frozen? ⟨w.heap.size + 2, 1, none⟩ = false := (hbb.frozen (p := ⟨w.heap.size + 2, 1, none⟩) hzw).trans f3; obtain ⟨xa2, xc2, rfl⟩ := hbi.shape; clear hbi hb2 hbb))
          all_goals
            go_wp2_with fail
            go_roundw
            case rel => exact ⟨k + 1, _, by omega, by go_num, by simp [World.setCell]; omega, by have h := Hbx3.out; (try simp only [List.length_take, Nat.min_eq_left hk] at h); first | exact h | exact h.drew, by have h := Hown3.out; (try simp only [List.length_take, Nat.min_eq_left hk] at h); first | exact h | exact h.later rFunc_mono (Below.refl _ _).drew, by have h := Hgl3.out; (try simp only [List.length_take, Nat.min_eq_left hk] at h); exact h⟩
            case measure => simp [intOf]; omega
        · obtain rfl : k = fs.length := by omega
          rw [List.take_length] at Hown2
          obtain ⟨go, gc2, hgv⟩ := hgl.shape
          obtain ⟨fo, fc2, hfv⟩ := Hown2.out.shape
          subst hgv hfv
          obtain ⟨b0, b1⟩ := hbx.out.get2
          obtain ⟨o0, o1⟩ := hbx.res.get2
          rw [Nat.zero_add] at b1 o1
          have y0 := hbx.resFree 0
          have y1 := hbx.resFree 1
          have hz10 : w.heap.size + 2 < wr.heap.size := cell_lt b0
          clear hbx hown hgl
          go_wp2_with fail
          have hcells := set2 (u0 := .slice go gs.length gc2) (u1 := .slice fo fs.length fc2) Hbx2.out.res
          obtain ⟨h0, h1⟩ := hcells.get2
          rw [Nat.zero_add] at h1
          obtain ⟨W5, hW5⟩ : ∃ W5, W5 = ((wr.setCell ⟨w.heap.size + 1, 0, none⟩ (.slice go gs.length gc2)).setCell ⟨w.heap.size + 1, 1, none⟩ (.slice fo fs.length fc2)) := ⟨_, rfl⟩
          rw [← hW5] at h0 h1 ⊢
          have hle : w.heap.size ≤ w.heap.size + 1 := Nat.le_succ _
          have hlt : w.heap.size + 1 < WA.heap.size := by omega
          have hbW5 : Below w.heap.size w W5 := by
            rw [hW5]
            exact (Hbx2.out.below.setCell (p := ⟨w.heap.size + 1, 0, none⟩) hle _).setCell (p := ⟨w.heap.size + 1, 1, none⟩) hle _
          have hown5 : Own WA.heap.size W5 35 4 rFunc (.slice fo fs.length fc2) fs := by
            rw [hW5]
            exact (Hown2.out.setLow rFunc_mono (p := ⟨w.heap.size + 1, 0, none⟩) hlt _).setLow rFunc_mono (p := ⟨w.heap.size + 1, 1, none⟩) hlt _
          have hgl5 : OwnIn (w.heap.size + 3) WA.heap.size W5 83 3 rGlobal (.slice go gs.length gc2) gs := by
            refine Hgl2.out.kept rGlobal_mono (fun b h1 h2 => ?_)
            rw [hW5, Below.heap_setCell _ _ _ _ (by dsimp only; omega), Below.heap_setCell _ _ _ _ (by dsimp only; omega)]
          have hsz5 : W5.heap.size = wr.heap.size := by rw [hW5]; simp [World.setCell]
          refine bodyPost_ret (v := .agg #[.slice go gs.length gc2, .slice fo fs.length fc2]) ?_ rfl ⟨_, _, WA.heap.size, rfl, hsz, by omega, hgl5, hown5.inn, hbW5⟩
          simp [results, Tryd.results50, go_sem, h0, h1]

end Go.Proofs.YtaehkcnankijfaaDoor
