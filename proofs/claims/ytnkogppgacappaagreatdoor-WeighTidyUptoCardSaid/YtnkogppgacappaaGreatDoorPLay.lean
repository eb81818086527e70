/- The contract of weigh.lay. -/
import Derived.Test.YtnkogppgacappaaGreatDoorPLay0
import Derived.Test.YtnkogppgacappaaGreatDoorPHeap4
import Derived.Test.YtnkogppgacappaaGreatDoorPGAhd
import Derived.Deep.LoopGhost
namespace Go.Proofs.YtnkogppgacappaaGreatDoor
open Go.RowKit

theorem infoBool : (Tryz.prog.info? 4).map (fun i => (i.zero, i.size, i.bytes)) = some (some (.bool false), 1, 1) := by kernel_rfl

theorem heap_new (w : World) (o : Obj) : (w.alloc o).heap[w.heap.size]? = some o := by
 show (w.heap.push o)[w.heap.size]? = _
 rw [Array.getElem?_push, if_pos rfl]
abbrev natV (k : Nat) : Value := .int .i64 (k : Int)
theorem slat_int_old {S : Nat → Prop} {w : World} {v : Value} {l : List Int} (h : SlAt S w 1 rInt v l) : SlAt (fun b => b < w.heap.size) w 1 rInt v l := by
 obtain ⟨ao, c, hv, hc, hm, h⟩ := h
 refine ⟨ao, c, hv, hc, hm, fun hne => ?_⟩
 obtain ⟨b, off, ha, hb, h⟩ := h hne
 obtain ⟨x, l', rfl⟩ : ∃ x l', l = x :: l' := by cases l with | nil => exact absurd rfl hne | cons x l' => exact ⟨x, l', rfl⟩
 obtain ⟨cs, ⟨rfl, _⟩, _, hcs⟩ := h 0 x rfl
 exact ⟨b, off, ha, cell_lt (hcs 0 _ rfl), h⟩

theorem hs_of_own {w : World} {L base n : Nat} {v cv : Value} (hrow : w.heap[L]? = some (.cells #[v, cv] 120 (0, 0))) (hown : w.ownsRow base 3 1 v n ((List.range n).map natV)) (hn : 0 < n) (hL : L < base) :
 ∃ G cap, HS w L G cap n id cv ∧ base ≤ G ∧ v = .slice (some ⟨G, 0, none⟩) n cap := by
 obtain ⟨h1, h2⟩ := hown
 rcases h2 with ⟨-, h2⟩ | ⟨g, cap, cur, rfl, hg, hh, hle, hm, hs, ht⟩
 · omega
 · refine ⟨g, cap, ⟨hrow, ⟨cur, hh, by rw [hs, Nat.mul_one], fun k hk => ?_⟩, hle, by unfold maxLen at hm; exact hm, by omega⟩, hg, rfl⟩
   have h3 : ((List.range n).map natV)[k]? = some (.int .i64 (k : Int)) := by
    rw [List.getElem?_map, List.getElem?_range hk]; rfl
   rw [← ht, Nat.mul_one, List.getElem?_take, if_pos hk] at h3
   simpa using h3

structure LaySt (w wr : World) (G cap H n : Nat) (ba : Option Addr) (bc : Nat) (cv : Value) (c : Nat → Int) (pre : List Nat) (x : Nat) (m : Nat) (a : Nat → Nat) (o ocap : Nat) : Prop where
 hs : HS wr (w.heap.size + 1) G cap m a cv
 inv : LayInv c n m a (hadB (pre ++ [x]))
 had : wr.rowIs H 4 n (fun b => .bool (hadB (pre ++ [x]) b))
 own : wr.ownsRow (H + 1) 3 1 (.slice (some ⟨o, 0, none⟩) (pre.length + 1) ocap) (pre.length + 1) ((pre ++ [x]).map natV)
 below : Below w.heap.size w wr
 box : wr.cell? ⟨w.heap.size, 3, none⟩ = some (.slice ba n bc)
 lt : ∀ b ∈ pre ++ [x], b < n
 gH : G < H
 gw : w.heap.size + 2 ≤ G
 mn : m ≤ n
theorem LaySt.two {w wr wi : World} {G cap H n : Nat} {ba : Option Addr} {bc : Nat} {cv : Value} {c : Nat → Int} {pre : List Nat} {x m : Nat} {a : Nat → Nat} {o ocap : Nat} (h : LaySt w wr G cap H n ba bc cv c pre x m a o ocap) (t : Two (w.heap.size + 1) G wr wi) :
 wi.rowIs H 4 n (fun b => .bool (hadB (pre ++ [x]) b)) ∧ wi.ownsRow (H + 1) 3 1 (.slice (some ⟨o, 0, none⟩) (pre.length + 1) ocap) (pre.length + 1) ((pre ++ [x]).map natV) ∧ Below w.heap.size w wi ∧ wi.cell? ⟨w.heap.size, 3, none⟩ = some (.slice ba n bc) ∧ H < wi.heap.size := by
 have g1 := h.gH
 have g2 := h.gw
 have hrow := h.had.of_block (t.block H (by omega) (by omega))
 refine ⟨hrow, ?_, h.below.trans (t.below (by omega) (by omega)), by rw [World.cell?_of_block (w := wr) (t.block w.heap.size (by omega) (by omega))]; exact h.box, hrow.lt⟩
 obtain ⟨q1, q2⟩ := h.own
 refine ⟨q1, ?_⟩
 rcases q2 with ⟨q2, -⟩ | ⟨g, cap', cur, hv, hg, hh, r⟩
 · cases q2
 · cases hv
   exact .inr ⟨o, _, cur, rfl, hg, by rw [t.block o (by omega) (by omega)]; exact hh, r⟩
theorem LaySt.next {w wi w1 : World} {G cap H n : Nat} {ba : Option Addr} {bc : Nat} {cv : Value} {c : Nat → Int} {pre : List Nat} {x m b : Nat} {a : Nat → Nat} {o ocap : Nat} {v' : Value}
 (hs : HS wi (w.heap.size + 1) G cap m a cv) (hinv : LayInv c n m a (fun y => hadB (pre ++ [x]) y || y == b)) (hrow : wi.rowIs H 4 n (fun b => .bool (hadB (pre ++ [x]) b)))
 (_hown : wi.ownsRow (H + 1) 3 1 (.slice (some ⟨o, 0, none⟩) (pre.length + 1) ocap) (pre.length + 1) ((pre ++ [x]).map natV)) (hbel : Below w.heap.size w wi) (hbox : wi.cell? ⟨w.heap.size, 3, none⟩ = some (.slice ba n bc))
 (hlt : ∀ b ∈ pre ++ [x], b < n) (hb : b < n) (hmn : m ≤ n) (gH : G < H) (gw : w.heap.size + 2 ≤ G) (ob : Obj)
 (hown' : w1.ownsRow (H + 1) 3 1 v' (pre.length + 1 + 1) ((pre ++ [x]).map natV ++ [natV b])) (hgrow : ((wi.setCell ⟨H, b, none⟩ (.bool true)).alloc ob).grownBy w1 (some o)) (ho : H + 1 ≤ o) (_how : o < wi.heap.size) :
 ∃ o' ocap', v' = .slice (some ⟨o', 0, none⟩) ((pre ++ [x]).length + 1) ocap' ∧ LaySt w w1 G cap H n ba bc cv c (pre ++ [x]) b m a o' ocap' := by
 obtain ⟨o', ocap', rfl, -, -⟩ := own_shape hown'
 have hsz : ∀ k, k < wi.heap.size → k ≠ o → k ≠ H → w1.heap[k]? = wi.heap[k]? := fun k hk h1 h2 => by
  rw [hgrow.block k (by simp [World.setCell]; omega) (fun e => h1 (Option.some.inj e)), Below.heap_alloc _ _ _ (by simp [World.setCell]; omega), Below.heap_setCell _ _ _ _ h2]
 have hL := hs.ltL
 have hG := hs.ltG
 have hH := hrow.lt
 have hN := cell_lt hbox
 refine ⟨o', ocap', by rw [List.length_append]; rfl, ⟨?_, ?_, ?_, ?_, ?_, ?_, ?_, gH, gw, hmn⟩⟩
 · obtain ⟨q1, q2, q3, q4, q5⟩ := hs
   exact ⟨by rw [hsz _ hL (by omega) (by omega)]; exact q1, by rw [hsz _ hG (by omega) (by omega)]; exact q2, q3, q4, q5⟩
 · exact ⟨hinv.heap, hinv.inj, hinv.lt, fun y hy hyh => hinv.all y hy (by rw [hadB_snoc] at hyh; exact hyh)⟩
 · refine (((hrow.set b (.bool true)).alloc ob).of_block (hgrow.block H (by simp [World.setCell]; omega) (fun e => by have := Option.some.inj e; omega))).congr (fun y hy => ?_)
   show (if y = b then Value.bool true else Value.bool (hadB (pre ++ [x]) y)) = Value.bool (hadB ((pre ++ [x]) ++ [b]) y)
   rw [hadB_snoc (pre ++ [x]) b y]
   by_cases hyb : y = b
   · rw [if_pos hyb, hyb, beq_self_eq_true, Bool.or_true]
   · rw [if_neg hyb, show (y == b) = false by simpa using hyb, Bool.or_false]
 · rw [List.length_append, List.map_append]; exact hown'
 · refine ((hbel.setCell (p := ⟨H, b, none⟩) (by dsimp only; omega) _).alloc (by simp [World.setCell]; omega) _).grown hgrow (by simp [World.setCell]; omega) (fun k hk => by have := Option.some.inj hk; omega)
 · have hN0 := hsz w.heap.size hN (by omega) (by omega)
   rw [World.cell?_of_block (w := wi) (a := ⟨w.heap.size, 3, none⟩) hN0]; exact hbox
 · intro y hy
   rcases List.mem_append.1 hy with h | h
   · exact hlt y h
   · rw [List.mem_singleton] at h; subst h; exact hb
theorem LaySt.drewN {w wr : World} {G cap H n : Nat} {ba : Option Addr} {bc : Nat} {cv : Value} {c : Nat → Int} {pre : List Nat} {x m : Nat} {a : Nat → Nat} {o ocap : Nat} (h : LaySt w wr G cap H n ba bc cv c pre x m a o ocap) (q : Nat) :
 LaySt w (wr.drewN q) G cap H n ba bc cv c pre x m a o ocap :=
 ⟨h.hs.drewN q, h.inv, h.had, h.own, below_drewN h.below q, h.box, h.lt, h.gH, h.gw, h.mn⟩
theorem cnt_at {S : Nat → Prop} {w : World} {ca : Option Addr} {n cc : Nat} {C : List Int} (h : SlAt S w 1 rInt (.slice ca n cc) C) {t : Nat} (ht : t < C.length) : ∃ b off, ca = some ⟨b, off, none⟩ ∧ w.cell? ⟨b, off + t, none⟩ = some (.int .i64 (cntOf C t)) := by
 obtain ⟨b, off, cs, ha, -, ⟨rfl, -⟩, -, hcs⟩ := h.get ht
 have d := hcs.get1
 rw [Nat.mul_one] at d
 refine ⟨b, off, ha, ?_⟩
 rw [d]; unfold cntOf; rw [List.getD_eq_getElem?_getD, List.getElem?_eq_getElem ht]; rfl
set_option maxRecDepth 100000 in
set_option maxHeartbeats 4000000 in
theorem lay_any {S S' : Nat → Prop} (nm : ByteArray) (p r : Int) (ba : Option Addr) (bc : Nat) (bs : List DBlock) (ca : Option Addr) (cc : Nat) (C : List Int) (w : World) (hb : SlAt S w 6 rBlock (.slice ba bs.length bc) bs) (hC : SlAt S' w 1 rInt (.slice ca C.length cc) C)
 (hn0 : 0 < bs.length) (hn : bs.length ≤ 1048576) (hCl : C.length = bs.length) (hto : ∀ (k : Nat) (x : DBlock), bs[k]? = some x → ∀ t ∈ x.fin.to, 0 ≤ t ∧ t < (bs.length : Int)) :
 Calls Tryz.prog 46 #[.agg #[.string nm, .int .i64 p, .int .i64 r, .slice ba bs.length bc], .slice ca C.length cc] w fun e w' =>
  ∃ v, e = .returned v ∧ SlAt (fun b => w.heap.size ≤ b) w' 1 rInt v ((layF bs (cntOf C)).map fun b : Nat => (b : Int)) ∧ Below w.heap.size w w' := by
 have Hb := hid hb
 have HC := hid hC
 have Hto := hid hto
 have HCl := hid hCl
 clear hb hC hto hCl
 obtain ⟨i0, hi, hz0, hz1, hz2⟩ := info_parts infoInt
 have hmk := run_make_row' (P := Tryz.prog) 66 4 (.bool false) 1 Tryz.underlying66 infoBool rfl .i64 .i64 bs.length (by omega) (by omega)
 have HW0 : Hid (∀ a : Obj, Below w.heap.size w (w.alloc a)) := fun a => by (repeat (first | exact Below.refl _ _ | refine Below.alloc ?_ (by first|omega|(simp<;>omega)) _ | refine Below.setCell ?_ (by first|omega|(simp<;>omega)) _ | refine below_drewN ?_ _ | refine Below.drew ?_))
 go_enter Tryz.func46, Tryz.ntmps46
 go_wp2_with fail
 go_loopw [19] (fun i wr => ∃ (k : Nat) (v : Value), k ≤ bs.length ∧ i = .int .i64 k ∧ wr.heap[w.heap.size + 1]? = some (.cells #[v, .slice ca C.length cc] 120 (0, 0)) ∧ wr.ownsRow (w.heap.size + 2) 3 1 v k ((List.range k).map natV) ∧ Below (w.heap.size + 1) (w.alloc (.cells #[.string nm, .int .i64 p, .int .i64 r, .slice ba bs.length bc] 38)) wr) (fun i _ => bs.length - (intOf i).toNat)
 case atStart =>
  refine ⟨0, _, Nat.zero_le _, rfl, ?_, World.ownsRow_nil _ _ _ _, (Below.refl _ _).alloc (by simp) _⟩
  have h := heap_new (w.alloc (.cells #[.string nm, .int .i64 p, .int .i64 r, .slice ba bs.length bc] 38)) (.cells #[.slice none 0 0, .slice ca C.length cc] 120)
  simpa using h
 case round =>
  obtain ⟨k, v, hk, rfl, hrow, hown, hbw⟩ := hrel
  have Hown := hid hown
  have Hbw := hid hbw
  have Hrow := hid hrow
  have r0 : wr.cell? ⟨w.heap.size + 1, 0, none⟩ = some v := by simp [World.cell?, hrow]
  have q0 : wr.frozen? ⟨w.heap.size + 1, 0, none⟩ = false := by simp [World.frozen?, hrow]
  have hz3 : w.heap.size + 1 < wr.heap.size := cell_lt r0
  clear hrow hown hbw
  by_cases hlt : k < bs.length
  · go_wp2_with (at_builtin; refine wpList_append_own_at _ rfl _ _ 33 rfl (w.heap.size + 2) 3 i0 (.int .i64 0) 1 8 Tryz.underlying33 hi hz0 hz1 hz2 rfl (by decide) v _ _ rfl (Hown.out.alloc _) ⟨wr.heap.size, 0, none⟩ 1 1 [.int .i64 k] rfl rfl (cell_one_new _ _ _) ?_ ?_ ?_ ?_ ?_)
    · intro u hu; simp at hu; subst hu; rfl
    · (try simp); unfold maxLen; omega
    · (try simp); omega
    · (try simp); omega
    · intro v' w1 hown hgrow hnil hblk
      have hown2 : w1.ownsRow (w.heap.size + 2) 3 1 v' (k + 1) ((List.range (k + 1)).map natV) := by
       rw [List.range_succ, List.map_append]; exact hown
      obtain ⟨g, cap, rfl, -, hgl⟩ := own_shape hown2
      have Hown2 := hid hown2
      have hne : some (w.heap.size + 1) ≠ v.ownBlock := fun e => by have := (Hown.out.lt _ e.symm).1; omega
      have hrow1 : w1.heap[w.heap.size + 1]? = some (.cells #[v, .slice ca C.length cc] 120 (0, 0)) := by
       rw [hgrow.block _ (by simp; omega) hne, Below.heap_alloc _ _ _ hz3]; exact Hrow.out
      have r1 : w1.cell? ⟨w.heap.size + 1, 0, none⟩ = some v := by simp [World.cell?, hrow1]
      have q1 : w1.frozen? ⟨w.heap.size + 1, 0, none⟩ = false := by simp [World.frozen?, hrow1]
      have Hrow1 := hid hrow1
      have Hbw1 : Hid (Below (w.heap.size + 1) (w.alloc (.cells #[.string nm, .int .i64 p, .int .i64 r, .slice ba bs.length bc] 38)) w1) :=
       ((Hbw.out.alloc (by omega) _).grown hgrow (by simp; omega) (fun q hq => by have := (Hown.out.lt q hq).1; omega))
      clear hown hgrow hnil hblk hown2 hne hrow1 hgl r0 q0
      go_wp2_with fail
      go_roundw
      case rel =>
       refine ⟨k + 1, _, by omega, by go_num, ?_, ownsRow_setCell_below Hown2.out (by simp) _, Hbw1.out.setCell (by simp) _⟩
       simp [World.setCell, Array.getElem?_modify, Hrow1.out]
      case measure => simp [intOf]; omega
  · obtain rfl : k = bs.length := by omega
    obtain ⟨G, cap, hhs, hG, rfl⟩ := hs_of_own Hrow.out Hown.out hn0 (by omega)
    have Hhs := hid hhs
    have hwr : Below w.heap.size w wr := (HW0.out _).trans (Hbw.out.mono (by omega))
    have Hwr := hid hwr
    have HCr : Hid (SlAt (fun b => b < w.heap.size) wr 1 rInt (.slice ca C.length cc) C) := (slat_int_old HC.out).mono rInt_mono (fun _ h => h) (Stays.below hwr)
    have HS1 : Hid (∀ b, b < w.heap.size → b ≠ w.heap.size + 1 ∧ b ≠ G) := fun b hb => ⟨by omega, by omega⟩
    have Hal : Hid (∀ k, k < bs.length → id k < C.length) := fun k hk => by rw [HCl.out]; exact hk
    clear hhs hwr r0 q0
    have Bx : Hid (wr.cell? ⟨w.heap.size, 3, none⟩ = some (.slice ba bs.length bc)) := by
     show _ = _
     rw [Hbw.out.cell (p := ⟨w.heap.size, 3, none⟩) (by simp)]; simp
    go_wp2_with fail
    refine (hinit_any _ Hhs.out HCr.out HS1.out hn Hal.out).mono ?_
    rintro e w2 ⟨rfl, hs2, ht2⟩
    have Hs2 := hid hs2
    have Ht2 := hid ht2
    have hb2 : Below (w.heap.size + 1) wr w2 := ht2.below (Nat.le_refl _) (by omega)
    have e3 : w2.cell? ⟨w.heap.size, 3, none⟩ = some (.slice ba bs.length bc) := by rw [hb2.cell (p := ⟨w.heap.size, 3, none⟩) (by simp)]; exact Bx.out
    have hz5 : w.heap.size < w2.heap.size := cell_lt e3
    have hGl := Hs2.out.ltG
    have hLl := Hs2.out.ltL
    have Hb2 := hid hb2
    clear hs2 ht2 hb2
    have hm0 : (madeCells #[.bool false] bs.length)[0]? = some (.bool false) := by
     have h := (World.rowIs_made w2 (.bool false) bs.length 4).cell hn0
     simpa using h
    go_wp2_with fail
    have hst : ∃ (m : Nat) (a : Nat → Nat), LaySt w ((w2.alloc (.cells ((madeCells #[.bool false] bs.length).setIfInBounds 0 (.bool true)) 4)).alloc (.cells #[.int .i64 0] 3)) G cap w2.heap.size bs.length ba bc (.slice ca C.length cc) (cntOf C) [] 0 m a (w2.heap.size + 1) 1 := by
     have hal := initF_alike (cntOf C) bs.length (bs.length / 2) id
     refine ⟨bs.length, initF (cntOf C) bs.length (bs.length / 2) id, ?_⟩
     refine ⟨?_, ⟨initF_heap _ _ _ _ (heapFrom_half _ _ _), hal.inj (fun i j _ _ h => h), fun k hk => ?_, fun b hb _ => (hal.img b).1 ⟨b, hb, rfl⟩⟩, ?_, ?_, ?_, ?_, ?_, hGl, hG, Nat.le_refl _⟩
     · obtain ⟨q1, q2, q3, q4, q5⟩ := Hs2.out
       exact ⟨by rw [Below.heap_alloc _ _ _ (by simp; omega), Below.heap_alloc _ _ _ hLl]; exact q1, by rw [Below.heap_alloc _ _ _ (by simp; omega), Below.heap_alloc _ _ _ hGl]; exact q2, q3, q4, q5⟩
     · obtain ⟨k', hk', he⟩ := (hal.img _).2 ⟨k, hk, rfl⟩
       rw [← he]; exact hk'
     · have h1 := (World.rowIs_made w2 (.bool false) bs.length 4).set 0 (.bool true)
       have h2 : (w2.alloc (.cells (madeCells #[.bool false] bs.length) 4)).setCell ⟨w2.heap.size, 0, none⟩ (.bool true) = w2.alloc (.cells ((madeCells #[.bool false] bs.length).setIfInBounds 0 (.bool true)) 4) := by
        rw [World.setCell_alloc_at _ _ _ _ _ rfl]
       rw [h2] at h1
       refine (h1.alloc _).congr (fun b hb => ?_)
       by_cases hb0 : b = 0
       · subst hb0; simp [hadB]
       · simp [hadB, hb0]
     · have h := World.ownsRow_lit (base := w2.heap.size + 1) (e := 3) (size := 1) (w2.alloc (.cells ((madeCells #[.bool false] bs.length).setIfInBounds 0 (.bool true)) 4)) #[.int .i64 0] 1 (by simp) (by decide) rfl
       simpa [natV] using h
     · exact ((Hwr.out.trans (Hb2.out.mono (by omega))).alloc (by omega) _).alloc (by simp; omega) _
     · rw [World.cell?_alloc_past _ _ _ (by simp; omega), World.cell?_alloc_past _ _ _ hz5]; exact e3
     · intro b hb; simp at hb; omega
    obtain ⟨W3, hW3⟩ : ∃ W3, W3 = (w2.alloc (.cells ((madeCells #[.bool false] bs.length).setIfInBounds 0 (.bool true)) 4)).alloc (.cells #[.int .i64 0] 3) := ⟨_, rfl⟩
    rw [← hW3] at hst ⊢
    have Hst := hid hst
    generalize hH : w2.heap.size = H at *
    clear hW3 e3 hz5 hGl hLl hm0 hH
    go_loopg [8] (left [0] bs.length) (fun g v8 wr => ∃ (pre : List Nat) (x m : Nat) (a : Nat → Nat) (o ocap f : Nat), v8 = .slice (some ⟨o, 0, none⟩) (pre.length + 1) ocap ∧ LaySt w wr G cap H bs.length ba bc (.slice ca C.length cc) (cntOf C) pre x m a o ocap ∧
     pre.length + 1 + left (pre ++ [x]) bs.length ≤ bs.length ∧ g = left (pre ++ [x]) bs.length ∧ left (pre ++ [x]) bs.length ≤ f ∧ layRun bs (cntOf C) f (pre ++ [x]) = layF bs (cntOf C))
    case atStart =>
     obtain ⟨m, a, hst⟩ := Hst.out
     exact ⟨[], 0, m, a, H + 1, 1, bs.length, rfl, hst, by have h1 := left_lt (out := []) (n := bs.length) (b := 0) hn0 rfl; have h2 := cnt_bound (fun b => !hadB [] b) bs.length; unfold left at *; simp only [List.nil_append, List.length_nil] at *; omega, rfl, cnt_bound _ _, rfl⟩
    case round =>
     obtain ⟨pre, x, m, a, o, ocap, f, rfl, hs, hlen, hg, hf, hrun⟩ := hrel
     have Hlen := hid hlen
     have Hs := hid hs
     have Hg := hid hg
     have Hf := hid hf
     have Hrun := hid hrun
     have hxn : x < bs.length := hs.lt x (by simp)
     have e3 := hs.box
     have o1 : wr.cell? ⟨o, pre.length, none⟩ = some (.int .i64 x) := by
      rw [hs.own.cellAt pre.length (by omega)]; simp
     obtain ⟨b, off, cs, rfl, -, hx, -, hcs⟩ := Hb.out.get hxn
     obtain ⟨pa, pc, la, lc, ta, tc, rfl, -, -, hts, -, -, htm, -, -⟩ := hx.opens
     obtain ⟨d0, d1, d2, d3, d4, d5⟩ := (hcs.later hs.below).get6
     have Hts := hid hts
     have hz6 : w.heap.size < wr.heap.size := cell_lt e3
     have hol : pre.length + 1 ≤ 9223372036854775807 := by omega
     clear hlen hs hg hf hrun hcs hx hts d0 d1 d2 d3 d4
     go_wp2_with fail
     go_quiet (fail)
     go_wp2_with fail
     obtain ⟨T, hT⟩ : ∃ T, T = targets bs x := ⟨_, rfl⟩
     have hTe : targets bs x = bs[x].fin.to.map Int.toNat := by unfold targets; rw [List.getElem?_eq_getElem hxn]
     have HT := hid (hT.trans hTe)
     have HT0 := hid hT
     have HTlt : Hid (∀ b ∈ T, b < bs.length) := fun b hb => by
      rw [HT.out] at hb
      obtain ⟨z, hz, rfl⟩ := List.mem_map.1 hb
      have := Hto.out x _ (List.getElem?_eq_getElem hxn) z hz
      omega
     clear hT hTe o1 d5
     go_loopw [9, 56] (fun v9 i wi => ∃ (j : Nat) (q : Nat), j ≤ bs[x].fin.to.length ∧ i = .int .i64 j ∧ v9 = .int .i64 (optInt (pick (cntOf C) (hadB (pre ++ [x])) (T.take j))) ∧ wr.drewN q = wi) (fun _ i _ => bs[x].fin.to.length - (intOf i).toNat)
     case atStart => exact ⟨0, _, Nat.zero_le _, rfl, rfl, rfl⟩
     case round =>
      obtain ⟨j, q, hj, rfl, rfl, rfl⟩ := hrel
      have hs := Hs.out
      by_cases hjl : j < bs[x].fin.to.length
      · obtain ⟨b2, off2, cs, rfl, -, ⟨rfl, -⟩, -, hcs⟩ := (Hts.out.later rInt_mono hs.below).get hjl
        have t0 := hcs.get1
        rw [Nat.mul_one] at t0
        have htk := Hto.out x _ (List.getElem?_eq_getElem hxn) bs[x].fin.to[j] (List.getElem_mem hjl)
        obtain ⟨t, ht⟩ := Int.eq_ofNat_of_zero_le htk.1
        have htn : t < bs.length := by omega
        rw [ht] at t0
        have htT : Hid (T[j]? = some t) := by show _ = _; rw [HT.out, List.getElem?_map, List.getElem?_eq_getElem hjl, ht]; rfl
        have Ht := hid ht
        have hstep : Hid (pick (cntOf C) (hadB (pre ++ [x])) (T.take (j + 1)) = pickStep (cntOf C) (hadB (pre ++ [x])) (pick (cntOf C) (hadB (pre ++ [x])) (T.take j)) t) := by
         obtain ⟨h1, h2⟩ := List.getElem?_eq_some_iff.1 htT.out
         show _ = _
         rw [pick_take _ _ _ _ h1, h2]
        have u0 : wr.cell? ⟨H, t, none⟩ = some (.bool (hadB (pre ++ [x]) t)) := hs.had.cell htn
        have HCw := hid (HC.out.later rInt_mono hs.below)
        obtain ⟨cb, coff, rfl, y0⟩ := cnt_at HCw.out (t := t) (by rw [HCl.out]; exact htn)
        obtain ⟨out, hout⟩ : ∃ out, out = pre ++ [x] := ⟨_, rfl⟩
        rw [← hout] at u0 hstep ⊢
        have hbestlt : Hid (∀ b, pick (cntOf C) (hadB out) (T.take j) = some b → b < bs.length) := fun b hb => HTlt.out b (List.mem_of_mem_take (pick_mem _ _ _ b hb).1)
        generalize hbe : pick (cntOf C) (hadB out) (T.take j) = best at *
        have Hbe := hid hbe
        have Hout := hid hout
        clear hs hcs htk ht hout hbe
        by_cases hh : hadB out t = true
        · have Hn : Hid (pickStep (cntOf C) (hadB out) best t = best) := by
           show _ = _
           unfold pickStep; cases best <;> simp [hh]
          cases best with
          | none =>
            have hq : (decide ((-1 : Int) < 0)) = true := by decide
            simp only [optInt]
            go_wp2_with fail
            go_quiet (fail)
            go_wp2_with fail
            go_roundw
            case rel => exact ⟨j + 1, _, by omega, by go_num, by rw [hstep.out, Hn.out], rfl⟩
            case measure => simp [intOf]; omega
          | some b =>
            have hq : (decide ((b : Int) < 0)) = false := decide_eq_false (by omega)
            simp only [optInt]
            go_wp2_with fail
            go_quiet (fail)
            go_wp2_with fail
            go_roundw
            case rel => exact ⟨j + 1, _, by omega, by go_num, by rw [hstep.out, Hn.out], rfl⟩
            case measure => simp [intOf]; omega
        · have hh0 : hadB out t = false := by simpa using hh
          clear hh
          cases best with
          | none =>
            have Hn : Hid (pickStep (cntOf C) (hadB out) none t = some t) := by
             show _ = _
             unfold pickStep; simp [hh0]
            have hq : (decide ((-1 : Int) < 0)) = true := by decide
            simp only [optInt]
            go_wp2_with fail
            go_quiet (fail)
            go_wp2_with fail
            go_roundw
            case rel => exact ⟨j + 1, _, by omega, by go_num, by rw [hstep.out, Hn.out] <;> rfl, rfl⟩
            case measure => simp [intOf]; omega
          | some b3 =>
            obtain ⟨cb', coff', hcab, z0⟩ := cnt_at HCw.out (t := b3) (by rw [HCl.out]; exact hbestlt.out b3 rfl)
            cases hcab
            have hbl3 := hbestlt.out b3 rfl
            have htC : t < C.length := by rw [HCl.out]; exact htn
            have hbC : b3 < C.length := by rw [HCl.out]; exact hbl3
            have htC2 : (t : Int) < (C.length : Int) := by omega
            have hbC2 : (b3 : Int) < (C.length : Int) := by omega
            have hq : (decide ((b3 : Int) < 0)) = false := decide_eq_false (by omega)
            by_cases hcmp : cntOf C b3 < cntOf C t
            · have Hn : Hid (pickStep (cntOf C) (hadB out) (some b3) t = some t) := by
               show _ = _
               unfold pickStep; simp [hh0, hcmp]
              have hq2 : decide (cntOf C b3 < cntOf C t) = true := decide_eq_true hcmp
              simp only [optInt]
              go_wp2_with fail
              go_quiet (fail)
              go_wp2_with fail
              go_roundw
              case rel => exact ⟨j + 1, _, by omega, by go_num, by rw [hstep.out, Hn.out] <;> rfl, rfl⟩
              case measure => simp [intOf]; omega
            · have Hn : Hid (pickStep (cntOf C) (hadB out) (some b3) t = some b3) := by
               show _ = _
               unfold pickStep; simp [hcmp]
              have hq2 : decide (cntOf C b3 < cntOf C t) = false := decide_eq_false hcmp
              simp only [optInt]
              go_wp2_with fail
              go_quiet (fail)
              go_wp2_with fail
              go_roundw
              case rel => exact ⟨j + 1, _, by omega, by go_num, by rw [hstep.out, Hn.out] <;> rfl, rfl⟩
              case measure => simp [intOf]; omega
      · have hTl : T.take j = T := List.take_of_length_le (by rw [HT.out, List.length_map]; omega)
        rw [hTl]
        have hb0lt : Hid (∀ b, pick (cntOf C) (hadB (pre ++ [x])) T = some b → b < bs.length ∧ hadB (pre ++ [x]) b = false) := fun b hb => ⟨HTlt.out b (pick_mem _ _ _ b hb).1, (pick_mem _ _ _ b hb).2⟩
        obtain ⟨bt, hbt⟩ : ∃ bt, bt = pick (cntOf C) (hadB (pre ++ [x])) T := ⟨_, rfl⟩
        rw [← hbt] at hb0lt ⊢
        have Hbt := hid hbt
        clear hTl hs hbt
        go_wp2_with fail
        obtain ⟨out, hout⟩ : ∃ out, out = pre ++ [x] := ⟨_, rfl⟩
        have Hout := hid hout
        have hnext1 : Hid (∀ b, bt = some b → layNext bs (cntOf C) out = some b) := fun b hb => by
         unfold layNext
         rw [hout, List.getLastD_eq_getLast?, List.getLast?_concat, Option.getD_some, ← HT0.out, ← Hbt.out, hb]
        have hnext2 : Hid (bt = none → layNext bs (cntOf C) out = pick (cntOf C) (hadB out) (List.range bs.length)) := fun hb => by
         unfold layNext
         rw [hout, List.getLastD_eq_getLast?, List.getLast?_concat, Option.getD_some, ← HT0.out, ← Hbt.out, hb]
        have Hs4 : Hid (LaySt w (wr.drewN q) G cap H bs.length (some ⟨b, off, none⟩) bc (.slice ca C.length cc) (cntOf C) pre x m a o ocap) := Hs.out.drewN q
        obtain ⟨wd, hwd⟩ : ∃ wd, wd = wr.drewN q := ⟨_, rfl⟩
        rw [← hwd] at Hs4 ⊢
        have hml := method_len
        clear hwd hout
        go_loopg [9] m (fun g v9 wi => ∃ (bo : Option Nat) (a' : Nat → Nat), v9 = .int .i64 (optInt bo) ∧ g ≤ bs.length ∧ HS wi (w.heap.size + 1) G cap g a' (.slice ca C.length cc) ∧ Two (w.heap.size + 1) G wd wi ∧
         (bo = none → bt = none ∧ LayInv (cntOf C) bs.length g a' (hadB out)) ∧ (∀ b, bo = some b → layNext bs (cntOf C) out = some b ∧ b < bs.length ∧ hadB out b = false ∧ LayInv (cntOf C) bs.length g a' (fun y => hadB out y || y == b)))
        case atStart =>
         refine ⟨bt, a, rfl, Hs4.out.mn, Hs4.out.hs, Two.refl _ _ _, fun h => ⟨h, by rw [Hout.out]; exact Hs4.out.inv⟩, fun b hb => ⟨hnext1.out b hb, (hb0lt.out b hb).1, by rw [Hout.out]; exact (hb0lt.out b hb).2, ?_⟩⟩
         have h := Hs4.out.inv
         rw [← Hout.out] at h
         exact ⟨h.heap, h.inj, h.lt, fun y hy hyh => h.all y hy (by simp only [Bool.or_eq_false_iff] at hyh; exact hyh.1)⟩
        case round =>
         obtain ⟨bo, a', rfl, hgn, hhs, htw, hnone, hsome⟩ := hrel
         have Hgn := hid hgn
         have Hhs := hid hhs
         have Htw := hid htw
         have Hnone := hid hnone
         have Hsome := hid hsome
         clear hgn hhs htw hnone hsome
         cases bo with
         | none =>
           simp only [optInt]
           cases gk with
           | zero =>
             have hq : (decide ((-1 : Int) < 0)) = true := by decide
             have Hr : Hid (layF bs (cntOf C) = out) := by
              have h1 := Hnone.out rfl
              have h2 : pick (cntOf C) (hadB out) (List.range bs.length) = none := (pick_none _ _ _).2 (fun y hy => by
               by_cases hyh : hadB out y = true
               · exact hyh
               · obtain ⟨k, hk, _⟩ := h1.2.all y (by simpa using hy) (by simpa using hyh)
                 omega)
              have h3 := Hrun.out
              rw [← Hout.out, layRun_none ((hnext2.out h1.1).trans h2)] at h3
              exact h3.symm
             obtain ⟨p1, p2, p3, p4, p5⟩ := Hs4.out.two Htw.out
             have P2 := hid p2
             have P3 := hid p3
             clear p1 p2 p3 p4
             go_wp2_with (go_at_call 79; ((with_reducible refine (hlen_any _ Hhs.out).mono ?_); rintro e w' ⟨rfl, rfl⟩))
             go_ret
             refine ⟨_, rfl, ?_, P3.out⟩
             rw [Hr.out, Hout.out]
             have h : wr.ownsRow (H + 1) 3 1 (.slice (some ⟨o, 0, none⟩) (pre.length + 1) ocap) ((pre ++ [x]).map fun b : Nat => (b : Int)).length (((pre ++ [x]).map fun b : Nat => (b : Int)).map (Value.int .i64)) := by
              rw [show ((pre ++ [x]).map fun b : Nat => (b : Int)).length = pre.length + 1 by simp, show ((pre ++ [x]).map fun b : Nat => (b : Int)).map (Value.int .i64) = (pre ++ [x]).map natV by rw [List.map_map]; rfl]; exact P2.out
             refine (own_ints h (fun y hy => ?_)).mono rInt_mono (fun b hb => by have := Hs4.out.gH; have := Hs4.out.gw; omega) (Stays.refl _ _)
             obtain ⟨z, hz, rfl⟩ := List.mem_map.1 hy
             have := Hs4.out.lt z hz
             unfold I64; omega
           | succ m' =>
             have hq : (decide ((-1 : Int) < 0)) = true := by decide
             have h1 := Hnone.out rfl
             have hpop := h1.2.pop (Nat.succ_pos m')
             have Hpop := hid hpop
             have H1 := hid h1
             have Hm1 : Hid (m' + 1 ≤ 1048576) := by have := Hgn.out; show _ ≤ _; omega
             have Ha1 : Hid (∀ k, k < m' + 1 → a' k < C.length) := fun k hk => by rw [HCl.out]; exact H1.out.2.lt k hk
             have Hx0 : Hid (a' 0 < bs.length) := H1.out.2.lt 0 (Nat.succ_pos m')
             obtain ⟨p1, p2, p3, p4, p5⟩ := Hs4.out.two Htw.out
             have HCq := hid ((slat_int_old HC.out).mono rInt_mono (fun _ h => h) (Stays.below p3))
             have P1 := hid p1
             clear p1 p2 p3 p4 h1 hpop
             have hta : ∀ (n : Int) (w : World), (Instr.typeAssert (.iface 3 (.int .i64 n)) 20 3 false).run Tryz.prog w = .ok (.int .i64 n) w := fun _ _ => by kernel_rfl
             by_cases hb9 : hadB (pre ++ [x]) (a' 0) = true
             · go_wp2_with (first | (go_at_call 79; ((with_reducible refine (hlen_any _ Hhs.out).mono ?_); rintro e w' ⟨rfl, rfl⟩)) | (go_at_call 80; go_must ((with_reducible refine (hpop_any _ Hhs.out HCq.out HS1.out (Nat.succ_pos m') Hm1.out Ha1.out).mono ?_); rintro e w5 ⟨rfl, hs5, ht5⟩; have hd5 : w5.cell? ⟨H, a' 0, none⟩ = some (.bool (hadB (pre ++ [x]) (a' 0))) := (Hs4.out.two (Htw.out.trans ht5)).1.cell Hx0.out; have Hs5 := hid hs5; have Ht5 := hid ht5; clear hs5 ht5)))
               go_roundg m'
               case measure => omega
               case rel =>
                have hh9 : hadB out (a' 0) = true := by rw [Hout.out]; exact hb9
                exact ⟨none, _, rfl, by have := Hgn.out; omega, Hs5.out, Htw.out.trans Ht5.out, fun _ => ⟨H1.out.1, Hpop.out.1 hh9⟩, fun b hb => by cases hb⟩
             · have hb8 : hadB (pre ++ [x]) (a' 0) = false := by simpa using hb9
               clear hb9
               go_wp2_with (first | (go_at_call 79; ((with_reducible refine (hlen_any _ Hhs.out).mono ?_); rintro e w' ⟨rfl, rfl⟩)) | (go_at_call 80; go_must ((with_reducible refine (hpop_any _ Hhs.out HCq.out HS1.out (Nat.succ_pos m') Hm1.out Ha1.out).mono ?_); rintro e w5 ⟨rfl, hs5, ht5⟩; have hd5 : w5.cell? ⟨H, a' 0, none⟩ = some (.bool (hadB (pre ++ [x]) (a' 0))) := (Hs4.out.two (Htw.out.trans ht5)).1.cell Hx0.out; have Hs5 := hid hs5; have Ht5 := hid ht5; clear hs5 ht5)))
               go_roundg m'
               case measure => omega
               case rel =>
                have hh9 : hadB out (a' 0) = false := by rw [Hout.out]; exact hb8
                refine ⟨some (a' 0), _, rfl, by have := Hgn.out; omega, Hs5.out, Htw.out.trans Ht5.out, fun h => (by cases h), fun b hb => ?_⟩
                cases hb
                exact ⟨(hnext2.out H1.out.1).trans (Hpop.out.2 hh9).1, Hx0.out, hh9, (Hpop.out.2 hh9).2⟩
         | some bb =>
           have hq : (decide ((bb : Int) < 0)) = false := decide_eq_false (by omega)
           obtain ⟨p1, p2, p3, p4, p5⟩ := Hs4.out.two Htw.out
           obtain ⟨k1, k2, k3, k4⟩ := Hsome.out bb rfl
           have u1 : wr.cell? ⟨H, bb, none⟩ = some (.bool (hadB (pre ++ [x]) bb)) := p1.cell k2
           have u2 := p1.frozen bb
           have P1 := hid p1
           have P2 := hid p2
           have P3 := hid p3
           have P4 := hid p4
           have K1 := hid k1
           have K3 := hid k3
           have K4 := hid k4
           have Hol : Hid (pre.length + 1 ≤ 1048576) := by have := Hlen.out; show _ ≤ _; omega
           clear p1 p2 p3 p4 k1 k3 k4
           simp only [optInt]
           go_wp2_with (at_builtin; refine wpList_append_own _ rfl _ _ 33 rfl (H + 1) 3 i0 (.int .i64 0) 1 8 Tryz.underlying33 hi hz0 hz1 hz2 rfl (by decide) _ _ _ rfl (((ownsRow_setCell_below P2.out (Nat.lt_succ_self H) _)).alloc _) ⟨wr.heap.size, 0, none⟩ 1 1 [natV bb] rfl rfl ?_ ?_ ?_ ?_ ?_ ?_)
           · have h := cell_one_new (wr.setCell ⟨H, bb, none⟩ (.bool true)) (natV bb) 3
             rw [show (wr.setCell ⟨H, bb, none⟩ (.bool true)).heap.size = wr.heap.size by simp [World.setCell]] at h
             exact h
           · intro u hu; simp at hu; subst hu; rfl
           · have := Hol.out; (try simp); unfold maxLen; omega
           · have := Hol.out; (try simp); omega
           · (try simp [World.setCell]); omega
           · intro v' w1 hown hgrow hnil
             obtain ⟨ho1, ho2⟩ := P2.out.lt o rfl
             obtain ⟨o', ocap', rfl, hst2⟩ := LaySt.next Hhs.out (by rw [← Hout.out]; exact K4.out) P1.out P2.out P3.out P4.out Hs4.out.lt k2 Hgn.out Hs4.out.gH Hs4.out.gw _ (by simpa using hown) hgrow ho1 ho2
             have Hst2 := hid hst2
             have hll : left (pre ++ [x] ++ [bb]) bs.length < left (pre ++ [x]) bs.length := left_lt k2 (by rw [← Hout.out]; exact K3.out)
             have Hll := hid hll
             obtain ⟨f', hf'⟩ : ∃ f', f = f' + 1 := ⟨f - 1, by have := Hf.out; omega⟩
             have Hf' := hid hf'
             clear hown hgrow hnil hst2 hll hf'
             go_wp2_with fail
             go_roundg (left (pre ++ [x] ++ [bb]) bs.length)
             case measure => have h1 := Hll.out; have h2 := Hg.out; omega
             case rel =>
              refine ⟨pre ++ [x], bb, gk, a', o', ocap', f', rfl, Hst2.out, ?_, rfl, ?_, ?_⟩
              · have h1 := Hll.out; have h2 := Hlen.out; rw [List.length_append]; simp only [List.length_cons, List.length_nil]; omega
              · have h1 := Hll.out; have h2 := Hf.out; have h3 := Hf'.out; omega
              · have h1 := Hrun.out
                have h2 := K1.out
                rw [Hout.out] at h2
                rw [Hf'.out, layRun_some h2] at h1
                exact h1

end Go.Proofs.YtnkogppgacappaaGreatDoor
