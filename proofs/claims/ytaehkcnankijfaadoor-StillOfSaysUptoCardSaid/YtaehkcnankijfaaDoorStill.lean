/- still.still: which words never change. -/
import Derived.Test.YtaehkcnankijfaaDoorMarks
import Derived.Test.YtaehkcnankijfaaDoorRound
namespace Go.Proofs.YtaehkcnankijfaaDoor
open Go.RowKit Go.Shelf Go.Sort

attribute [local go_sem] Oper.semAt_some

theorem keepsOthers_below {W W' : World} (h : Below W.heap.size W W') : KeepsOthers W W' := ⟨h.size, fun k o hk _ => by rw [h.block k (Array.getElem?_eq_some_iff.1 hk).1]; exact hk⟩
theorem keepE_below {n₀ : Nat} {X : Nat → Prop} {W W' : World} (h : Below W.heap.size W W') (hn : n₀ ≤ W.heap.size) : KeepE n₀ X W W' := ⟨h.size, fun b h1 _ => h.block b (by omega)⟩
theorem keepE_set {n₀ : Nat} {X : Nat → Prop} (W : World) {b o : Nat} (v : Value) (hX : X b) : KeepE n₀ X W (W.setCell ⟨b, o, none⟩ v) :=
  ⟨by simp [World.setCell], fun b' _ h => Below.heap_setCell _ _ _ _ (fun e => h (by rw [e]; exact hX))⟩
theorem Marks.below {B C : Nat} {ds : List Deferred} {W W' : World} (h : Marks B C ds W) (hb : Below W.heap.size W W') : Marks B C ds W' :=
  h.keep (Nat.le_refl _) (fun b _ _ h3 => by rw [hb.block b (Array.getElem?_eq_some_iff.1 h3).1]; exact h3)
theorem Marks.set {B C : Nat} {ds : List Deferred} {W : World} (h : Marks B C ds W) {b o : Nat} (v : Value) (hb : b < B) : Marks B C ds (W.setCell ⟨b, o, none⟩ v) :=
  h.keep (Nat.le_refl _) (fun b' k1 _ h3 => by rw [Below.heap_setCell _ _ _ _ (by dsimp only; omega)]; exact h3)
theorem al_new {w : World} {cs : Array Value} {T : TypeId} {b j : Nat} {v : Value} (hb : b = w.heap.size) (h : cs[j]? = some v) : (w.alloc (.cells cs T)).cell? ⟨b, j, none⟩ = some v := by
  subst hb; rw [World.cell?_alloc_new]; exact h
theorem al_old {w : World} {o : Obj} {b j : Nat} {v : Value} (h : w.cell? ⟨b, j, none⟩ = some v) : (w.alloc o).cell? ⟨b, j, none⟩ = some v :=
  cell_later' h (Below.alloc (Below.refl _ _) (Nat.le_refl _) _)

set_option maxRecDepth 100000 in
set_option maxHeartbeats 4000000 in
theorem still_any {S S' : Nat → Prop} (ga fa : Option Addr) (gn gc fc : Nat) (fs : List DFunc) (ma : Option Addr) (mc n : Nat) (mem : List Int) (w : World) (hf : SlAt S w 4 rFunc (.slice fa fs.length fc) fs) (hS : ∀ b, S b → b < w.heap.size)
    (hm : SlAt S' w 1 rInt (.slice ma n mc) mem) (hml : mem.length = n) (hn : n ≤ 1048576) (hfn : fs.length ≤ 1048576) (hfb : ∀ f ∈ fs, f.blocks.length ≤ 1048576 ∧ ∀ x ∈ f.blocks, x.list.length ≤ 1048576) :
    Calls Tryd.prog 46 #[.agg #[.slice ga gn gc, .slice fa fs.length fc], .slice ma n mc] w fun e w' =>
      ∃ a c, e = .returned (.slice a n c) ∧ SlAt (fun b => w.heap.size ≤ b) w' 1 rBool (.slice a n c) (stillF mem (insU fs)) ∧ Below w.heap.size w w' := by
  have Hf := hid hf
  have HS := hid hS
  have Hm := hid hm
  have Hml := hid hml
  have Hfb := hid hfb
  clear hf hS hm hml hfb
  refine (callsIn_wide (n := 6)).1 ?_
  refine callsIn_of_wp_marks Tryd.func46 rfl trivial ?_ rfl
  simp only [Tryd.ntmps46, List.size_toArray, List.length_cons, List.length_nil, Nat.reduceAdd, Nat.reduceSub, Array.replicate_succ, Array.replicate_zero, List.push_toArray, List.append_toArray, List.nil_append, List.cons_append]
  gi_wp2
  refine ⟨trivial, ?_⟩
  obtain ⟨W, hW⟩ : ∃ W, W = ((((w.alloc (.cells #[.slice ga gn gc, .slice fa fs.length fc] 25)).alloc (.cells #[.slice ma n mc] 26)).alloc (.cells #[.slice none 0 0] 39)).alloc (.cells #[.bool true] 4)) := ⟨_, rfl⟩
  have hbW : Below w.heap.size w W := by rw [hW]; (repeat (first | exact Below.refl _ _ | refine Below.alloc ?_ (by first | omega | (simp <;> omega)) _ | refine Below.setCell ?_ (by first | omega | (simp <;> omega)) _ | refine below_drewN ?_ _ | refine Below.drew ?_))
  have hWs : W.heap.size = w.heap.size + 4 := by rw [hW]; simp
  have u0 : W.cell? ⟨w.heap.size, 0, none⟩ = some (.slice ga gn gc) := by rw [hW]; exact al_old (al_old (al_old (al_new rfl rfl)))
  have u1 : W.cell? ⟨w.heap.size, 1, none⟩ = some (.slice fa fs.length fc) := by rw [hW]; exact al_old (al_old (al_old (al_new rfl rfl)))
  have u2 : W.cell? ⟨w.heap.size + 1, 0, none⟩ = some (.slice ma n mc) := by rw [hW]; exact al_old (al_old (al_new (by simp) rfl))
  have u3 : W.cell? ⟨w.heap.size + 1 + 1, 0, none⟩ = some (.slice none 0 0) := by rw [hW]; exact al_old (al_new (by simp) rfl)
  have u4 : W.cell? ⟨w.heap.size + 1 + 1 + 1, 0, none⟩ = some (.bool true) := by rw [hW]; exact al_new (by simp) rfl
  have p3 : W.frozen? ⟨w.heap.size + 1 + 1, 0, none⟩ = false := by rw [hW, World.frozen?_alloc_old _ _ _ (by simp), World.frozen?_alloc_at _ _ _ _ (by simp)]
  rw [← hW]
  refine (callsIn_wide.2 (repeatBools_any ⟨w.heap.size + 1 + 1 + 1, 0, none⟩ 1 true n hn W (by rw [show (⟨w.heap.size + 1 + 1 + 1, 0, none⟩ : Addr).add 0 = ⟨w.heap.size + 1 + 1 + 1, 0, none⟩ by unfold Addr.add; split <;> simp_all]; exact u4))).mono ?_
  rintro e w2 ⟨OB, rfl, hOB, hrow, hb2⟩
  have HbW := hid hbW
  have HWs := hid hWs
  have HOB := hid hOB
  have Hrow := hid hrow
  have Hb2 := hid hb2
  have v0 := cell_later' u0 hb2
  have v1 := cell_later' u1 hb2
  have v2 := cell_later' u2 hb2
  have v3 := cell_later' u3 hb2
  have q3 : w2.frozen? ⟨w.heap.size + 1 + 1, 0, none⟩ = false := (hb2.frozen (p := ⟨w.heap.size + 1 + 1, 0, none⟩) (by dsimp only; omega)).trans p3
  have zz : w.heap.size + 4 ≤ w2.heap.size := by have := hb2.size; omega
  have z0 : w.heap.size < w2.heap.size := by omega
  have z1 : w.heap.size + 1 < w2.heap.size := by omega
  have z2 : w.heap.size + 1 + 1 < w2.heap.size := by omega
  clear hW hbW hWs u0 u1 u2 u3 u4 p3 hOB hrow hb2
  gi_wp2
  obtain ⟨W1, hW1⟩ : ∃ W1, W1 = w2.alloc (.cells #[.slice (some ⟨OB, 0, none⟩) n n] 39) := ⟨_, rfl⟩
  have hs1 : W1.heap.size = w2.heap.size + 1 := by rw [hW1]; simp
  have hb21 : Below w2.heap.size w2 W1 := by rw [hW1]; (repeat (first | exact Below.refl _ _ | refine Below.alloc ?_ (by first | omega | (simp <;> omega)) _ | refine Below.setCell ?_ (by first | omega | (simp <;> omega)) _ | refine below_drewN ?_ _ | refine Below.drew ?_))
  have g0 := cell_later' v0 hb21
  have g1 := cell_later' v1 hb21
  have g2 := cell_later' v2 hb21
  have g3 := cell_later' v3 hb21
  have g4 : W1.cell? ⟨w2.heap.size, 0, none⟩ = some (.slice (some ⟨OB, 0, none⟩) n n) := by rw [hW1]; simp
  have gf : W1.frozen? ⟨w.heap.size + 1 + 1, 0, none⟩ = false := (hb21.frozen (p := ⟨w.heap.size + 1 + 1, 0, none⟩) z2).trans q3
  have hOlt : OB < w2.heap.size := (Array.getElem?_eq_some_iff.1 Hrow.out).1
  have hst : SSt w W1 W1 OB (calmL mem []) := by
    refine ⟨HbW.out.trans ((Hb2.out.trans (hb21.mono Hb2.out.size)).mono HbW.out.size), Nat.le_refl _, fun _ _ _ => rfl, ?_⟩
    rw [hb21.block OB hOlt, Hrow.out, calmL_nil, List.map_replicate, Hml.out]
  have hO1 : w.heap.size + 4 ≤ OB := by have := HOB.out; have := HWs.out; omega
  rw [← hW1]
  have Hst := hid hst
  have Hs1 := hid hs1
  have G0 := hid g0
  have G1 := hid g1
  have G2 := hid g2
  have G3 := hid g3
  have G4 := hid g4
  have Gf := hid gf
  clear hW1 hs1 hb21 g0 g1 g2 g3 g4 gf hst v0 v1 v2 v3 q3
  refine wpIn_loop (fun a W => ∃ (k : Nat) (ds : List Deferred) (u6 u16 u17 u18 u19 u20 u21 u22 u77 : Value), a = { tmps := #[(.agg #[.slice ga gn gc, .slice fa fs.length fc]), (.slice ma n mc), (.pointer (some ⟨w.heap.size, 0, none⟩)), (.pointer (some ⟨w.heap.size + 1, 0, none⟩)), (.pointer (some ⟨w.heap.size + 1 + 1, 0, none⟩)), (.pointer (some ⟨w2.heap.size, 0, none⟩)), u6, undef, (.slice (some ⟨w.heap.size + 1 + 1 + 1, 0, none⟩) 1 1), (.slice ma n mc), (.int .i64 (n : Int)), (.slice (some ⟨OB, 0, none⟩) n n), (.pointer (some ⟨w.heap.size, 1, none⟩)), (.slice fa fs.length fc), (.int .i64 (fs.length : Int)), (.int .i64 (k : Int)), u16, u17, u18, u19, u20, u21, u22, undef, undef, undef, undef, undef, undef, undef, undef, undef, undef, undef, undef, undef, undef, undef, undef, undef, undef, undef, undef, undef, undef, undef, undef, undef, undef, undef, undef, undef, undef, undef, undef, undef, undef, undef, undef, undef, undef, undef, undef, undef, undef, undef, undef, undef, undef, undef, undef, undef, undef, undef, undef, undef, undef, u77, undef], defers := ds } ∧ k ≤ fs.length ∧ SSt w W1 W OB (calmL mem (insU (fs.take k))) ∧ (insU (fs.take k)).any wildB = false ∧ Marks W1.heap.size W.heap.size ds W)
    (fun a _ => fs.length - (intOf (a.tmps.getD 15 undef)).toNat) ?h0 ?round
  case h0 => exact ⟨0, [], undef, undef, undef, undef, undef, undef, undef, undef, undef, rfl, Nat.zero_le _, Hst.out, rfl, Marks.nil _ _ _⟩
  case round =>
    rintro _ wr ⟨k, ds, u6, u16, u17, u18, u19, u20, u21, u22, u77, rfl, hk, hs, hwild, hmk⟩
    have Hs := hid hs
    have Hwild := hid hwild
    have Hmk := hid hmk
    have zw1 : w2.heap.size < W1.heap.size := by have := Hs1.out; omega
    have g0 := hs.cell G0.out (by omega)
    have g1 := hs.cell G1.out (by omega)
    have g4 := hs.cell G4.out (by omega)
    have zr0 : w.heap.size < wr.heap.size := cell_lt g0
    have zr1 : W1.heap.size ≤ wr.heap.size := hs.size
    clear hs hwild hmk
    by_cases hkl : k < fs.length
    · obtain ⟨fb, foff, xa, xc, rfl, hcs, hxb, -, -⟩ := func_at Hf.out hkl
      obtain ⟨-, -, -, c3⟩ := hcs.get4
      have zfb : fb < w.heap.size := cell_lt c3
      have zfr : fb < wr.heap.size := by omega
      obtain ⟨hbl, hll⟩ := Hfb.out _ (List.getElem_mem hkl)
      have HC3 := hid c3
      have Hxb := hid hxb
      have Hll := hid hll
      have Hstp : Hid (insU (fs.take (k + 1)) = insU (fs.take k) ++ insF fs[k]) := insU_succ hkl
      obtain ⟨l0, hl0⟩ : ∃ l0, l0 = insU (fs.take k) := ⟨_, rfl⟩
      rw [← hl0] at Hs Hwild Hstp
      clear hcs c3 hxb hll hl0
      gi_wp2_with (refine ⟨trivial, ?_⟩; gi_at_call 80; refine (each_in Fence.wide 5 trivial rfl _ _).mono ?_; rintro e w' ⟨rfl, rfl⟩)
      obtain ⟨Wk, hWk⟩ : ∃ Wk, Wk = wr.alloc (.cells #[.pointer (some ⟨fb, foff + k * 4, none⟩)] 139) := ⟨_, rfl⟩
      have hbk : Below wr.heap.size wr Wk := by rw [hWk]; (repeat (first | exact Below.refl _ _ | refine Below.alloc ?_ (by first | omega | (simp <;> omega)) _ | refine Below.setCell ?_ (by first | omega | (simp <;> omega)) _ | refine below_drewN ?_ _ | refine Below.drew ?_))
      have hsk : Wk.heap.size = wr.heap.size + 1 := by rw [hWk]; simp
      have hck : Wk.cell? ⟨wr.heap.size, 0, none⟩ = some (.pointer (some ⟨fb, foff + k * 4, none⟩)) := by rw [hWk]; simp
      have Hsk : Hid (SSt w W1 Wk OB (calmL mem l0)) := Hs.out.later hbk (by omega)
      have Hmkk : Hid (Marks W1.heap.size wr.heap.size ds Wk) := Hmk.out.keep (Nat.le_refl _) (fun b h1 h2 h3 => by rw [hbk.block b h2]; exact h3)
      rw [← hWk]
      have HbK := hid hbk
      have HsK := hid hsk
      have HcK := hid hck
      clear hWk hbk hsk hck
      refine wpIn_rangeFunc_ownF (α := InsP w) rfl (by decide) (gf := 128) (lb := #[.pointer (some ⟨wr.heap.size, 0, none⟩)]) rfl trivial (enters_of Tryd.func128 (by kernel_rfl) rfl)
        (each_stops Fence.wide (6 - 1) trivial rfl (by decide) wr.heap.size Wk.heap.size fb (foff + k * 4) (fun b => b = OB ∨ b = w.heap.size + 1 + 1) xa xc fs[k].blocks w Wk hbl Hll.out
          (Hxb.out.mono rBlock_mono (fun b hb => by have := HS.out b hb; have := HsK.out; exact ⟨by omega, by omega⟩) (Stays.refl _ _)) HC3.out (by have := HsK.out; exact ⟨by omega, by omega⟩) (by have := HsK.out; exact ⟨by omega, by omega⟩) Hsk.out.below HcK.out)
        (fun h k => keepE_t h k) (keepE_b (Nat.le_refl _)) (Below.refl _ _) (fun _ => rfl)
        (fun pre W => (SSt w W1 W OB (calmL mem (l0 ++ pre.map insOf)) ∧ Marks W1.heap.size wr.heap.size ds W) ∧ (l0 ++ pre.map insOf).any wildB = false ∧ Wk.heap.size ≤ W.heap.size)
        (fun c pre W => (c = .ret ∧ (l0 ++ pre.map insOf).any wildB = true) ∧ (Below w.heap.size w W ∧ Marks W1.heap.size wr.heap.size ds W ∧ ∃ g, w.heap.size ≤ g ∧ W.cell? ⟨w.heap.size + 1 + 1, 0, none⟩ = some (.slice (some ⟨g, 0, none⟩) n n) ∧ W.heap[g]? = some (.cells ((List.replicate n false).map Value.bool).toArray 4 (0, 0))))
        ?hI ?hIx ?h0 (fun x => { tmps := #[(.agg #[.slice ga gn gc, .slice (some ⟨fb, foff, none⟩) fs.length fc]), (.slice ma n mc), (.pointer (some ⟨w.heap.size, 0, none⟩)), (.pointer (some ⟨w.heap.size + 1, 0, none⟩)), (.pointer (some ⟨w.heap.size + 1 + 1, 0, none⟩)), (.pointer (some ⟨w2.heap.size, 0, none⟩)), (.int .i64 (k : Int)), (.pointer (some ⟨x.1.1, x.1.2.1, none⟩)), (.slice (some ⟨w.heap.size + 1 + 1 + 1, 0, none⟩) 1 1), (.slice ma n mc), (.int .i64 (n : Int)), (.slice (some ⟨OB, 0, none⟩) n n), (.pointer (some ⟨w.heap.size, 1, none⟩)), (.slice (some ⟨fb, foff, none⟩) fs.length fc), (.int .i64 (fs.length : Int)), (.int .i64 (k : Int)), (.bool true), (.int .i64 (k : Int)), (.pointer (some ⟨w.heap.size, 1, none⟩)), (.slice (some ⟨fb, foff, none⟩) fs.length fc), (.int .i64 (k : Int)), (.pointer (some ⟨fb, foff + k * 4, none⟩)), (.func (.func 128) #[] #[.pointer (some ⟨wr.heap.size, 0, none⟩)]), (.pointer (some ⟨x.1.1, x.1.2.1, none⟩)), undef, undef, undef, undef, undef, undef, undef, undef, undef, undef, undef, undef, undef, undef, undef, undef, undef, undef, undef, undef, undef, undef, undef, undef, undef, undef, undef, undef, undef, undef, undef, undef, undef, undef, undef, undef, undef, undef, undef, undef, undef, undef, undef, undef, undef, undef, undef, undef, undef, undef, undef, undef, undef, u77, undef], defers := [] }) ?assign ?body ?done ?stop
      case hI =>
        rintro pr A B row ⟨⟨h1, h2⟩, h3, h4⟩ hg hr
        have hr' : ∀ r, row = some r → Wk.heap.size ≤ r := fun r e => (hr r e).1
        have := HsK.out
        refine ⟨⟨h1.grown hg (by omega) (by omega) (fun r e => by have := hr' r e; omega), h2.keep (Nat.le_refl _) (fun b k1 k2 k3 => ?_)⟩, h3, Nat.le_trans h4 hg.size⟩
        rw [hg.block b (Array.getElem?_eq_some_iff.1 k3).1 (fun e => by have := hr' b e.symm; omega)]
        exact k3
      case hIx =>
        rintro c pr A B row ⟨hp, hb, hm, g, hg1, hg2, hg3⟩ hg hr
        have hr' : ∀ r, row = some r → Wk.heap.size ≤ r := fun r e => (hr r e).1
        have := HsK.out
        refine ⟨hp, hb.grown hg hb.size (fun r e => by have := hr' r e; omega), hm.keep (Nat.le_refl _) (fun b k1 k2 k3 => ?_), g, hg1, cell_kept hg2 hg (fun r e => (hr r e).2), ?_⟩
        · rw [hg.block b (Array.getElem?_eq_some_iff.1 k3).1 (fun e => by have := hr' b e.symm; omega)]
          exact k3
        · rw [hg.block g (Array.getElem?_eq_some_iff.1 hg3).1 (fun e => by
            obtain ⟨-, o, ho, hc⟩ := hr g e.symm
            rw [hg3] at ho
            cases ho
            cases hc)]
          exact hg3
      case h0 => exact ⟨⟨by simpa using Hsk.out, Hmkk.out⟩, by simpa using Hwild.out, Nat.le_refl _⟩
      case assign =>
        intro l x W K hK
        unfold encI
        gi_wp2
        exact hK
      case body =>
        rintro l pre x W ⟨⟨hs, hm⟩, hw, hsz⟩ _
        have Hs2 := hid hs
        have Hm2 := hid hm
        have Hw2 := hid hw
        obtain ⟨av, hcx⟩ := x.2
        obtain ⟨e0, -, e2, e3, e4, e5, -, -⟩ := (hcx.later hs.below).get8
        obtain ⟨y, hy⟩ : ∃ y, y = insOf x := ⟨_, rfl⟩
        obtain ⟨b, hb⟩ : ∃ b, b = x.1.1 := ⟨_, rfl⟩
        obtain ⟨off, hoff⟩ : ∃ off, off = x.1.2.1 := ⟨_, rfl⟩
        have e0 : W.cell? ⟨b, off, none⟩ = some (.int .i64 y.op) := by rw [hy, hb, hoff]; exact e0
        have e2 : W.cell? ⟨b, off + 2, none⟩ = some (.bool y.a.reg) := by rw [hy, hb, hoff]; exact e2
        have e3 : W.cell? ⟨b, off + 3, none⟩ = some (.int .i64 y.a.n) := by rw [hy, hb, hoff]; exact e3
        have e4 : W.cell? ⟨b, off + 4, none⟩ = some (.bool y.b.reg) := by rw [hy, hb, hoff]; exact e4
        have e5 : W.cell? ⟨b, off + 5, none⟩ = some (.int .i64 y.b.n) := by rw [hy, hb, hoff]; exact e5
        rw [← hb, ← hoff]
        have zb : b < W.heap.size := cell_lt e0
        obtain ⟨L, hL⟩ : ∃ L, L = l0 ++ pre.map insOf := ⟨_, rfl⟩
        have HL : Hid (l0 ++ (pre ++ [x]).map insOf = L ++ [y]) := by show _ = _; rw [hL, hy, List.map_append, List.append_assoc]; rfl
        rw [← hL] at Hs2 Hw2
        obtain ⟨op, hop⟩ : ∃ op, y.op = op := ⟨_, rfl⟩
        obtain ⟨ar, har⟩ : ∃ ar, y.a.reg = ar := ⟨_, rfl⟩
        obtain ⟨an, han⟩ : ∃ an, y.a.n = an := ⟨_, rfl⟩
        obtain ⟨br, hbr⟩ : ∃ br, y.b.reg = br := ⟨_, rfl⟩
        obtain ⟨bn, hbn⟩ : ∃ bn, y.b.n = bn := ⟨_, rfl⟩
        have Hwy : Hid (wildB y = (decide (op = 19) && ar)) := by show _ = _; unfold wildB; rw [hop, har]
        have Hhy : Hid (∀ p, hurtB mem p y = (decide (op = 19) && (!ar && (decide (an = (p : Int)) && (br || decide (bn ≠ mem.getD p 0)))))) := fun p => by unfold hurtB; rw [hop, har, han, hbr, hbn]
        have Hy5 : Hid (y.op = op ∧ y.a.reg = ar ∧ y.a.n = an ∧ y.b.reg = br ∧ y.b.n = bn) := ⟨hop, har, han, hbr, hbn⟩
        rw [hop] at e0
        rw [har] at e2
        rw [han] at e3
        rw [hbr] at e4
        rw [hbn] at e5
        have Hw3 : Hid (wildB y = false → (L ++ [y]).any wildB = false) := fun h => by rw [List.any_append, Hw2.out]; simp [h]
        have Hsame : Hid ((∀ p, p < mem.length → hurtB mem p y = false) → calmL mem (L ++ [y]) = calmL mem L) := fun h => calm_same h
        have g2 := hs.cell G2.out (by omega)
        have g3 := hs.cell G3.out (by omega)
        have g4 := hs.cell G4.out (by omega)
        have gf : W.frozen? ⟨w.heap.size + 1 + 1, 0, none⟩ = false := (hs.frozen (by omega) (by omega)).trans Gf.out
        have zW1 : W1.heap.size ≤ W.heap.size := hs.size
        have zW2 : w2.heap.size < W.heap.size := by omega
        have zW3 : w.heap.size + 1 < W.heap.size := by omega
        have zW4 : w.heap.size + 1 + 1 < W.heap.size := by omega
        clear hs hm hw hcx hy hb hoff hL hop har han hbr hbn av
        by_cases ho : op = 19
        · have q0 : (decide (op < 19) || decide (19 < op)) = false := ne_no ho
          cases ar with
          | true =>
            have hmk := run_make_row' (P := Tryd.prog) 39 4 (.bool false) 1 Tryd.underlying39 infoBool rfl .i64 .i64 n (by omega) (by omega)
            have Hwi : Hid ((L ++ [y]).any wildB = true) := by show _ = _; rw [List.any_append]; simp [Hwy.out, ho]
            clear ho
            gi_wp2
            have hse : (W.setCell ⟨w.heap.size + 1 + 1, 0, none⟩ (.slice (some ⟨W.heap.size, 0, none⟩) n n)).heap.size = W.heap.size := by simp [World.setCell]
            refine ⟨(KeepsOthers.setCell _ _ _).trans (KeepsOthers.alloc _ _), ⟨rfl, by rw [HL.out]; exact Hwi.out⟩, ?_, ?_, W.heap.size, by omega, ?_, ?_⟩
            · exact (Hs2.out.below.setCell (p := ⟨w.heap.size + 1 + 1, 0, none⟩) (by dsimp only; omega) _).alloc (by rw [hse]; omega) _
            · refine Hm2.out.keep (Nat.le_refl _) (fun b k1 k2 k3 => ?_)
              have hbl := (Array.getElem?_eq_some_iff.1 k3).1
              rw [Below.heap_alloc _ _ _ (by rw [hse]; exact hbl), Below.heap_setCell _ _ _ _ (by dsimp only; omega)]
              exact k3
            · exact al_old (by rw [cell_set g3, if_pos rfl])
            · have h := heap_alloc_new (W.setCell ⟨w.heap.size + 1 + 1, 0, none⟩ (.slice (some ⟨W.heap.size, 0, none⟩) n n)) (.cells (madeCells #[Value.bool false] n) 4)
              rw [hse] at h
              rw [List.map_replicate, ← madeCells_rep]
              exact h
          | false =>
            have Hwi : Hid ((L ++ [y]).any wildB = false) := Hw3.out (by rw [Hwy.out]; simp)
            have hmx : Tryd.prog.follows .mixedOrders = true := by kernel_rfl
            have k2 := cell_regrown g2
            have kr := cell_regrown e2
            have kn := cell_regrown e3
            have kbr := cell_regrown e4
            have kbn := cell_regrown e5
            by_cases hin : inB false an (n : Int) = true
            · obtain ⟨q, hq⟩ : ∃ q : Nat, an = (q : Int) := Int.eq_ofNat_of_zero_le (by unfold inB at hin; simp at hin; omega)
              have hqn : q < n := by unfold inB at hin; simp at hin; omega
              subst hq
              have cW : ∀ m d os, CallsIn Fence.wide m Tryd.prog 81 #[.agg #[.bool false, .int .i64 (q : Int)], .int .i64 (n : Int)] (grow (redrawn W d) os) fun e w'' => e = .returned (.bool true) ∧ ∃ p : Regrown, w'' = grow (redrawn W p.d) p.os := fun m d os => by
                have h := callsIn_wide (n := m).2 (swithin_any false (q : Int) (n : Int) (grow (redrawn W d) os))
                rw [hin] at h
                exact CallsIn.regrown_of h
              have hqm : q < mem.length := by rw [Hml.out]; exact hqn
              obtain ⟨mb, moff, hma, mq⟩ := int_at (Hm.out.later rInt_mono Hs2.out.below) hqm
              subst hma
              have hcl : (calmL mem L).length = n := by rw [calmL_len, Hml.out]
              have Hcl := hid hcl
              have zmb : mb < W.heap.size := cell_lt mq
              have Hset : Hid ((br = true ∨ bn ≠ mem.getD q 0) → calmL mem (L ++ [y]) = (calmL mem L).set q false) := fun h => calm_set (by rw [Hy5.out.1, ho]) Hy5.out.2.1 Hy5.out.2.2.1 (by rw [Hy5.out.2.2.2.1, Hy5.out.2.2.2.2]; exact h)
              have Hno : Hid (br = false → bn = mem.getD q 0 → calmL mem (L ++ [y]) = calmL mem L) := fun h1 h2 => Hsame.out (fun p _ => by
                rw [Hhy.out, h1]
                by_cases hpq : p = q
                · subst hpq; simp [h2]
                · rw [show decide (((q : Nat) : Int) = (p : Int)) = false by simp; omega]; simp)
              obtain ⟨mv, hmv⟩ : ∃ mv, mem[q]'hqm = mv := ⟨_, rfl⟩
              have hgd : mem.getD q 0 = mv := by rw [List.getD_eq_getElem?_getD, List.getElem?_eq_getElem hqm, ← hmv]; rfl
              rw [hgd] at Hset Hno
              rw [hmv] at mq
              have kmq := cell_regrown mq
              clear hmv hgd ho hcl hin
              cases br with
              | true =>
                have Hse : Hid (calmL mem (L ++ [y]) = (calmL mem L).set q false) := Hset.out (.inl rfl)
                gi_wp2
                refine wpIn_region_quiet_round rfl (by kernel_rfl) (by kernel_rfl) (by kernel_rfl) ?_
                repeat (gi_big_quiet_step (fail))
                refine wpQuietIn_step (fun _ _ _ _ => trivial) (fun K hK => ?_)
                go_simp
                refine ⟨_, fun _ => cW _ _ _, hK _ ?_⟩
                clear hK K
                repeat (gi_big_quiet_step (fail))
                refine wpQuietIn_nil ?_
                intro W' hw'
                obtain ⟨rg, hrg⟩ := hw'
                have hbg : Below W.heap.size W W' := by rw [hrg]; exact below_regrown _ _ _
                clear hrg
                gi_wp2
                have m4 := cell_later' g4 hbg
                have f3 := cell_later' e3 hbg
                have hsL : SSt w W1 W' OB (calmL mem L) := Hs2.out.later hbg (by omega)
                have hOv : W'.cell? ⟨OB, q, none⟩ = some (.bool ((calmL mem L)[q]'(by rw [Hcl.out]; exact hqn))) := by
                  rw [cell_row hsL.row]
                  simp
                have hOf : W'.frozen? ⟨OB, q, none⟩ = false := by simp [World.frozen?, hsL.row]
                have HsL := hid hsL
                have z1 : (q : Int) < (n : Int) := by omega
                have z2 : (0 : Int) ≤ (q : Int) := by omega
                clear hsL
                have hbd : Below W.heap.size W W'.drew := hbg.drew
                have hsd : SSt w W1 W'.drew OB (calmL mem L) := HsL.out.later (Below.refl _ _).drew (by omega)
                have Hbd := hid hbd
                have Hsd := hid hsd
                clear hbd hsd
                gi_region_with_o (fail)
                all_goals gi_wp2
                all_goals exact ⟨(keepsOthers_below Hbd.out).trans (KeepsOthers.setCell _ _ _), keepE_t (keepE_below Hbd.out (by omega)) (keepE_set _ _ (.inl rfl)), ⟨by rw [HL.out, Hse.out]; exact Hsd.out.set (by omega) (by rw [Hcl.out]; exact hqn) false, (Hm2.out.below Hbd.out).set _ (by omega)⟩, by rw [HL.out]; exact Hwi.out, by have := Hbd.out.size; simpa [World.setCell] using Nat.le_trans hsz this⟩
              | false =>
                by_cases hbm : bn = mv
                · have q5 : (decide (bn < mv) || decide (mv < bn)) = false := ne_no hbm
                  have Hsm : Hid (calmL mem (L ++ [y]) = calmL mem L) := Hno.out rfl hbm
                  clear hbm
                  gi_wp2
                  refine wpIn_region_quiet_round rfl (by kernel_rfl) (by kernel_rfl) (by kernel_rfl) ?_
                  repeat (gi_big_quiet_step (fail))
                  refine wpQuietIn_step (fun _ _ _ _ => trivial) (fun K hK => ?_)
                  go_simp
                  refine ⟨_, fun _ => cW _ _ _, hK _ ?_⟩
                  clear hK K
                  repeat (gi_big_quiet_step (fail))
                  refine wpQuietIn_nil ?_
                  intro W' hw'
                  obtain ⟨rg, hrg⟩ := hw'
                  have hbg : Below W.heap.size W W' := by rw [hrg]; exact below_regrown _ _ _
                  clear hrg
                  gi_wp2
                  exact ⟨keepsOthers_below hbg, keepE_below hbg (by omega), ⟨by rw [HL.out, Hsm.out]; exact Hs2.out.later hbg (by omega), Hm2.out.below hbg⟩, by rw [HL.out]; exact Hwi.out, Nat.le_trans hsz hbg.size⟩
                · have q5 : (decide (bn < mv) || decide (mv < bn)) = true := ne_yes hbm
                  have Hse : Hid (calmL mem (L ++ [y]) = (calmL mem L).set q false) := Hset.out (.inr hbm)
                  clear hbm
                  gi_wp2
                  refine wpIn_region_quiet_round rfl (by kernel_rfl) (by kernel_rfl) (by kernel_rfl) ?_
                  repeat (gi_big_quiet_step (fail))
                  refine wpQuietIn_step (fun _ _ _ _ => trivial) (fun K hK => ?_)
                  go_simp
                  refine ⟨_, fun _ => cW _ _ _, hK _ ?_⟩
                  clear hK K
                  repeat (gi_big_quiet_step (fail))
                  refine wpQuietIn_nil ?_
                  intro W' hw'
                  obtain ⟨rg, hrg⟩ := hw'
                  have hbg : Below W.heap.size W W' := by rw [hrg]; exact below_regrown _ _ _
                  clear hrg
                  gi_wp2
                  have m4 := cell_later' g4 hbg
                  have f3 := cell_later' e3 hbg
                  have hsL : SSt w W1 W' OB (calmL mem L) := Hs2.out.later hbg (by omega)
                  have hOv : W'.cell? ⟨OB, q, none⟩ = some (.bool ((calmL mem L)[q]'(by rw [Hcl.out]; exact hqn))) := by
                    rw [cell_row hsL.row]
                    simp
                  have hOf : W'.frozen? ⟨OB, q, none⟩ = false := by simp [World.frozen?, hsL.row]
                  have HsL := hid hsL
                  have z1 : (q : Int) < (n : Int) := by omega
                  have z2 : (0 : Int) ≤ (q : Int) := by omega
                  clear hsL
                  have hbd : Below W.heap.size W W'.drew := hbg.drew
                  have hsd : SSt w W1 W'.drew OB (calmL mem L) := HsL.out.later (Below.refl _ _).drew (by omega)
                  have Hbd := hid hbd
                  have Hsd := hid hsd
                  clear hbd hsd
                  gi_region_with_o (fail)
                  all_goals gi_wp2
                  all_goals exact ⟨(keepsOthers_below Hbd.out).trans (KeepsOthers.setCell _ _ _), keepE_t (keepE_below Hbd.out (by omega)) (keepE_set _ _ (.inl rfl)), ⟨by rw [HL.out, Hse.out]; exact Hsd.out.set (by omega) (by rw [Hcl.out]; exact hqn) false, (Hm2.out.below Hbd.out).set _ (by omega)⟩, by rw [HL.out]; exact Hwi.out, by have := Hbd.out.size; simpa [World.setCell] using Nat.le_trans hsz this⟩
            · have hin : inB false an (n : Int) = false := by simpa using hin
              have Hsm : Hid (calmL mem (L ++ [y]) = calmL mem L) := Hsame.out (fun p hp => by
                rw [Hhy.out]
                rw [show decide (an = (p : Int)) = false by
                  have hpn : p < n := by rw [← Hml.out]; exact hp
                  refine decide_eq_false (fun e => ?_)
                  subst e
                  unfold inB at hin
                  simp at hin
                  omega]
                simp)
              have cW : ∀ m d os, CallsIn Fence.wide m Tryd.prog 81 #[.agg #[.bool false, .int .i64 an], .int .i64 (n : Int)] (grow (redrawn W d) os) fun e w'' => e = .returned (.bool false) ∧ ∃ p : Regrown, w'' = grow (redrawn W p.d) p.os := fun m d os => by
                have h := callsIn_wide (n := m).2 (swithin_any false an (n : Int) (grow (redrawn W d) os))
                rw [hin] at h
                exact CallsIn.regrown_of h
              clear ho hin
              gi_wp2
              refine wpIn_region_quiet_round rfl (by kernel_rfl) (by kernel_rfl) (by kernel_rfl) ?_
              repeat (gi_big_quiet_step (fail))
              refine wpQuietIn_step (fun _ _ _ _ => trivial) (fun K hK => ?_)
              go_simp
              refine ⟨_, fun _ => cW _ _ _, hK _ ?_⟩
              clear hK K
              repeat (gi_big_quiet_step (fail))
              refine wpQuietIn_nil ?_
              intro W' hw'
              obtain ⟨rg, hrg⟩ := hw'
              have hbg : Below W.heap.size W W' := by rw [hrg]; exact below_regrown _ _ _
              clear hrg
              gi_wp2
              exact ⟨keepsOthers_below hbg, keepE_below hbg (by omega), ⟨by rw [HL.out, Hsm.out]; exact Hs2.out.later hbg (by omega), Hm2.out.below hbg⟩, by rw [HL.out]; exact Hwi.out, Nat.le_trans hsz hbg.size⟩
        · have q0 : (decide (op < 19) || decide (19 < op)) = true := ne_yes ho
          have Hwi : Hid ((L ++ [y]).any wildB = false) := Hw3.out (by rw [Hwy.out]; simp [ho])
          have Hsm : Hid (calmL mem (L ++ [y]) = calmL mem L) := Hsame.out (fun p _ => by rw [Hhy.out]; simp [ho])
          clear ho
          gi_wp2
          exact ⟨KeepsOthers.refl _, KeepE.refl _ _ _, ⟨by rw [HL.out, Hsm.out]; exact Hs2.out, Hm2.out⟩, by rw [HL.out]; exact Hwi.out, hsz⟩
      case done =>
        rintro D xs W hD hxs ⟨⟨hs, hm⟩, hw, hsz⟩ hd
        have hIns : l0 ++ xs.map insOf = insU (fs.take (k + 1)) := by rw [Hstp.out, hxs]; rfl
        rw [hIns] at hs hw
        have hDl : D < W.heap.size := (Array.getElem?_eq_some_iff.1 hd).1
        have hm2 : Marks W1.heap.size W.heap.size ({ target := .collected D, args := #[] } :: ds) W := hm.cons (by have := HsK.out; omega) (by have := HsK.out; omega) hDl hd
        have Hs3 := hid hs
        have Hm3 := hid hm2
        have Hw3 := hid hw
        clear hs hw hm2 hm hd hxs hIns
        gi_wp2
        refine ⟨⟨k + 1, { target := .collected D, args := #[] } :: ds, .int .i64 (k : Int), .bool true, .int .i64 (k : Int), .pointer (some ⟨w.heap.size, 1, none⟩), .slice (some ⟨fb, foff, none⟩) fs.length fc, .int .i64 (k : Int), .pointer (some ⟨fb, foff + k * 4, none⟩), .func (.func 128) #[] #[.pointer (some ⟨wr.heap.size, 0, none⟩)], .int .i64 ((k : Int) + 1), rfl, by omega, Hs3.out, Hw3.out, Hm3.out⟩, ?_⟩
        show fs.length - (k + 1) < fs.length - k
        omega
      case stop =>
        rintro D c pre W hD hpre ⟨⟨rfl, hw⟩, hb, hm, g, hg1, hg2, hg3⟩ hd
        have hDl : D < W.heap.size := (Array.getElem?_eq_some_iff.1 hd).1
        have hm2 : Marks W1.heap.size W.heap.size ({ target := .collected D, args := #[] } :: ds) W := hm.cons (by have := HsK.out; omega) (by have := HsK.out; omega) hDl hd
        have hall : (insU fs).any wildB = true := by
          obtain ⟨r, hr⟩ := hpre
          have h2 : insU fs = insU (fs.take (k + 1)) ++ insU (fs.drop (k + 1)) := by
            unfold insU
            rw [← List.flatMap_append, List.take_append_drop]
          rw [h2, Hstp.out, show insF fs[k] = pre.map insOf ++ r from hr.symm, ← List.append_assoc, List.append_assoc _ r, List.any_append, hw]
          rfl
        gi_wp2
        refine leaves_marks (B := W1.heap.size) (C := W.heap.size) _ _ (by have := HsK.out; omega) hm2 (fun W' hW => ?_)
        have hrb : W'.cell? ⟨w.heap.size + 1 + 1, 0, none⟩ = some (.slice (some ⟨g, 0, none⟩) n n) := by
          have h := hW.1.block (w.heap.size + 1 + 1) (by omega)
          rw [World.cell?_of_block (w := W) (a := ⟨w.heap.size + 1 + 1, 0, none⟩) h, hg2]
        have hro := hW.2 _ _ _ _ hg3
        have hst : stillF mem (insU fs) = List.replicate n false := by
          unfold stillF
          rw [hall, if_pos rfl, Hml.out]
        have hbf : Below w.heap.size w W' := hb.trans (hW.1.mono (by omega))
        have hsl := bools_sl hro (fun b => w.heap.size ≤ b) hg1 (by simpa using hn)
        rw [List.length_replicate] at hsl
        refine ⟨.slice (some ⟨g, 0, none⟩) n n, ?_, _, _, rfl, by rw [hst]; exact hsl, hbf⟩
        have hres : Tryd.f46.results = #[.cell 4 39] := rfl
        unfold results
        rw [hres]
        simp [go_sem, hrb]
    · obtain rfl : k = fs.length := by omega
      have g3 := Hs.out.cell G3.out (by omega)
      have gf : wr.frozen? ⟨w.heap.size + 1 + 1, 0, none⟩ = false := (Hs.out.frozen (by omega) (by omega)).trans Gf.out
      have hse : (wr.setCell ⟨w.heap.size + 1 + 1, 0, none⟩ (.slice (some ⟨OB, 0, none⟩) n n)).heap.size = wr.heap.size := by simp [World.setCell]
      have Hse := hid hse
      clear hse
      gi_wp2
      refine leaves_marks (B := W1.heap.size) (C := wr.heap.size) ds _ (by rw [Hse.out]; omega) (Hmk.out.set _ (by omega)) (fun W' hW => ?_)
      have hrb : W'.cell? ⟨w.heap.size + 1 + 1, 0, none⟩ = some (.slice (some ⟨OB, 0, none⟩) n n) := by
        have h := hW.1.block (w.heap.size + 1 + 1) (by omega)
        rw [World.cell?_of_block (w := wr.setCell ⟨w.heap.size + 1 + 1, 0, none⟩ (.slice (some ⟨OB, 0, none⟩) n n)) (a := ⟨w.heap.size + 1 + 1, 0, none⟩) h, cell_set g3, if_pos rfl]
      have hro : W'.heap[OB]? = some (.cells ((calmL mem (insU fs)).map Value.bool).toArray 4 (0, 0)) := by
        refine hW.2 _ _ _ _ ?_
        rw [Below.heap_setCell _ _ _ _ (by dsimp only; omega), Hs.out.row, List.take_length]
      have hcl : (calmL mem (insU fs)).length = n := by rw [calmL_len, Hml.out]
      have hst : stillF mem (insU fs) = calmL mem (insU fs) := by
        have := Hwild.out
        rw [List.take_length] at this
        unfold stillF
        rw [this]
        rfl
      have hbf : Below w.heap.size w W' := (Hs.out.below.setCell (p := ⟨w.heap.size + 1 + 1, 0, none⟩) (by dsimp only; omega) _).trans (hW.1.mono (by omega))
      have hsl := bools_sl hro (fun b => w.heap.size ≤ b) (by omega) (by omega)
      rw [hcl] at hsl
      refine ⟨.slice (some ⟨OB, 0, none⟩) n n, ?_, _, _, rfl, by rw [hst]; exact hsl, hbf⟩
      have hres : Tryd.f46.results = #[.cell 4 39] := rfl
      unfold results
      rw [hres]
      simp [go_sem, hrb]

end Go.Proofs.YtaehkcnankijfaaDoor
