/- The contract of weigh.Lay. -/
import Derived.Test.YtaehkcnankijfaaDoorLay
import Derived.Test.YtaehkcnankijfaaDoorCheck
import Derived.RegionTactic
import Derived.BigRegion
namespace Go.Proofs.YtaehkcnankijfaaDoor
open Go.RowKit

/-- What a unit that code.Check lets through keeps. -/
theorem checkF_ok {u : DUnit} (h : (checkF u).1 = 0) : u.globals.length ≤ 10 ∧ u.funcs.length ≤ 10 ∧ (∀ k, globE u.globals k = 0) ∧ (∀ k, headsE u.globals u.funcs k = 0) ∧ (∀ k, bodiesE u.funcs k = 0) := by
  unfold checkF at h
  by_cases h1 : 10 < u.globals.length ∨ 10 < u.funcs.length
  · rw [if_pos h1] at h; simp at h
  rw [if_neg h1] at h
  by_cases h2 : posF (globE u.globals) u.globals.length < u.globals.length
  · rw [if_pos h2] at h; exact absurd h (posF_ne h2)
  rw [if_neg h2] at h
  by_cases h3 : posF (headsE u.globals u.funcs) u.funcs.length < u.funcs.length
  · rw [if_pos h3] at h; exact absurd h (posF_ne h3)
  rw [if_neg h3] at h
  by_cases h4 : posF (bodiesE u.funcs) u.funcs.length < u.funcs.length
  · rw [if_pos h4] at h; exact absurd h (posF_ne h4)
  refine ⟨by omega, by omega, fun k => ?_, fun k => ?_, fun k => ?_⟩
  · by_cases hk : k < u.globals.length
    · exact posF_inv h2 k hk
    · unfold globE; rw [List.getElem?_eq_none (by omega)]
  · by_cases hk : k < u.funcs.length
    · exact posF_inv h3 k hk
    · unfold headsE; rw [List.getElem?_eq_none (by omega)]
  · by_cases hk : k < u.funcs.length
    · exact posF_inv h4 k hk
    · unfold bodiesE; rw [List.getElem?_eq_none (by omega)]
theorem checkF_func {u : DUnit} (h : (checkF u).1 = 0) {k : Nat} {f : DFunc} (hf : u.funcs[k]? = some f) :
    1 ≤ f.blocks.length ∧ f.blocks.length ≤ 40 ∧ (∀ (i : Nat) (x : DBlock), f.blocks[i]? = some x → endE f.blocks.length f.regs x.fin = 0) := by
  obtain ⟨-, -, -, h2, h3⟩ := checkF_ok h
  have g2 := h2 k
  have g3 := h3 k
  unfold headsE at g2
  unfold bodiesE at g3
  rw [hf] at g2 g3
  obtain ⟨-, -, -, -, -, -, e1, e2, -⟩ := headE_ok g2
  refine ⟨e1, e2, fun i x hx => ?_⟩
  dsimp only at g3
  unfold bodyE at g3
  by_cases h4 : firstF (endsE f.regs f.blocks) f.blocks.length = 0
  · have h5 := firstF_inv h4 i (List.getElem?_eq_some_iff.1 hx).1
    unfold endsE at h5
    rw [hx] at h5
    exact h5
  · rw [if_pos h4] at g3; exact absurd g3 h4

/-- What weigh.Lay answers. -/
def layS (u : DUnit) (k : Int) (C : List Int) : List Int × Int × Int :=
  if checkF u ≠ (0, 0) then ([], checkF u)
  else if k < 0 then ([], 3, -1)
  else match u.funcs[k.toNat]? with
    | none => ([], 3, -1)
    | some f => if C.length ≠ f.blocks.length then ([], 9, -1) else ((layF f.blocks (cntOf C)).map fun b : Nat => (b : Int), 0, 0)

theorem stays_set {S : Nat → Prop} {w : World} {p : Addr} (v : Value) (h : ∀ b, S b → b ≠ p.block) : Stays S w (w.setCell p v) := fun b o x hb hc => by
  rw [World.cell?_of_block (w := w) (a := ⟨b, o, none⟩) (Below.heap_setCell _ _ _ _ (h b hb))]; exact hc

theorem sl_none {α : Type} {r : Rp α} {S : Nat → Prop} {w : World} {sz : Nat} : SlAt S w sz r (.slice none 0 0) [] :=
  ⟨none, 0, rfl, Nat.le_refl _, by decide, fun h => absurd rfl h⟩

theorem res_lay {fn : Func} (hfn : fn.results = #[.tmp 6, .cell 7 28]) {tmps : Array Value} {b : Nat} {v : Value} (hv : tmps.getD 6 undef = v) (ht : tmps.getD 7 undef = .pointer (some ⟨b, 0, none⟩)) {c a : Int} {W : World}
    (h0 : W.cell? ⟨b, 0, none⟩ = some (.int .i64 c)) (h1 : W.cell? ⟨b, 1, none⟩ = some (.int .i64 a)) : (results fn tmps).run Tryd.prog W = .ok (.tuple #[v, .agg #[.int .i64 c, .int .i64 a]]) W := by
  simp only [Array.getD_eq_getD_getElem?] at ht hv
  simp [results, hfn, ht, hv, go_sem, h0, h1]

theorem lay_any' {S S' : Nat → Prop} (nm : ByteArray) (p r : Int) (ba : Option Addr) (bc : Nat) (bs : List DBlock) (ca : Option Addr) (cc : Nat) (C : List Int) (n : Nat) (w : World) (hb : SlAt S w 6 rBlock (.slice ba bs.length bc) bs) (hC : SlAt S' w 1 rInt (.slice ca C.length cc) C)
    (hn0 : 0 < n) (hn : n ≤ 1048576) (hbn : bs.length = n) (hcn : C.length = n) (hto : ∀ (k : Nat) (x : DBlock), bs[k]? = some x → ∀ t ∈ x.fin.to, 0 ≤ t ∧ t < (bs.length : Int)) :
    Calls Tryd.prog 36 #[.agg #[.string nm, .int .i64 p, .int .i64 r, .slice ba n bc], .slice ca n cc] w fun e w' =>
      ∃ v, e = .returned v ∧ SlAt (fun b => w.heap.size ≤ b) w' 1 rInt v ((layF bs (cntOf C)).map fun b : Nat => (b : Int)) ∧ Below w.heap.size w w' := by
  subst hbn
  have h := lay_any nm p r ba bc bs ca cc C w hb hC hn0 hn hcn hto
  rw [hcn] at h
  exact h

set_option maxRecDepth 100000 in
set_option maxHeartbeats 2000000 in
theorem Lay_any {S S' : Nat → Prop} (ga : Option Addr) (gc : Nat) (fa : Option Addr) (fc : Nat) (gs : List DGlobal) (fs : List DFunc) (k : Int) (ca : Option Addr) (cc : Nat) (C : List Int) (w : World)
    (hg : SlAt S w 3 rGlobal (.slice ga gs.length gc) gs) (hf : SlAt S w 4 rFunc (.slice fa fs.length fc) fs) (hC : SlAt S' w 1 rInt (.slice ca C.length cc) C) (hw : Ways w)
    (hgl : gs.length ≤ 1048576) (hfl : fs.length ≤ 1048576) (_hcl : C.length ≤ 1048576) (hsm : ∀ (k : Nat) (f : DFunc), fs[k]? = some f → manyOf f.blocks ≤ 1048576 ∧ f.blocks.length ≤ 1048576) :
    Calls Tryd.prog 15 #[.agg #[.slice ga gs.length gc, .slice fa fs.length fc], .int .i64 k, .slice ca C.length cc] w fun e w' =>
      ∃ v, e = .returned (.tuple #[v, .agg #[.int .i64 (layS ⟨gs, fs⟩ k C).2.1, .int .i64 (layS ⟨gs, fs⟩ k C).2.2]]) ∧ SlAt (fun b => w.heap.size ≤ b) w' 1 rInt v (layS ⟨gs, fs⟩ k C).1 ∧ Below w.heap.size w w' := by
  have Hg := hid hg
  have Hf := hid hf
  have HC := hid hC
  have Hw := hid hw
  have Hsm := hid hsm
  clear hg hf hC hw hsm
  have HW0 : Hid (∀ a : Obj, Below w.heap.size w (w.alloc a)) := fun a => by (repeat (first | exact Below.refl _ _ | refine Below.alloc ?_ (by first | omega | (simp <;> omega)) _ | refine Below.setCell ?_ (by first | omega | (simp <;> omega)) _ | refine below_drewN ?_ _ | refine Below.drew ?_))
  go_enter Tryd.func15, Tryd.ntmps15
  obtain ⟨W, hW⟩ : ∃ W, W = (w.alloc (.cells #[.slice ga gs.length gc, .slice fa fs.length fc] 25)).alloc (.cells #[.int .i64 0, .int .i64 0] 28) := ⟨_, rfl⟩
  have hbW : Below w.heap.size w W := by rw [hW]; (repeat (first | exact Below.refl _ _ | refine Below.alloc ?_ (by first | omega | (simp <;> omega)) _ | refine Below.setCell ?_ (by first | omega | (simp <;> omega)) _ | refine below_drewN ?_ _ | refine Below.drew ?_))
  have HbW := hid hbW
  have W0 : Hid (W.cell? ⟨w.heap.size, 0, none⟩ = some (.slice ga gs.length gc)) := by show _ = _; rw [hW]; simp
  have W1 : Hid (W.cell? ⟨w.heap.size, 1, none⟩ = some (.slice fa fs.length fc)) := by show _ = _; rw [hW]; simp
  have R0 : Hid (W.cell? ⟨w.heap.size + 1, 0, none⟩ = some (.int .i64 0)) := by show _ = _; rw [hW]; simp
  have R1 : Hid (W.cell? ⟨w.heap.size + 1, 1, none⟩ = some (.int .i64 0)) := by show _ = _; rw [hW]; simp
  have F0 : Hid (W.frozen? ⟨w.heap.size + 1, 0, none⟩ = false) := by show _ = _; rw [hW]; simp
  have F1 : Hid (W.frozen? ⟨w.heap.size + 1, 1, none⟩ = false) := by show _ = _; rw [hW]; simp
  have hWs : W.heap.size = w.heap.size + 2 := by rw [hW]; simp
  go_wp2_with fail
  rw [← hW]
  have hwW : Ways W := Ways.below Hw.out hbW
  refine (check_any (S := S) ga gc fa fc gs fs W (Hg.out.later rGlobal_mono hbW) (Hf.out.later rFunc_mono hbW) hwW hgl hfl Hsm.out).mono ?_
  rintro e w1 ⟨rfl, hb1⟩
  have Hb1 := hid hb1
  have g0 := cell_later' W0.out hb1
  have g1 := cell_later' W1.out hb1
  have g2 := cell_later' R0.out hb1
  have g3 := cell_later' R1.out hb1
  have k2 := (hb1.frozen (p := ⟨w.heap.size + 1, 0, none⟩) (by simp; omega)).trans F0.out
  have k3 := (hb1.frozen (p := ⟨w.heap.size + 1, 1, none⟩) (by simp; omega)).trans F1.out
  have z1 : w.heap.size + 1 < w1.heap.size := cell_lt g2
  have z0 : w.heap.size < w1.heap.size := cell_lt g0
  obtain ⟨c, hc⟩ : ∃ c, c = (checkF ⟨gs, fs⟩).1 := ⟨_, rfl⟩
  obtain ⟨d, hd⟩ : ∃ d, d = (checkF ⟨gs, fs⟩).2 := ⟨_, rfl⟩
  have Hc := hid hc
  have Hd := hid hd
  have Hcd : Hid (checkF ⟨gs, fs⟩ = (c, d)) := by show _ = _; rw [hc, hd]
  rw [← hc, ← hd]
  have Hw1 : Hid (Below w.heap.size w w1) := HbW.out.trans (hb1.mono (by omega))
  clear hb1 hW hbW hc hd hwW
  by_cases hok : c = 0 ∧ d = 0
  · obtain ⟨rfl, rfl⟩ := hok
    by_cases hk0 : k < 0
    · have hq : decide (k < 0) = true := decide_eq_true hk0
      have Hr : Hid (layS ⟨gs, fs⟩ k C = ([], 3, -1)) := by
        show _ = _
        unfold layS
        rw [Hcd.out, if_neg (by simp), if_pos hk0]
      go_wp2_with fail
      have q := set_two (u := .int .i64 (3)) (v := .int .i64 (-1)) g2 g3
      rw [Hr.out]
      refine bodyPost_ret (res_lay rfl rfl rfl (c := 3) (a := -1) ?_ ?_) rfl ⟨_, rfl, sl_none, ?_⟩
      · first | exact q.1 | (rw [World.cell?_alloc_past _ _ _ (by simp; omega)]; exact q.1)
      · first | exact q.2 | (rw [World.cell?_alloc_past _ _ _ (by simp; omega)]; exact q.2)
      · have h := Hw1.out; (repeat (first | exact Below.refl _ _ | exact (h).mono (by first | omega | (simp <;> omega) | (have hh := (h).size; (try simp at hh); omega) | (have hh := (h).size; (try simp at hh); (try simp); omega)) | refine Below.trans ?_ ((h).mono (by first | omega | (simp <;> omega) | (have hh := (h).size; (try simp at hh); omega) | (have hh := (h).size; (try simp at hh); (try simp); omega))) | refine Below.alloc ?_ (by first | omega | (simp <;> omega) | (have hh := (h).size; (try simp at hh); omega) | (have hh := (h).size; (try simp at hh); (try simp); omega)) _ | refine Below.setCell ?_ (by first | omega | (simp <;> omega) | (have hh := (h).size; (try simp at hh); omega) | (have hh := (h).size; (try simp at hh); (try simp); omega)) _ | refine below_drewN ?_ _ | refine Below.drew ?_))
    · have hq : decide (k < 0) = false := decide_eq_false hk0
      by_cases hkn : k.toNat < fs.length
      · obtain ⟨kk, rfl⟩ := Int.eq_ofNat_of_zero_le (by omega : 0 ≤ k)
        rw [Int.toNat_natCast] at hkn
        obtain ⟨b, off, cs, rfl, -, hx, -, hcs⟩ := Hf.out.get hkn
        obtain ⟨xa, xc, rfl, hxb, -, -, -⟩ := hx.opens
        obtain ⟨c0, c1, c2, c3⟩ := (hcs.later Hw1.out).get4
        obtain ⟨n1, n2, n3⟩ := checkF_func (u := ⟨gs, fs⟩) (k := kk) (f := fs[kk]) (by rw [Hcd.out]) (List.getElem?_eq_getElem hkn)
        have N3 := hid n3
        have Hxb := hid hxb
        have hb9 : b < w1.heap.size := cell_lt c3
        clear hcs hx n3 hxb
        by_cases hlen : C.length = fs[kk].blocks.length
        · have hq3 : C.length = fs[kk].blocks.length := hlen
          have Hr : Hid (layS ⟨gs, fs⟩ (kk : Int) C = ((layF fs[kk].blocks (cntOf C)).map fun b : Nat => (b : Int), 0, 0)) := by
            show _ = _
            unfold layS
            rw [Hcd.out, if_neg (by simp), if_neg hk0]
            dsimp only
            rw [Int.toNat_natCast, List.getElem?_eq_getElem hkn]
            dsimp only
            rw [if_neg (by simpa using hlen)]
          go_wp2_with fail
          refine (lay_any' _ _ _ xa xc fs[kk].blocks ca cc C _ _ (Hxb.out.later rBlock_mono ?_) (HC.out.later rInt_mono ?_) (by omega) (by omega) rfl hlen ?_).mono ?_
          · have h := Hw1.out; (repeat (first | exact Below.refl _ _ | exact (h).mono (by first | omega | (simp <;> omega) | (have hh := (h).size; (try simp at hh); omega) | (have hh := (h).size; (try simp at hh); (try simp); omega)) | refine Below.trans ?_ ((h).mono (by first | omega | (simp <;> omega) | (have hh := (h).size; (try simp at hh); omega) | (have hh := (h).size; (try simp at hh); (try simp); omega))) | refine Below.alloc ?_ (by first | omega | (simp <;> omega) | (have hh := (h).size; (try simp at hh); omega) | (have hh := (h).size; (try simp at hh); (try simp); omega)) _ | refine Below.setCell ?_ (by first | omega | (simp <;> omega) | (have hh := (h).size; (try simp at hh); omega) | (have hh := (h).size; (try simp at hh); (try simp); omega)) _ | refine below_drewN ?_ _ | refine Below.drew ?_))
          · have h := Hw1.out; (repeat (first | exact Below.refl _ _ | exact (h).mono (by first | omega | (simp <;> omega) | (have hh := (h).size; (try simp at hh); omega) | (have hh := (h).size; (try simp at hh); (try simp); omega)) | refine Below.trans ?_ ((h).mono (by first | omega | (simp <;> omega) | (have hh := (h).size; (try simp at hh); omega) | (have hh := (h).size; (try simp at hh); (try simp); omega))) | refine Below.alloc ?_ (by first | omega | (simp <;> omega) | (have hh := (h).size; (try simp at hh); omega) | (have hh := (h).size; (try simp at hh); (try simp); omega)) _ | refine Below.setCell ?_ (by first | omega | (simp <;> omega) | (have hh := (h).size; (try simp at hh); omega) | (have hh := (h).size; (try simp at hh); (try simp); omega)) _ | refine below_drewN ?_ _ | refine Below.drew ?_))
          · intro i x hx t ht
            have h := endE_ok (N3.out i x hx)
            have := h.2.2.2.1 t ht
            omega
          · rintro e w2 ⟨v, rfl, hv, hb2⟩
            have hq2 : Below w1.heap.size w1 w2 := by (repeat (first | exact Below.refl _ _ | exact (hb2).mono (by first | omega | (simp <;> omega) | (have hh := (hb2).size; (try simp at hh); omega) | (have hh := (hb2).size; (try simp at hh); (try simp); omega)) | refine Below.trans ?_ ((hb2).mono (by first | omega | (simp <;> omega) | (have hh := (hb2).size; (try simp at hh); omega) | (have hh := (hb2).size; (try simp at hh); (try simp); omega))) | refine Below.alloc ?_ (by first | omega | (simp <;> omega) | (have hh := (hb2).size; (try simp at hh); omega) | (have hh := (hb2).size; (try simp at hh); (try simp); omega)) _ | refine Below.setCell ?_ (by first | omega | (simp <;> omega) | (have hh := (hb2).size; (try simp at hh); omega) | (have hh := (hb2).size; (try simp at hh); (try simp); omega)) _ | refine below_drewN ?_ _ | refine Below.drew ?_))
            have g4 := cell_later' g2 hq2
            have g5 := cell_later' g3 hq2
            have k4 := (hq2.frozen (p := ⟨w.heap.size + 1, 0, none⟩) z1).trans k2
            have k5 := (hq2.frozen (p := ⟨w.heap.size + 1, 1, none⟩) z1).trans k3
            have Hv := hid hv
            have Hq2 := hid hq2
            clear hv hq2 hb2
            go_wp2_with fail
            have q := set_two (u := .int .i64 0) (v := .int .i64 0) g4 g5
            rw [Hr.out]
            refine bodyPost_ret (res_lay rfl rfl rfl (c := 0) (a := 0) q.1 q.2) rfl ⟨_, rfl, ?_, ?_⟩
            · refine Hv.out.mono rInt_mono (fun b hb => ?_) ((stays_set _ ?_).trans (stays_set _ ?_))
              · simp at hb; omega
              · intro b hb; simp at hb; simp; omega
              · intro b hb; simp at hb; simp; omega
            · have h := Hw1.out; have h2 := Hq2.out; (repeat (first | exact Below.refl _ _ | exact (h2).mono (by first | omega | (simp <;> omega) | (have hh := (h2).size; (try simp at hh); omega) | (have hh := (h2).size; (try simp at hh); (try simp); omega) | (have hh := (h).size; (try simp at hh); omega) | (have hh := (h).size; (try simp at hh); (try simp); omega)) | refine Below.trans ?_ ((h2).mono (by first | omega | (simp <;> omega) | (have hh := (h2).size; (try simp at hh); omega) | (have hh := (h2).size; (try simp at hh); (try simp); omega) | (have hh := (h).size; (try simp at hh); omega) | (have hh := (h).size; (try simp at hh); (try simp); omega))) | exact (h).mono (by first | omega | (simp <;> omega) | (have hh := (h2).size; (try simp at hh); omega) | (have hh := (h2).size; (try simp at hh); (try simp); omega) | (have hh := (h).size; (try simp at hh); omega) | (have hh := (h).size; (try simp at hh); (try simp); omega)) | refine Below.trans ?_ ((h).mono (by first | omega | (simp <;> omega) | (have hh := (h2).size; (try simp at hh); omega) | (have hh := (h2).size; (try simp at hh); (try simp); omega) | (have hh := (h).size; (try simp at hh); omega) | (have hh := (h).size; (try simp at hh); (try simp); omega))) | refine Below.alloc ?_ (by first | omega | (simp <;> omega) | (have hh := (h2).size; (try simp at hh); omega) | (have hh := (h2).size; (try simp at hh); (try simp); omega) | (have hh := (h).size; (try simp at hh); omega) | (have hh := (h).size; (try simp at hh); (try simp); omega)) _ | refine Below.setCell ?_ (by first | omega | (simp <;> omega) | (have hh := (h2).size; (try simp at hh); omega) | (have hh := (h2).size; (try simp at hh); (try simp); omega) | (have hh := (h).size; (try simp at hh); omega) | (have hh := (h).size; (try simp at hh); (try simp); omega)) _ | refine below_drewN ?_ _ | refine Below.drew ?_))
        · have Hr : Hid (layS ⟨gs, fs⟩ (kk : Int) C = ([], 9, -1)) := by
            show _ = _
            unfold layS
            rw [Hcd.out, if_neg (by simp), if_neg hk0]
            dsimp only
            rw [Int.toNat_natCast, List.getElem?_eq_getElem hkn]
            dsimp only
            rw [if_pos hlen]
          go_wp2_with fail
          have q := set_two (u := .int .i64 (9)) (v := .int .i64 (-1)) g2 g3
          rw [Hr.out]
          refine bodyPost_ret (res_lay rfl rfl rfl (c := 9) (a := -1) ?_ ?_) rfl ⟨_, rfl, sl_none, ?_⟩
          · first | exact q.1 | (rw [World.cell?_alloc_past _ _ _ (by simp; omega)]; exact q.1)
          · first | exact q.2 | (rw [World.cell?_alloc_past _ _ _ (by simp; omega)]; exact q.2)
          · have h := Hw1.out; (repeat (first | exact Below.refl _ _ | exact (h).mono (by first | omega | (simp <;> omega) | (have hh := (h).size; (try simp at hh); omega) | (have hh := (h).size; (try simp at hh); (try simp); omega)) | refine Below.trans ?_ ((h).mono (by first | omega | (simp <;> omega) | (have hh := (h).size; (try simp at hh); omega) | (have hh := (h).size; (try simp at hh); (try simp); omega))) | refine Below.alloc ?_ (by first | omega | (simp <;> omega) | (have hh := (h).size; (try simp at hh); omega) | (have hh := (h).size; (try simp at hh); (try simp); omega)) _ | refine Below.setCell ?_ (by first | omega | (simp <;> omega) | (have hh := (h).size; (try simp at hh); omega) | (have hh := (h).size; (try simp at hh); (try simp); omega)) _ | refine below_drewN ?_ _ | refine Below.drew ?_))
      · have hq2 : decide (k < (fs.length : Int)) = false := decide_eq_false (by omega)
        have Hr : Hid (layS ⟨gs, fs⟩ k C = ([], 3, -1)) := by
          show _ = _
          unfold layS
          rw [Hcd.out, if_neg (by simp), if_neg hk0]
          dsimp only
          rw [List.getElem?_eq_none (by omega)]
        go_wp2_with fail
        have q := set_two (u := .int .i64 (3)) (v := .int .i64 (-1)) g2 g3
        rw [Hr.out]
        refine bodyPost_ret (res_lay rfl rfl rfl (c := 3) (a := -1) ?_ ?_) rfl ⟨_, rfl, sl_none, ?_⟩
        · first | exact q.1 | (rw [World.cell?_alloc_past _ _ _ (by simp; omega)]; exact q.1)
        · first | exact q.2 | (rw [World.cell?_alloc_past _ _ _ (by simp; omega)]; exact q.2)
        · have h := Hw1.out; (repeat (first | exact Below.refl _ _ | exact (h).mono (by first | omega | (simp <;> omega) | (have hh := (h).size; (try simp at hh); omega) | (have hh := (h).size; (try simp at hh); (try simp); omega)) | refine Below.trans ?_ ((h).mono (by first | omega | (simp <;> omega) | (have hh := (h).size; (try simp at hh); omega) | (have hh := (h).size; (try simp at hh); (try simp); omega))) | refine Below.alloc ?_ (by first | omega | (simp <;> omega) | (have hh := (h).size; (try simp at hh); omega) | (have hh := (h).size; (try simp at hh); (try simp); omega)) _ | refine Below.setCell ?_ (by first | omega | (simp <;> omega) | (have hh := (h).size; (try simp at hh); omega) | (have hh := (h).size; (try simp at hh); (try simp); omega)) _ | refine below_drewN ?_ _ | refine Below.drew ?_))
  · have hq : ((decide (c < 0) || decide (0 < c)) || (decide (d < 0) || decide (0 < d))) = true := by
      rw [Bool.eq_iff_iff]; simp; omega
    have Hr : Hid (layS ⟨gs, fs⟩ k C = ([], c, d)) := by
      show _ = _
      unfold layS
      rw [Hcd.out, if_pos (fun e => hok ⟨congrArg Prod.fst e, congrArg Prod.snd e⟩)]
    go_wp2_with fail
    go_big_region
    all_goals go_wp2_with fail
    all_goals (
      have q := set_two (u := .int .i64 c) (v := .int .i64 d) g2 g3
      rw [Hr.out]
      refine bodyPost_ret (res_lay rfl rfl rfl (c := c) (a := d) ?_ ?_) rfl ⟨_, rfl, sl_none, ?_⟩
      · first | exact q.1 | (show (World.alloc _ _).cell? _ = _; rw [World.cell?_alloc_past _ _ _ (by simp [World.setCell]; omega)]; exact q.1)
      · first | exact q.2 | (show (World.alloc _ _).cell? _ = _; rw [World.cell?_alloc_past _ _ _ (by simp [World.setCell]; omega)]; exact q.2)
      · have h := Hw1.out; (repeat (first | exact Below.refl _ _ | exact (h).mono (by first | omega | (simp <;> omega) | (have hh := (h).size; (try simp at hh); omega) | (have hh := (h).size; (try simp at hh); (try simp); omega)) | refine Below.trans ?_ ((h).mono (by first | omega | (simp <;> omega) | (have hh := (h).size; (try simp at hh); omega) | (have hh := (h).size; (try simp at hh); (try simp); omega))) | refine Below.alloc ?_ (by first | omega | (simp <;> omega) | (have hh := (h).size; (try simp at hh); omega) | (have hh := (h).size; (try simp at hh); (try simp); omega)) _ | refine Below.setCell ?_ (by first | omega | (simp <;> omega) | (have hh := (h).size; (try simp at hh); omega) | (have hh := (h).size; (try simp at hh); (try simp); omega)) _ | refine below_drewN ?_ _ | refine Below.drew ?_)))

end Go.Proofs.YtaehkcnankijfaaDoor
