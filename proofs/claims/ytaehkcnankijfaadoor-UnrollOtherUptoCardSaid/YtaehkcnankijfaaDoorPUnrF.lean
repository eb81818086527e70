/- code.Ahead of a unit in its form; turnerylaw6.weighFits. turnerylaw6.weighFits: are there as many counts as blocks? unroll.find: is a block a loop of its own? -/
import Derived.Test.YtaehkcnankijfaaDoorPRound
import Derived.Test.YtaehkcnankijfaaDoorPGAhd
import Derived.Test.YtaehkcnankijfaaDoorPCopy
import Derived.Test.YtaehkcnankijfaaDoorPWrite
import Derived.BigQuiet
import Derived.Test.YtaehkcnankijfaaDoorPUnrQ
import Derived.Test.YtaehkcnankijfaaDoorPRowB
namespace Go.Proofs.YtaehkcnankijfaaDoor
open Go.RowKit

theorem ahead_any' {S : Nat → Prop} (nm : ByteArray) (p r : Int) (ba : Option Addr) (bc : Nat) (bs : List DBlock) (n : Nat) (w : World) (hb : SlAt S w 6 rBlock (.slice ba n bc) bs) (hbn : bs.length = n) (hn : n ≤ 1048576)
    (hto : ∀ (k : Nat) (x : DBlock), bs[k]? = some x → x.fin.to.length ≤ 2 ∧ ∀ t ∈ x.fin.to, 0 ≤ t ∧ t < (bs.length : Int)) :
    Calls Tryd.prog 76 #[.agg #[.string nm, .int .i64 p, .int .i64 r, .slice ba n bc]] w fun e w' =>
      ∃ a c, e = .returned (.slice a n c) ∧ SlAt (fun b => w.heap.size ≤ b) w' 1 rRow (.slice a n c) (aheadF bs) ∧ Below w.heap.size w w' := by
  subst hbn
  refine (ahead_any nm p r ba bc bs w hb hn hto).mono ?_
  rintro e w' ⟨v, rfl, hv, hb⟩
  obtain ⟨a, c, rfl⟩ := sl_len hv
  have hl : (aheadF bs).length = bs.length := by unfold aheadF; simp
  rw [hl] at hv ⊢
  exact ⟨a, c, rfl, hv, hb⟩

theorem res_ahead {fn : Func} (hfn : fn.results = #[.tmp 4, .cell 5 28]) {tmps : Array Value} {b : Nat} {v : Value} (hv : tmps.getD 4 undef = v) (ht : tmps.getD 5 undef = .pointer (some ⟨b, 0, none⟩)) {c a : Int} {W : World}
    (h0 : W.cell? ⟨b, 0, none⟩ = some (.int .i64 c)) (h1 : W.cell? ⟨b, 1, none⟩ = some (.int .i64 a)) : (results fn tmps).run Tryd.prog W = .ok (.tuple #[v, .agg #[.int .i64 c, .int .i64 a]]) W := by
  simp only [Array.getD_eq_getD_getElem?] at ht hv
  simp [results, hfn, ht, hv, go_sem, h0, h1]

set_option maxRecDepth 100000 in
set_option maxHeartbeats 2000000 in
theorem Ahead_ok {S : Nat → Prop} (ga : Option Addr) (gc : Nat) (fa : Option Addr) (fc : Nat) (gs : List DGlobal) (fs : List DFunc) (kk : Nat) (w : World)
    (hg : SlAt S w 3 rGlobal (.slice ga gs.length gc) gs) (hf : SlAt S w 4 rFunc (.slice fa fs.length fc) fs) (hw : Ways w)
    (hgl : gs.length ≤ 1048576) (hfl : fs.length ≤ 1048576) (hsm : ∀ (k : Nat) (f : DFunc), fs[k]? = some f → manyOf f.blocks ≤ 1048576 ∧ f.blocks.length ≤ 1048576)
    (hck : checkF ⟨gs, fs⟩ = (0, 0)) (hkn : kk < fs.length) :
    Calls Tryd.prog 51 #[.agg #[.slice ga gs.length gc, .slice fa fs.length fc], .int .i64 kk] w fun e w' =>
      ∃ a c, e = .returned (.tuple #[.slice a fs[kk].blocks.length c, .agg #[.int .i64 0, .int .i64 0]]) ∧ SlAt (fun b => w.heap.size ≤ b) w' 1 rRow (.slice a fs[kk].blocks.length c) (aheadF fs[kk].blocks) ∧ Below w.heap.size w w' := by
  have Hg := hid hg
  have Hf := hid hf
  have Hw := hid hw
  have Hsm := hid hsm
  have Hck := hid hck
  clear hg hf hw hsm hck
  go_enter Tryd.func51, Tryd.ntmps51
  obtain ⟨W, hW⟩ : ∃ W, W = (w.alloc (.cells #[.slice ga gs.length gc, .slice fa fs.length fc] 25)).alloc (.cells #[.int .i64 0, .int .i64 0] 28) := ⟨_, rfl⟩
  have hbW : Below w.heap.size w W := by rw [hW]; (repeat (first | exact Below.refl _ _ | refine Below.alloc ?_ (by first | omega | (simp <;> omega)) _ | refine Below.setCell ?_ (by first | omega | (simp <;> omega)) _ | refine below_drewN ?_ _ | refine Below.drew ?_))
  have HbW := hid hbW
  have W0 : Hid (W.cell? ⟨w.heap.size, 0, none⟩ = some (.slice ga gs.length gc)) := by show _ = _; rw [hW]; simp
  have W1 : Hid (W.cell? ⟨w.heap.size, 1, none⟩ = some (.slice fa fs.length fc)) := by show _ = _; rw [hW]; simp
  have R0 : Hid (W.cell? ⟨w.heap.size + 1, 0, none⟩ = some (.int .i64 0)) := by show _ = _; rw [hW]; simp
  have R1 : Hid (W.cell? ⟨w.heap.size + 1, 1, none⟩ = some (.int .i64 0)) := by show _ = _; rw [hW]; simp
  have F0 : Hid (W.frozen? ⟨w.heap.size + 1, 0, none⟩ = false) := by show _ = _; rw [hW]; simp
  have F1 : Hid (W.frozen? ⟨w.heap.size + 1, 1, none⟩ = false) := by show _ = _; rw [hW]; simp
  have hWs : W.heap.size = w.heap.size + 2 := by rw [hW]; simp
  go_wp2_with fail
  rw [← hW]
  have hwW : Ways W := Ways.below Hw.out hbW
  refine (check_any (S := S) ga gc fa fc gs fs W (Hg.out.later rGlobal_mono hbW) (Hf.out.later rFunc_mono hbW) hwW hgl hfl Hsm.out).mono ?_
  rintro e w1 ⟨rfl, hb1⟩
  have g0 := cell_later' W0.out hb1
  have g1 := cell_later' W1.out hb1
  have g2 := cell_later' R0.out hb1
  have g3 := cell_later' R1.out hb1
  have k2 := (hb1.frozen (p := ⟨w.heap.size + 1, 0, none⟩) (by simp; omega)).trans F0.out
  have k3 := (hb1.frozen (p := ⟨w.heap.size + 1, 1, none⟩) (by simp; omega)).trans F1.out
  have z1 : w.heap.size + 1 < w1.heap.size := cell_lt g2
  have z0 : w.heap.size < w1.heap.size := cell_lt g0
  rw [Hck.out]
  have Hw1 : Hid (Below w.heap.size w w1) := HbW.out.trans (hb1.mono (by omega))
  clear hb1 hW hbW hwW
  obtain ⟨b, off, xa, xc, rfl, hcs, hxb, -, -⟩ := func_at Hf.out hkn
  obtain ⟨c0, c1, c2, c3⟩ := (hcs.later Hw1.out).get4
  obtain ⟨n1, n2, n3⟩ := checkF_func (u := ⟨gs, fs⟩) (k := kk) (f := fs[kk]) (by rw [Hck.out]) (List.getElem?_eq_getElem hkn)
  have N3 := hid n3
  have Hxb := hid hxb
  have hb9 : b < w1.heap.size := cell_lt c3
  have hwi : decide ((0 : Int) ≤ (kk : Int) ∧ (kk : Int) ≤ (fs.length : Int) - 1) = true := decide_eq_true ⟨by omega, by omega⟩
  clear hcs n3 hxb
  go_wp2_with (first
    | (go_at_call 40; ((with_reducible refine (within_any _ _ _ _).mono ?_); rintro e w' ⟨rfl, rfl⟩; rw [hwi])))
  refine (ahead_any' _ _ _ xa xc fs[kk].blocks _ _ (Hxb.out.later rBlock_mono ?_) rfl (by omega) ?_).mono ?_
  · have h := Hw1.out; (repeat (first | exact Below.refl _ _ | exact (h).mono (by first | omega | (simp <;> omega) | (have hh := (h).size; (try simp at hh); omega) | (have hh := (h).size; (try simp at hh); (try simp); omega)) | refine Below.trans ?_ ((h).mono (by first | omega | (simp <;> omega) | (have hh := (h).size; (try simp at hh); omega) | (have hh := (h).size; (try simp at hh); (try simp); omega))) | refine Below.alloc ?_ (by first | omega | (simp <;> omega) | (have hh := (h).size; (try simp at hh); omega) | (have hh := (h).size; (try simp at hh); (try simp); omega)) _ | refine Below.setCell ?_ (by first | omega | (simp <;> omega) | (have hh := (h).size; (try simp at hh); omega) | (have hh := (h).size; (try simp at hh); (try simp); omega)) _ | refine below_drewN ?_ _ | refine Below.drew ?_))
  · intro i x hx
    have h := endE_ok (N3.out i x hx)
    refine ⟨by omega, fun t ht => ?_⟩
    have := h.2.2.2.1 t ht
    omega
  · rintro e w2 ⟨a, c, rfl, hv, hb2⟩
    have hq2 : Below w1.heap.size w1 w2 := by (repeat (first | exact Below.refl _ _ | exact (hb2).mono (by first | omega | (simp <;> omega) | (have hh := (hb2).size; (try simp at hh); omega) | (have hh := (hb2).size; (try simp at hh); (try simp); omega)) | refine Below.trans ?_ ((hb2).mono (by first | omega | (simp <;> omega) | (have hh := (hb2).size; (try simp at hh); omega) | (have hh := (hb2).size; (try simp at hh); (try simp); omega))) | refine Below.alloc ?_ (by first | omega | (simp <;> omega) | (have hh := (hb2).size; (try simp at hh); omega) | (have hh := (hb2).size; (try simp at hh); (try simp); omega)) _ | refine Below.setCell ?_ (by first | omega | (simp <;> omega) | (have hh := (hb2).size; (try simp at hh); omega) | (have hh := (hb2).size; (try simp at hh); (try simp); omega)) _ | refine below_drewN ?_ _ | refine Below.drew ?_))
    have g4 := cell_later' g2 hq2
    have g5 := cell_later' g3 hq2
    have k4 := (hq2.frozen (p := ⟨w.heap.size + 1, 0, none⟩) z1).trans k2
    have k5 := (hq2.frozen (p := ⟨w.heap.size + 1, 1, none⟩) z1).trans k3
    have Hv := hid hv
    have Hq2 := hid hq2
    clear hv hq2 hb2
    go_wp2_with fail
    have q := set_two (u := .int .i64 0) (v := .int .i64 0) g4 g5
    refine bodyPost_ret (res_ahead rfl rfl rfl (c := 0) (a := 0) q.1 q.2) rfl ⟨_, _, rfl, ?_, ?_⟩
    · refine Hv.out.mono rRow_mono (fun b hb => ?_) ((stays_set _ ?_).trans (stays_set _ ?_))
      · simp at hb; omega
      · intro b hb; simp at hb; simp; omega
      · intro b hb; simp at hb; simp; omega
    · have h := Hw1.out; have h2 := Hq2.out; (repeat (first | exact Below.refl _ _ | exact (h2).mono (by first | omega | (simp <;> omega) | (have hh := (h2).size; (try simp at hh); omega) | (have hh := (h2).size; (try simp at hh); (try simp); omega) | (have hh := (h).size; (try simp at hh); omega) | (have hh := (h).size; (try simp at hh); (try simp); omega)) | refine Below.trans ?_ ((h2).mono (by first | omega | (simp <;> omega) | (have hh := (h2).size; (try simp at hh); omega) | (have hh := (h2).size; (try simp at hh); (try simp); omega) | (have hh := (h).size; (try simp at hh); omega) | (have hh := (h).size; (try simp at hh); (try simp); omega))) | exact (h).mono (by first | omega | (simp <;> omega) | (have hh := (h2).size; (try simp at hh); omega) | (have hh := (h2).size; (try simp at hh); (try simp); omega) | (have hh := (h).size; (try simp at hh); omega) | (have hh := (h).size; (try simp at hh); (try simp); omega)) | refine Below.trans ?_ ((h).mono (by first | omega | (simp <;> omega) | (have hh := (h2).size; (try simp at hh); omega) | (have hh := (h2).size; (try simp at hh); (try simp); omega) | (have hh := (h).size; (try simp at hh); omega) | (have hh := (h).size; (try simp at hh); (try simp); omega))) | refine Below.alloc ?_ (by first | omega | (simp <;> omega) | (have hh := (h2).size; (try simp at hh); omega) | (have hh := (h2).size; (try simp at hh); (try simp); omega) | (have hh := (h).size; (try simp at hh); omega) | (have hh := (h).size; (try simp at hh); (try simp); omega)) _ | refine Below.setCell ?_ (by first | omega | (simp <;> omega) | (have hh := (h2).size; (try simp at hh); omega) | (have hh := (h2).size; (try simp at hh); (try simp); omega) | (have hh := (h).size; (try simp at hh); omega) | (have hh := (h).size; (try simp at hh); (try simp); omega)) _ | refine below_drewN ?_ _ | refine Below.drew ?_))

end Go.Proofs.YtaehkcnankijfaaDoor

namespace Go.Proofs.YtaehkcnankijfaaDoor
open Go.RowKit

theorem rows_at {S : Nat → Prop} {w : World} {a : Option Addr} {n c : Nat} {l : List (List Int)} (h : SlAt S w 1 rRow (.slice a n c) l) {t : Nat} (ht : t < l.length) : ∃ b off ra rc, a = some ⟨b, off, none⟩ ∧ w.cell? ⟨b, off + t, none⟩ = some (.slice ra l[t].length rc) ∧ SlAt S w 1 rInt (.slice ra l[t].length rc) l[t] := by
  obtain ⟨b, off, cs, ha, -, ⟨v, rfl, hv⟩, -, hcs⟩ := h.get ht
  have d := hcs.get1
  rw [Nat.mul_one] at d
  obtain ⟨ra, rc, rfl, -⟩ := hv.val
  exact ⟨b, off, ra, rc, ha, d, hv⟩

end Go.Proofs.YtaehkcnankijfaaDoor

namespace Go.Proofs.YtaehkcnankijfaaDoor
open Go.RowKit

theorem res_find {fn : Func} (hfn : fn.results = #[.cell 6 117, .tmp 7]) {tmps : Array Value} {b : Nat} {v : Value} (hv : tmps.getD 7 undef = v) (ht : tmps.getD 6 undef = .pointer (some ⟨b, 0, none⟩)) {x y z : Int} {W : World}
    (h0 : W.cell? ⟨b, 0, none⟩ = some (.int .i64 x)) (h1 : W.cell? ⟨b, 1, none⟩ = some (.int .i64 y)) (h2 : W.cell? ⟨b, 2, none⟩ = some (.int .i64 z)) : (results fn tmps).run Tryd.prog W = .ok (.tuple #[.agg #[.int .i64 x, .int .i64 y, .int .i64 z], v]) W := by
  simp only [Array.getD_eq_getD_getElem?] at ht hv
  simp [results, hfn, ht, hv, go_sem, h0, h1, h2]
theorem heap_three (w : World) (a b c : Obj) : (((w.alloc a).alloc b).alloc c).heap.size = w.heap.size + 3 ∧ (((w.alloc a).alloc b).alloc c).heap[w.heap.size]? = some a ∧ (((w.alloc a).alloc b).alloc c).heap[w.heap.size + 1]? = some b ∧ (((w.alloc a).alloc b).alloc c).heap[w.heap.size + 1 + 1]? = some c := by
  have hs : ∀ (v : World) (o : Obj), (v.alloc o).heap.size = v.heap.size + 1 := fun v o => by simp
  have s1 := hs w a
  have s2 := hs (w.alloc a) b
  have s3 := hs ((w.alloc a).alloc b) c
  have e1 := heap_alloc_new w a
  have e2 := heap_alloc_new (w.alloc a) b
  have e3 := heap_alloc_new ((w.alloc a).alloc b) c
  rw [s1] at e2
  rw [s2, s1] at e3
  refine ⟨by omega, ?_, ?_, e3⟩
  · rw [Below.heap_alloc _ _ _ (by omega), Below.heap_alloc _ _ _ (by omega)]; exact e1
  · rw [Below.heap_alloc _ _ _ (by omega)]; exact e2
theorem has_mem {l : List Int} {s : Int} : hasInt l s = true ↔ s ∈ l := by
  unfold hasInt idxInt
  cases h : l.findIdx? (fun x => decide (s = x)) with
  | none =>
    rw [List.findIdx?_eq_none_iff] at h
    simp only [decide_eq_true_eq]
    refine ⟨fun h => by omega, fun hm => ?_⟩
    have := h s hm
    simp at this
  | some k =>
    rw [List.findIdx?_eq_some_iff_getElem] at h
    obtain ⟨h1, h2, -⟩ := h
    simp only [decide_eq_true_eq] at h2 ⊢
    exact ⟨fun _ => by rw [h2]; exact List.getElem_mem _, fun _ => by omega⟩
theorem idx_two {l : List Int} {s : Int} (h2 : l.length = 2) (hm : s ∈ l) : idxInt l s = if l.getD 0 0 = s then 0 else 1 := by
  match l, h2 with
  | [x, y], _ =>
    simp only [List.mem_cons, List.not_mem_nil, or_false] at hm
    unfold idxInt
    by_cases h : x = s
    · subst h; simp [List.findIdx?_cons]
    · have hy : s = y := by
        rcases hm with h1 | h1
        · exact absurd h1.symm h
        · exact h1
      subst hy
      have h' : ¬ s = x := fun e => h e.symm
      simp [List.findIdx?_cons, h, h']

def FindPost (bs : List DBlock) (b : Nat) (w : World) (e : Ending) (w' : World) : Prop := ∃ x y z : Int, e = .returned (.tuple #[.agg #[.int .i64 x, .int .i64 y, .int .i64 z], .bool (selfF bs b).isSome]) ∧ (∀ k, selfF bs b = some k → x = (k : Int) ∧ y = ((1 - k : Nat) : Int)) ∧ Below w.heap.size w w'

set_option maxRecDepth 100000 in
set_option maxHeartbeats 4000000 in
theorem find_any {S S' : Nat → Prop} (nm : ByteArray) (ba : Option Addr) (bc : Nat) (f : DFunc) (aa : Option Addr) (ac : Nat) (b : Nat) (w : World) (hf : FnOk f) (hbl : b < f.blocks.length)
    (hb : SlAt S w 6 rBlock (.slice ba f.blocks.length bc) f.blocks) (ha : SlAt S' w 1 rRow (.slice aa f.blocks.length ac) (aheadF f.blocks)) :
    Calls Tryd.prog 63 #[.agg #[.string nm, .int .i64 f.params, .int .i64 f.regs, .slice ba f.blocks.length bc], .slice aa f.blocks.length ac, .int .i64 (b : Int)] w fun e w' =>
      FindPost f.blocks b w e w' := by
  have hbl40 := hf.len.2
  obtain ⟨x, hx⟩ : ∃ x, x = f.blocks[b] := ⟨_, rfl⟩
  have hxg : f.blocks[b]? = some x := by rw [hx]; exact List.getElem?_eq_getElem hbl
  obtain ⟨xb, xoff, pa, pc, lad, lc, ta, tc, hbae, hcs, -, -, hts, -, -⟩ := block_at hb hbl
  subst hbae
  have hal : (aheadF f.blocks).length = f.blocks.length := by unfold aheadF; simp
  obtain ⟨rb, roff, ra, rc, hrae, r0, hrow⟩ := rows_at ha (t := b) (by rw [hal]; exact hbl)
  subst hrae
  have hpe : (aheadF f.blocks)[b]'(by rw [hal]; exact hbl) = predsOf f.blocks 0 b := by
    have h := aheadF_getD hbl
    rw [List.getD_eq_getElem?_getD, List.getElem?_eq_getElem (by rw [hal]; exact hbl)] at h
    exact h
  rw [hpe] at r0 hrow
  rw [← hx] at hcs hts
  obtain ⟨-, -, d2, d3, d4, d5⟩ := hcs.get6
  have hkd := hf.kind b x hxg
  have hpl : (predsOf f.blocks 0 b).length ≤ 2 * f.blocks.length := predsOf_len b f.blocks 0 (fun y hy => by
    obtain ⟨i, hi, rfl⟩ := List.getElem_of_mem hy
    exact (hf.tgt i _ (List.getElem?_eq_getElem hi)).1)
  obtain ⟨kd, hkde⟩ : ∃ kd, kd = x.fin.kind := ⟨_, rfl⟩
  obtain ⟨P, hP⟩ : ∃ P, P = predsOf f.blocks 0 b := ⟨_, rfl⟩
  obtain ⟨tn, htn⟩ : ∃ tn, tn = x.fin.to.length := ⟨_, rfl⟩
  have Hself : Hid (selfF f.blocks b = if kd = 3 ∧ (x.fin.to.getD 0 0 = (b : Int) ∨ x.fin.to.getD 1 0 = (b : Int)) ∧ P.length = 2 then some (if P.getD 0 0 = (b : Int) then 1 else 0) else none) := by
    show _ = _
    unfold selfF
    rw [hxg]
    dsimp only
    rw [← hkde, ← hP]
  rw [← hP] at r0 hrow hpl
  rw [← hkde] at d2 hkd
  rw [← htn] at d5 hkd
  have Hrow := hid hrow
  have Hts := hid hts
  have zx : xb < w.heap.size := cell_lt d2
  have zr : rb < w.heap.size := cell_lt r0
  obtain ⟨bn, hbn⟩ : ∃ bn, bn = f.blocks.length := ⟨_, rfl⟩
  have Hxg := hid hxg
  have HP := hid hP
  have Htn := hid htn
  have hk3 := hkd.2.2.1
  have Hto1 : Hid (kd = 3 → x.fin.to.length = 2) := fun h => by omega
  rw [← hbn] at hbl hbl40 hpl ⊢
  clear hcs hts hrow hkd hkde hP htn hx hxg hpe hal hb ha hf hbn
  obtain ⟨rg, hrg⟩ : ∃ rg, rg = x.fin.on.reg := ⟨_, rfl⟩
  obtain ⟨on, hon⟩ : ∃ on, on = x.fin.on.n := ⟨_, rfl⟩
  rw [← hrg] at d3
  rw [← hon] at d4
  clear hrg hon
  obtain ⟨W, hW⟩ : ∃ W, W = ((w.alloc (.cells #[.string nm, .int .i64 f.params, .int .i64 f.regs, .slice (some ⟨xb, xoff, none⟩) bn bc] 35)).alloc (.cells #[.int .i64 0, .int .i64 0, .int .i64 0] 117)).alloc (.cells #[.int .i64 kd, .bool rg, .int .i64 on, .slice ta tn tc] 43) := ⟨_, rfl⟩
  have Hb0 : Hid (Below w.heap.size w W) := by show Below _ _ _; rw [hW]; (repeat (first | exact Below.refl _ _ | refine Below.alloc ?_ (by first | omega | (simp <;> omega)) _ | refine Below.setCell ?_ (by first | omega | (simp <;> omega)) _ | refine below_drewN ?_ _ | refine Below.drew ?_))
  obtain ⟨zW, -, hL1, hE1⟩ : W.heap.size = w.heap.size + 3 ∧ W.heap[w.heap.size]? = _ ∧ W.heap[w.heap.size + 1]? = _ ∧ W.heap[w.heap.size + 1 + 1]? = _ := by rw [hW]; exact heap_three _ _ _ _
  have Hc3 : Hid (CellsAt W (w.heap.size + 1) 0 [.int .i64 0, .int .i64 0, .int .i64 0]) := fun j v hj => by rw [cell_row hL1, Nat.zero_add, List.getElem?_toArray]; exact hj
  have hlast : ∀ (a b c : Int) (V : World), CellsAt V (w.heap.size + 1) 0 [.int .i64 0, .int .i64 0, .int .i64 0] → CellsAt (((V.setCell ⟨w.heap.size + 1, 0, none⟩ (.int .i64 a)).setCell ⟨w.heap.size + 1, 1, none⟩ (.int .i64 b)).setCell ⟨w.heap.size + 1, 2, none⟩ (.int .i64 c)) (w.heap.size + 1) 0 [.int .i64 a, .int .i64 b, .int .i64 c] := fun a b c V h => set3 h
  have Hlast := hid hlast
  clear hlast
  have v0 : W.cell? ⟨w.heap.size + 1 + 1, 0, none⟩ = some (.int .i64 kd) := by rw [cell_row hE1]; rfl
  have v3 : W.cell? ⟨w.heap.size + 1 + 1, 3, none⟩ = some (.slice ta tn tc) := by rw [cell_row hE1]; rfl
  have hfz : ∀ i, W.frozen? ⟨w.heap.size + 1, i, none⟩ = false := fun i => by simp [World.frozen?, hL1]
  have z0 := hfz 0
  have z1 := hfz 1
  have z2 := hfz 2
  obtain ⟨y0, y1, y2⟩ := Hc3.out.get3
  have r0' := cell_later' r0 Hb0.out
  have HW := hid hW
  clear hW hfz hL1 hE1
  go_enter Tryd.func63, Tryd.ntmps63
  go_upto_region 2 with (fail)
  rw [← HW.out]
  clear r0
  by_cases h3 : kd = 3
  case neg =>
    have Hs : Hid (selfF f.blocks b = none) := by show _ = _; rw [Hself.out, if_neg (fun h => h3 h.1)]
    have q0 : (decide (kd < 3) || decide (3 < kd)) = true := by rw [Bool.or_eq_true, decide_eq_true_eq, decide_eq_true_eq]; omega
    clear h3 hk3
    go_wp2_with fail
    obtain ⟨e0, e1, e2⟩ := (Hlast.out 0 0 0 _ Hc3.out).get3
    refine bodyPost_ret (res_find (v := .bool false) rfl rfl rfl e0 e1 e2) rfl ?_
    unfold FindPost
    refine ⟨0, 0, 0, by rw [Hs.out]; rfl, fun k hk => (by rw [Hs.out] at hk; cases hk), ?_⟩
    have h := Hb0.out
    (repeat (first | exact Below.refl _ _ | exact (h).mono (by first | omega | (simp <;> omega) | (have hh := (h).size; (try simp at hh); omega) | (have hh := (h).size; (try simp at hh); (try simp); omega)) | refine Below.trans ?_ ((h).mono (by first | omega | (simp <;> omega) | (have hh := (h).size; (try simp at hh); omega) | (have hh := (h).size; (try simp at hh); (try simp); omega))) | refine Below.alloc ?_ (by first | omega | (simp <;> omega) | (have hh := (h).size; (try simp at hh); omega) | (have hh := (h).size; (try simp at hh); (try simp); omega)) _ | refine Below.setCell ?_ (by first | omega | (simp <;> omega) | (have hh := (h).size; (try simp at hh); omega) | (have hh := (h).size; (try simp at hh); (try simp); omega)) _ | refine below_drewN ?_ _ | refine Below.drew ?_))
  case pos =>
    subst h3
    have ht2 := Hto1.out rfl
    have htn2 : tn = 2 := Htn.out.trans ht2
    subst htn2
    have HtsW := hid (Hts.out.later rInt_mono Hb0.out)
    by_cases hp2 : P.length = 2
    case neg =>
      have Hs : Hid (selfF f.blocks b = none) := by show _ = _; rw [Hself.out, if_neg (fun h => hp2 h.2.2)]
      obtain ⟨pn, hpn⟩ : ∃ pn, pn = P.length := ⟨_, rfl⟩
      rw [← hpn] at r0' hp2 hpl
      have q0 : (decide ((pn : Int) < 2) || decide ((2 : Int) < (pn : Int))) = true := by rw [Bool.or_eq_true, decide_eq_true_eq, decide_eq_true_eq]; omega
      clear hpn hp2 ht2
      go_wp2_with fail
      obtain ⟨e0, e1, e2⟩ := (Hlast.out 0 0 0 _ Hc3.out).get3
      refine bodyPost_ret (res_find (v := .bool false) rfl rfl rfl e0 e1 e2) rfl ?_
      unfold FindPost
      refine ⟨0, 0, 0, by rw [Hs.out]; rfl, fun k hk => (by rw [Hs.out] at hk; cases hk), ?_⟩
      have h := Hb0.out
      (repeat (first | exact Below.refl _ _ | exact (h).mono (by first | omega | (simp <;> omega) | (have hh := (h).size; (try simp at hh); omega) | (have hh := (h).size; (try simp at hh); (try simp); omega)) | refine Below.trans ?_ ((h).mono (by first | omega | (simp <;> omega) | (have hh := (h).size; (try simp at hh); omega) | (have hh := (h).size; (try simp at hh); (try simp); omega))) | refine Below.alloc ?_ (by first | omega | (simp <;> omega) | (have hh := (h).size; (try simp at hh); omega) | (have hh := (h).size; (try simp at hh); (try simp); omega)) _ | refine Below.setCell ?_ (by first | omega | (simp <;> omega) | (have hh := (h).size; (try simp at hh); omega) | (have hh := (h).size; (try simp at hh); (try simp); omega)) _ | refine below_drewN ?_ _ | refine Below.drew ?_))
    case pos =>
      rw [hp2] at r0'
      have Hcon := hid (containsInt_any ta 2 tc x.fin.to (b : Int) W (by have h := HtsW.out; rw [ht2] at h; exact h) ht2 (by omega))
      have hg01 : x.fin.to.getD 0 0 = (b : Int) ∨ x.fin.to.getD 1 0 = (b : Int) ↔ (b : Int) ∈ x.fin.to := by
        match h : x.fin.to, ht2 with
        | [p, q], _ => simp [eq_comm]
      cases hc : hasInt x.fin.to (b : Int) with
      | false =>
        have Hs : Hid (selfF f.blocks b = none) := by
          show _ = _
          rw [Hself.out, if_neg (fun h => by rw [has_mem.2 (hg01.1 h.2.1)] at hc; cases hc)]
        have Hc := hid hc
        clear hc hp2 ht2 hg01
        go_wp2_with (go_at_call 104; ((with_reducible refine Hcon.out.mono ?_); rintro e w' ⟨rfl, rfl⟩; rw [Hc.out]))
        obtain ⟨e0, e1, e2⟩ := (Hlast.out 0 0 0 _ Hc3.out).get3
        refine bodyPost_ret (res_find (v := .bool false) rfl rfl rfl e0 e1 e2) rfl ?_
        unfold FindPost
        refine ⟨0, 0, 0, by rw [Hs.out]; rfl, fun k hk => (by rw [Hs.out] at hk; cases hk), ?_⟩
        have h := Hb0.out
        (repeat (first | exact Below.refl _ _ | exact (h).mono (by first | omega | (simp <;> omega) | (have hh := (h).size; (try simp at hh); omega) | (have hh := (h).size; (try simp at hh); (try simp); omega)) | refine Below.trans ?_ ((h).mono (by first | omega | (simp <;> omega) | (have hh := (h).size; (try simp at hh); omega) | (have hh := (h).size; (try simp at hh); (try simp); omega))) | refine Below.alloc ?_ (by first | omega | (simp <;> omega) | (have hh := (h).size; (try simp at hh); omega) | (have hh := (h).size; (try simp at hh); (try simp); omega)) _ | refine Below.setCell ?_ (by first | omega | (simp <;> omega) | (have hh := (h).size; (try simp at hh); omega) | (have hh := (h).size; (try simp at hh); (try simp); omega)) _ | refine below_drewN ?_ _ | refine Below.drew ?_))
      | true =>
        have hm := has_mem.1 hc
        have hP2 : (b : Int) ∈ P := by
          have h := predsOf_has (s := 0) Hxg.out hm
          rw [Nat.zero_add] at h
          rw [HP.out]; exact h
        have hidx := idx_two hp2 hP2
        have Hs : Hid (selfF f.blocks b = some (if P.getD 0 0 = (b : Int) then 1 else 0)) := by
          show _ = _
          rw [Hself.out, if_pos ⟨rfl, hg01.2 hm, hp2⟩]
        have HrowW : Hid (SlAt S' W 1 rInt (.slice ra 2 rc) P) := by
          have h := Hrow.out.later rInt_mono Hb0.out
          rw [hp2] at h
          exact h
        have Hind := hid (indexInt_any ra 2 rc P (b : Int) W HrowW.out hp2 (by omega))
        obtain ⟨tb, toff, htae, t0⟩ := int_at9 HtsW.out (t := 0) (by omega)
        obtain ⟨tb', toff', htae', t1⟩ := int_at9 HtsW.out (t := 1) (by omega)
        subst htae
        cases htae'
        obtain ⟨to0, hto0⟩ : ∃ to0, to0 = x.fin.to[0]'(by omega) := ⟨_, rfl⟩
        obtain ⟨to1, hto1⟩ : ∃ to1, to1 = x.fin.to[1]'(by omega) := ⟨_, rfl⟩
        rw [← hto0, Nat.add_zero] at t0
        rw [← hto1] at t1
        have ztb : tb < W.heap.size := cell_lt t0
        have Hc := hid hc
        clear hc hp2 ht2 hg01 hm hP2 hto0 hto1 hk3
        have hib : idxInt P (b : Int) = 0 ∨ idxInt P (b : Int) = 1 := by rw [hidx]; split <;> simp
        have Hxy : Hid (∃ k, selfF f.blocks b = some k ∧ (1 - idxInt P (b : Int)) = (k : Int) ∧ idxInt P (b : Int) = ((1 - k : Nat) : Int)) := by
          refine ⟨_, Hs.out, ?_, ?_⟩ <;> rw [hidx] <;> split <;> simp
        obtain ⟨ix, hix⟩ : ∃ ix, ix = idxInt P (b : Int) := ⟨_, rfl⟩
        rw [← hix] at Hind Hxy hib
        clear hidx hix
        by_cases he : to0 = (b : Int)
        · have q0 : (decide (to0 ≤ (b : Int)) && decide ((b : Int) ≤ to0)) = true := eq_yes he
          clear he
          go_wp2_with (first
            | (go_at_call 104; ((with_reducible refine Hcon.out.mono ?_); rintro e w' ⟨rfl, rfl⟩; rw [Hc.out]))
            | (go_at_call 105; ((with_reducible refine Hind.out.mono ?_); rintro e w' ⟨rfl, rfl⟩)))
          obtain ⟨e0, e1, e2⟩ := (Hlast.out (1 - ix) ix to1 _ Hc3.out).get3
          obtain ⟨k, k1, k2, k3⟩ := Hxy.out
          refine bodyPost_ret (res_find (v := .bool true) rfl rfl rfl e0 e1 e2) rfl ?_
          unfold FindPost
          refine ⟨_, _, _, by rw [k1]; rfl, fun k' hk => (by rw [k1] at hk; cases hk; exact ⟨k2, k3⟩), ?_⟩
          have h := Hb0.out
          (repeat (first | exact Below.refl _ _ | exact (h).mono (by first | omega | (simp <;> omega) | (have hh := (h).size; (try simp at hh); omega) | (have hh := (h).size; (try simp at hh); (try simp); omega)) | refine Below.trans ?_ ((h).mono (by first | omega | (simp <;> omega) | (have hh := (h).size; (try simp at hh); omega) | (have hh := (h).size; (try simp at hh); (try simp); omega))) | refine Below.alloc ?_ (by first | omega | (simp <;> omega) | (have hh := (h).size; (try simp at hh); omega) | (have hh := (h).size; (try simp at hh); (try simp); omega)) _ | refine Below.setCell ?_ (by first | omega | (simp <;> omega) | (have hh := (h).size; (try simp at hh); omega) | (have hh := (h).size; (try simp at hh); (try simp); omega)) _ | refine below_drewN ?_ _ | refine Below.drew ?_))
        · have q0 : (decide (to0 ≤ (b : Int)) && decide ((b : Int) ≤ to0)) = false := eq_no he
          clear he
          go_wp2_with (first
            | (go_at_call 104; ((with_reducible refine Hcon.out.mono ?_); rintro e w' ⟨rfl, rfl⟩; rw [Hc.out]))
            | (go_at_call 105; ((with_reducible refine Hind.out.mono ?_); rintro e w' ⟨rfl, rfl⟩)))
          obtain ⟨e0, e1, e2⟩ := (Hlast.out (1 - ix) ix to0 _ Hc3.out).get3
          obtain ⟨k, k1, k2, k3⟩ := Hxy.out
          refine bodyPost_ret (res_find (v := .bool true) rfl rfl rfl e0 e1 e2) rfl ?_
          unfold FindPost
          refine ⟨_, _, _, by rw [k1]; rfl, fun k' hk => (by rw [k1] at hk; cases hk; exact ⟨k2, k3⟩), ?_⟩
          have h := Hb0.out
          (repeat (first | exact Below.refl _ _ | exact (h).mono (by first | omega | (simp <;> omega) | (have hh := (h).size; (try simp at hh); omega) | (have hh := (h).size; (try simp at hh); (try simp); omega)) | refine Below.trans ?_ ((h).mono (by first | omega | (simp <;> omega) | (have hh := (h).size; (try simp at hh); omega) | (have hh := (h).size; (try simp at hh); (try simp); omega))) | refine Below.alloc ?_ (by first | omega | (simp <;> omega) | (have hh := (h).size; (try simp at hh); omega) | (have hh := (h).size; (try simp at hh); (try simp); omega)) _ | refine Below.setCell ?_ (by first | omega | (simp <;> omega) | (have hh := (h).size; (try simp at hh); omega) | (have hh := (h).size; (try simp at hh); (try simp); omega)) _ | refine below_drewN ?_ _ | refine Below.drew ?_))

end Go.Proofs.YtaehkcnankijfaaDoor
