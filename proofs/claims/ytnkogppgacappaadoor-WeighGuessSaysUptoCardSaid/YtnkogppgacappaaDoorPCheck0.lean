/- The contract of the checker's body. Contracts of core.Fault, of the closure that looks for main, and of slices.IndexFunc over it. What is wrong with a unit: plain. -/
import Derived.Test.YtnkogppgacappaaDoorPChk7
import Derived.Test.YtnkogppgacappaaDoorPChk3
import Derived.Test.YtnkogppgacappaaDoorPGAhd
import Derived.Test.YtnkogppgacappaaDoorPChk4
namespace Go.Proofs.YtnkogppgacappaaDoor
open Go.RowKit

/-- The first that is not 0 among e 0, .., e (n - 1); 0 if there is none. -/
def firstF (e : Nat → Int) : Nat → Int
  | 0 => 0
  | n + 1 => if firstF e n ≠ 0 then firstF e n else e n
theorem firstF_zero {e : Nat → Int} {n : Nat} (h : ∀ j, j < n → e j = 0) : firstF e n = 0 := by
  induction n with
  | zero => rfl
  | succ n ih => rw [firstF, ih (fun j hj => h j (by omega)), if_neg (by simp)]; exact h n (by omega)
theorem firstF_at {e : Nat → Int} {n k : Nat} (h : ∀ j, j < k → e j = 0) (hk : k < n) (he : e k ≠ 0) : firstF e n = e k := by
  induction n with
  | zero => omega
  | succ n ih =>
    rw [firstF]
    rcases Nat.lt_succ_iff_lt_or_eq.1 hk with h1 | h1
    · rw [ih h1, if_pos he]
    · subst h1; rw [firstF_zero h, if_neg (by simp)]
theorem firstF_inv {e : Nat → Int} {n : Nat} (h : firstF e n = 0) : ∀ j, j < n → e j = 0 := by
  induction n with
  | zero => intro j hj; omega
  | succ n ih =>
    rw [firstF] at h
    by_cases h1 : firstF e n = 0
    · rw [if_neg (by simpa using h1)] at h
      exact ext_lt (ih h1) h
    · rw [if_pos h1] at h; exact absurd h h1

theorem endE_ok {n : Nat} {regs : Int} {e : DEnd} (h : endE n regs e = 0) :
    1 ≤ e.kind ∧ e.kind ≤ 3 ∧ (e.to.length : Int) = e.kind - 1 ∧ (∀ t ∈ e.to, 1 ≤ t ∧ t ≤ (n : Int) - 1) ∧ ¬ (e.kind = 3 ∧ e.to.getD 0 0 = e.to.getD 1 0) ∧ valE regs e.on = 0 := by
  unfold endE at h
  by_cases h1 : 1 ≤ e.kind ∧ e.kind ≤ 3
  case neg => rw [if_pos h1] at h; omega
  rw [if_neg (by simpa using h1)] at h
  by_cases h2 : (e.to.length : Int) = e.kind - 1
  case neg => rw [if_pos h2] at h; omega
  rw [if_neg (by simpa using h2)] at h
  by_cases h3 : e.to.any (badTo n) = true
  · rw [if_pos h3] at h; omega
  rw [if_neg h3] at h
  by_cases h4 : (e.kind = 3 ∧ e.to.getD 0 0 = e.to.getD 1 0) ∨ (e.kind = 2 ∧ e.on ≠ ⟨false, 0⟩)
  · rw [if_pos h4] at h; omega
  rw [if_neg h4] at h
  refine ⟨h1.1, h1.2, h2, fun t ht => ?_, fun h => h4 (.inl h), h⟩
  have : badTo n t ≠ true := fun hb => h3 (List.any_eq_true.2 ⟨t, ht, hb⟩)
  simpa [badTo] using this

/-- What is wrong with a body. -/
def endsE (regs : Int) (bs : List DBlock) (k : Nat) : Int := match bs[k]? with | some b => endE bs.length regs b.fin | none => 0
def phisE (regs : Int) (bs : List DBlock) (i : Nat) (b : DBlock) (k : Nat) : Int := match b.phis[k]? with | some p => phiE regs i (aheadF bs) p | none => 0
def listE (fs : List DFunc) (regs : Int) (b : DBlock) (k : Nat) : Int := match b.list[k]? with | some x => insE fs regs x | none => 0
def blockE (fs : List DFunc) (regs : Int) (bs : List DBlock) (k : Nat) : Int :=
  match bs[k]? with
  | some b => if firstF (phisE regs bs k b) b.phis.length ≠ 0 then firstF (phisE regs bs k b) b.phis.length else firstF (listE fs regs b) b.list.length
  | none => 0
def bodyE (fs : List DFunc) (f : DFunc) : Int :=
  if firstF (endsE f.regs f.blocks) f.blocks.length ≠ 0 then firstF (endsE f.regs f.blocks) f.blocks.length
  else firstF (blockE fs f.regs f.blocks) f.blocks.length

set_option maxRecDepth 100000 in
set_option maxHeartbeats 2000000 in
theorem body_any {S S' : Nat → Prop} (ga : Option Addr) (gn gc : Nat) (fs : List DFunc) (fa : Option Addr) (fc : Nat) (f : DFunc) (ba : Option Addr) (bc : Nat) (aa : Option Addr) (an ac : Nat) (w : World) (h0 : 0 ≤ f.regs) (h1 : f.regs ≤ 100)
    (hfs : SlAt S w 4 rFunc (.slice fa fs.length fc) fs) (hbs : SlAt S' w 6 rBlock (.slice ba f.blocks.length bc) f.blocks) (hfl : fs.length ≤ 1048576) (hbl : f.blocks.length ≤ 1048576) (hw : Ways w) :
    Calls Tryd.prog 37 #[.agg #[.slice ga gn gc, .slice fa fs.length fc, .string f.name, .int .i64 f.params, .int .i64 f.regs, .slice ba f.blocks.length bc, .slice aa an ac]] w fun e w' =>
      e = .returned (.int .i64 (bodyE fs f)) ∧ Below w.heap.size w w' := by
  have Hfs := hid hfs
  have Hbs := hid hbs
  have Hw := hid hw
  clear hfs hbs hw
  obtain ⟨regs, hregs⟩ : ∃ r, r = f.regs := ⟨_, rfl⟩
  obtain ⟨bs, hbse⟩ : ∃ b, b = f.blocks := ⟨_, rfl⟩
  rw [← hregs] at h0 h1 ⊢
  rw [← hbse] at Hbs hbl ⊢
  have Hregs := hid hregs
  have Hbse := hid hbse
  clear hregs hbse
  have hW1 : ∀ o, Below w.heap.size w (w.alloc o) := fun o => by (repeat (first | exact Below.refl _ _ | refine Below.alloc ?_ (by first | omega | (simp <;> omega)) _ | refine Below.setCell ?_ (by first | omega | (simp <;> omega)) _ | refine below_drewN ?_ _ | refine Below.drew ?_))
  have HW1 := hid hW1
  clear hW1
  go_enter Tryd.func37, Tryd.ntmps37
  go_wp2_with fail
  go_loopw [18] (fun i wr => ∃ k : Nat, k ≤ bs.length ∧ i = .int .i64 k ∧ (∀ j, j < k → endsE regs bs j = 0) ∧ Below (w.heap.size + 1) (w.alloc (.cells #[.slice ga gn gc, .slice fa fs.length fc, .string f.name, .int .i64 f.params, .int .i64 regs, .slice ba bs.length bc, .slice aa an ac] 85)) wr) (fun i _ => bs.length - (intOf i).toNat)
  case atStart => exact ⟨0, Nat.zero_le _, rfl, fun j hj => by omega, Below.refl _ _⟩
  case round =>
    obtain ⟨k, hk, rfl, hall, hblw⟩ := hrel
    have Hall := hid hall
    have hwr : Below w.heap.size w wr := (HW1.out _).trans (hblw.mono (by omega))
    obtain ⟨hc1, hf1⟩ := below_cells hblw
    have hz1 : w.heap.size < wr.heap.size := by have := hblw.size; simp at this; omega
    have Hwr := hid hwr
    have Hblw := hid hblw
    clear hall hblw
    by_cases hlt : k < bs.length
    · obtain ⟨b, off, cs, rfl, hS, hx, -, hcs⟩ := Hbs.out.get hlt
      obtain ⟨pa, pc, la, lc, ta, tc, rfl, -, -, hts, hpm, hlm2, htm, -, -⟩ := hx.opens
      obtain ⟨c0, c1, c2, c3, c4, c5⟩ := (hcs.later hwr).get6
      have Hts := hid hts
      clear hcs hx hts hwr
      have he : endsE regs bs k = endE bs.length regs bs[k].fin := by unfold endsE; rw [List.getElem?_eq_getElem hlt]
      have He := hid he
      clear he
      by_cases hz : endE bs.length regs bs[k].fin = 0
      · go_wp2_with (go_at_call 62; go_must ((with_reducible refine (end_any (S := S') _ _ _ _ regs _ bs.length _ _ _ _ _ _ bs[k].fin.to _ h0 h1 (by omega) ?_ ?_).mono ?_); exact Ways.below Hw.out (by have h := Hwr.out; (repeat (first | exact Below.refl _ _ | exact (h).mono (by first | omega | (simp <;> omega) | (have hh := (h).size; (try simp at hh); omega) | (have hh := (h).size; (try simp at hh); (try simp); omega)) | refine Below.trans ?_ ((h).mono (by first | omega | (simp <;> omega) | (have hh := (h).size; (try simp at hh); omega) | (have hh := (h).size; (try simp at hh); (try simp); omega))) | refine Below.alloc ?_ (by first | omega | (simp <;> omega) | (have hh := (h).size; (try simp at hh); omega) | (have hh := (h).size; (try simp at hh); (try simp); omega)) _ | refine Below.setCell ?_ (by first | omega | (simp <;> omega) | (have hh := (h).size; (try simp at hh); omega) | (have hh := (h).size; (try simp at hh); (try simp); omega)) _ | refine below_drewN ?_ _ | refine Below.drew ?_))); refine Hts.out.later rInt_mono ?_; have h := Hwr.out; (repeat (first | exact Below.refl _ _ | exact (h).mono (by first | omega | (simp <;> omega) | (have hh := (h).size; (try simp at hh); omega) | (have hh := (h).size; (try simp at hh); (try simp); omega)) | refine Below.trans ?_ ((h).mono (by first | omega | (simp <;> omega) | (have hh := (h).size; (try simp at hh); omega) | (have hh := (h).size; (try simp at hh); (try simp); omega))) | refine Below.alloc ?_ (by first | omega | (simp <;> omega) | (have hh := (h).size; (try simp at hh); omega) | (have hh := (h).size; (try simp at hh); (try simp); omega)) _ | refine Below.setCell ?_ (by first | omega | (simp <;> omega) | (have hh := (h).size; (try simp at hh); omega) | (have hh := (h).size; (try simp at hh); (try simp); omega)) _ | refine below_drewN ?_ _ | refine Below.drew ?_)); rintro e w2 ⟨rfl, hb2⟩))
        go_roundw
        case rel => exact ⟨k + 1, by omega, by go_num, ext_lt Hall.out (He.out.trans hz), by have h := Hblw.out; (repeat (first | exact Below.refl _ _ | exact (hb2).mono (by first | omega | (simp <;> omega) | (have hh := (hb2).size; (try simp at hh); omega) | (have hh := (hb2).size; (try simp at hh); (try simp); omega) | (have hh := (h).size; (try simp at hh); omega) | (have hh := (h).size; (try simp at hh); (try simp); omega)) | refine Below.trans ?_ ((hb2).mono (by first | omega | (simp <;> omega) | (have hh := (hb2).size; (try simp at hh); omega) | (have hh := (hb2).size; (try simp at hh); (try simp); omega) | (have hh := (h).size; (try simp at hh); omega) | (have hh := (h).size; (try simp at hh); (try simp); omega))) | exact (h).mono (by first | omega | (simp <;> omega) | (have hh := (hb2).size; (try simp at hh); omega) | (have hh := (hb2).size; (try simp at hh); (try simp); omega) | (have hh := (h).size; (try simp at hh); omega) | (have hh := (h).size; (try simp at hh); (try simp); omega)) | refine Below.trans ?_ ((h).mono (by first | omega | (simp <;> omega) | (have hh := (hb2).size; (try simp at hh); omega) | (have hh := (hb2).size; (try simp at hh); (try simp); omega) | (have hh := (h).size; (try simp at hh); omega) | (have hh := (h).size; (try simp at hh); (try simp); omega))) | refine Below.alloc ?_ (by first | omega | (simp <;> omega) | (have hh := (hb2).size; (try simp at hh); omega) | (have hh := (hb2).size; (try simp at hh); (try simp); omega) | (have hh := (h).size; (try simp at hh); omega) | (have hh := (h).size; (try simp at hh); (try simp); omega)) _ | refine Below.setCell ?_ (by first | omega | (simp <;> omega) | (have hh := (hb2).size; (try simp at hh); omega) | (have hh := (hb2).size; (try simp at hh); (try simp); omega) | (have hh := (h).size; (try simp at hh); omega) | (have hh := (h).size; (try simp at hh); (try simp); omega)) _ | refine below_drewN ?_ _ | refine Below.drew ?_))⟩
        case measure => simp [intOf]; omega
      · have hz' := ne_yes hz
        have Hr : Hid (bodyE fs f = endE bs.length regs bs[k].fin) := by
          have h := firstF_at Hall.out hlt (by rw [He.out]; exact hz)
          unfold bodyE
          rw [← Hregs.out, ← Hbse.out, h, He.out]
          exact if_pos hz
        clear hz
        go_wp2_with (go_at_call 62; go_must ((with_reducible refine (end_any (S := S') _ _ _ _ regs _ bs.length _ _ _ _ _ _ bs[k].fin.to _ h0 h1 (by omega) ?_ ?_).mono ?_); exact Ways.below Hw.out (by have h := Hwr.out; (repeat (first | exact Below.refl _ _ | exact (h).mono (by first | omega | (simp <;> omega) | (have hh := (h).size; (try simp at hh); omega) | (have hh := (h).size; (try simp at hh); (try simp); omega)) | refine Below.trans ?_ ((h).mono (by first | omega | (simp <;> omega) | (have hh := (h).size; (try simp at hh); omega) | (have hh := (h).size; (try simp at hh); (try simp); omega))) | refine Below.alloc ?_ (by first | omega | (simp <;> omega) | (have hh := (h).size; (try simp at hh); omega) | (have hh := (h).size; (try simp at hh); (try simp); omega)) _ | refine Below.setCell ?_ (by first | omega | (simp <;> omega) | (have hh := (h).size; (try simp at hh); omega) | (have hh := (h).size; (try simp at hh); (try simp); omega)) _ | refine below_drewN ?_ _ | refine Below.drew ?_))); refine Hts.out.later rInt_mono ?_; have h := Hwr.out; (repeat (first | exact Below.refl _ _ | exact (h).mono (by first | omega | (simp <;> omega) | (have hh := (h).size; (try simp at hh); omega) | (have hh := (h).size; (try simp at hh); (try simp); omega)) | refine Below.trans ?_ ((h).mono (by first | omega | (simp <;> omega) | (have hh := (h).size; (try simp at hh); omega) | (have hh := (h).size; (try simp at hh); (try simp); omega))) | refine Below.alloc ?_ (by first | omega | (simp <;> omega) | (have hh := (h).size; (try simp at hh); omega) | (have hh := (h).size; (try simp at hh); (try simp); omega)) _ | refine Below.setCell ?_ (by first | omega | (simp <;> omega) | (have hh := (h).size; (try simp at hh); omega) | (have hh := (h).size; (try simp at hh); (try simp); omega)) _ | refine below_drewN ?_ _ | refine Below.drew ?_)); rintro e w2 ⟨rfl, hb2⟩))
        go_ret
        exact ⟨ret_int Hr.out.symm, by have h := Hwr.out; (repeat (first | exact Below.refl _ _ | exact (hb2).mono (by first | omega | (simp <;> omega) | (have hh := (hb2).size; (try simp at hh); omega) | (have hh := (hb2).size; (try simp at hh); (try simp); omega) | (have hh := (h).size; (try simp at hh); omega) | (have hh := (h).size; (try simp at hh); (try simp); omega)) | refine Below.trans ?_ ((hb2).mono (by first | omega | (simp <;> omega) | (have hh := (hb2).size; (try simp at hh); omega) | (have hh := (hb2).size; (try simp at hh); (try simp); omega) | (have hh := (h).size; (try simp at hh); omega) | (have hh := (h).size; (try simp at hh); (try simp); omega))) | exact (h).mono (by first | omega | (simp <;> omega) | (have hh := (hb2).size; (try simp at hh); omega) | (have hh := (hb2).size; (try simp at hh); (try simp); omega) | (have hh := (h).size; (try simp at hh); omega) | (have hh := (h).size; (try simp at hh); (try simp); omega)) | refine Below.trans ?_ ((h).mono (by first | omega | (simp <;> omega) | (have hh := (hb2).size; (try simp at hh); omega) | (have hh := (hb2).size; (try simp at hh); (try simp); omega) | (have hh := (h).size; (try simp at hh); omega) | (have hh := (h).size; (try simp at hh); (try simp); omega))) | refine Below.alloc ?_ (by first | omega | (simp <;> omega) | (have hh := (hb2).size; (try simp at hh); omega) | (have hh := (hb2).size; (try simp at hh); (try simp); omega) | (have hh := (h).size; (try simp at hh); omega) | (have hh := (h).size; (try simp at hh); (try simp); omega)) _ | refine Below.setCell ?_ (by first | omega | (simp <;> omega) | (have hh := (hb2).size; (try simp at hh); omega) | (have hh := (hb2).size; (try simp at hh); (try simp); omega) | (have hh := (h).size; (try simp at hh); omega) | (have hh := (h).size; (try simp at hh); (try simp); omega)) _ | refine below_drewN ?_ _ | refine Below.drew ?_))⟩
    · obtain rfl : k = bs.length := by omega
      have Hok : Hid (∀ (j : Nat) (x : DBlock), bs[j]? = some x → endE bs.length regs x.fin = 0) := fun j x hx => by
        have hj := (List.getElem?_eq_some_iff.1 hx).1
        have := Hall.out j hj
        unfold endsE at this
        rw [hx] at this
        exact this
      have Hf0 := hid (firstF_zero Hall.out)
      clear hwr
      go_wp2_with (go_at_call 63; go_must ((with_reducible refine (ahead_any (S := S') _ _ _ _ _ bs _ ?_ hbl ?_).mono ?_); exact Hbs.out.later rBlock_mono Hwr.out; exact fun j x hx => ⟨by have := endE_ok (Hok.out j x hx); omega, fun t ht => by have := (endE_ok (Hok.out j x hx)).2.2.2.1 t ht; omega⟩; rintro e w2 ⟨v, rfl, hah, hb2⟩; obtain ⟨va, vc, rfl, hvm⟩ := hah.val; have Hah := hid hah; clear hah; obtain ⟨hc2, hf2⟩ := below_cells hb2; have hz2 : w.heap.size < w2.heap.size := (by have := hb2.size; omega); have Hb2 := hid hb2; clear hb2))
      have Hal : Hid ((aheadF bs).length = bs.length) := by simp [aheadF, Hid]
      obtain ⟨W, hW⟩ : ∃ W, W = w2.setCell ⟨w.heap.size, 6, none⟩ (.slice va (aheadF bs).length vc) := ⟨_, rfl⟩
      rw [← hW]
      have HC : Hid (CellsAt W w.heap.size 0 [.slice ga gn gc, .slice fa fs.length fc, .string f.name, .int .i64 f.params, .int .i64 regs, .slice ba bs.length bc, .slice va (aheadF bs).length vc]) := by
        rw [hW]
        exact .cons (by simp [go_sem, hc2, hz1, hc1]) (.cons (by simp [go_sem, hc2, hz1, hc1]) (.cons (by simp [go_sem, hc2, hz1, hc1]) (.cons (by simp [go_sem, hc2, hz1, hc1]) (.cons (by simp [go_sem, hc2, hz1, hc1]) (.cons (by simp [go_sem, hc2, hz1, hc1]) (.cons (by simp [go_sem, hc2, hz1, hc1]) (.nil _ _ _)))))))
      have HW : Hid (Below w.heap.size w W) := by
        rw [hW]
        exact (Hwr.out.trans (Hb2.out.mono (by omega))).setCell (Nat.le_refl _) _
      have Hah2 : Hid (SlAt (fun b => wr.heap.size ≤ b) W 1 rRow (.slice va (aheadF bs).length vc) (aheadF bs)) := by
        rw [hW]
        exact Hah.out.mono rRow_mono (fun _ h => h) (fun b o v hb hc => by rw [World.cell?_of_block (w := w2) (Below.heap_setCell _ _ _ _ (by dsimp only; omega))]; exact hc)
      have hz3 : w.heap.size < W.heap.size := by rw [hW]; simp [World.setCell]; omega
      clear hW hc1 hc2 hf1 hf2 hz1 hz2 Hah
      obtain ⟨S2, Hah3⟩ : ∃ S2, Hid (SlAt S2 W 1 rRow (.slice va (aheadF bs).length vc) (aheadF bs)) := ⟨_, Hah2⟩
      clear Hah2
      go_loopw [38] (fun i wr => ∃ k : Nat, k ≤ bs.length ∧ i = .int .i64 k ∧ (∀ j, j < k → blockE fs regs bs j = 0) ∧ Below W.heap.size W wr) (fun i _ => bs.length - (intOf i).toNat)
      case atStart => exact ⟨0, Nat.zero_le _, rfl, fun j hj => by omega, Below.refl _ _⟩
      case round =>
        obtain ⟨wq, rfl⟩ : ∃ wq : World, wq = wr := ⟨_, rfl⟩
        obtain ⟨k, hk, rfl, hall, hblw⟩ := hrel
        have Hall2 := hid hall
        have HWq0 := hid hblw
        have hwq : Below w.heap.size w wq := HW.out.trans (hblw.mono (by omega))
        have hz4 : w.heap.size < wq.heap.size := by have := hblw.size; omega
        clear hall
        by_cases hlt : k < bs.length
        · obtain ⟨b, off, cs, rfl, hS, hx, -, hcs⟩ := Hbs.out.get hlt
          obtain ⟨pa, pc, la, lc, ta, tc, rfl, hps, hls, -, hpm, hlm2, htm, -, -⟩ := hx.opens
          obtain ⟨c0, c1, c2, c3, c4, c5⟩ := (hcs.later hwq).get6
          have HkA : Hid (k < (aheadF bs).length) := by rw [Hal.out]; exact hlt
          have HbA : Hid ((aheadF bs).length ≤ 1048576) := by rw [Hal.out]; exact hbl
          have Hps := hid hps
          have Hls := hid hls
          have Hwr2 := hid hwq
          have He : Hid (blockE fs regs bs k = if firstF (phisE regs bs k bs[k]) bs[k].phis.length ≠ 0 then firstF (phisE regs bs k bs[k]) bs[k].phis.length else firstF (listE fs regs bs[k]) bs[k].list.length) := by
            show blockE fs regs bs k = _
            unfold blockE; rw [List.getElem?_eq_getElem hlt]
          clear hcs hx hps hls hwq hblw
          go_wp2_with fail
          obtain ⟨X, hX⟩ : ∃ X, X = wq.alloc (.cells #[.slice pa bs[k].phis.length pc, .slice la bs[k].list.length lc, .int .i64 bs[k].fin.kind, .bool bs[k].fin.on.reg, .int .i64 bs[k].fin.on.n, .slice ta bs[k].fin.to.length tc] 52) := ⟨_, rfl⟩
          rw [← hX]
          have HX1 : Hid (X.cell? ⟨wq.heap.size, 1, none⟩ = some (.slice la bs[k].list.length lc)) := by rw [hX]; simp [Hid]
          have HXW : Hid (Below W.heap.size W X) := by rw [hX]; have h := HWq0.out; exact h.alloc (by have := h.size; omega) _
          have HXw : Hid (Below w.heap.size w X) := by rw [hX]; have h := Hwr2.out; exact h.alloc (by have := h.size; omega) _
          have hz5 : wq.heap.size < X.heap.size := by rw [hX]; simp
          clear hX c0 c1 c2 c3 c4 c5
          go_loopw [46] (fun i wr => ∃ j : Nat, j ≤ bs[k].phis.length ∧ i = .int .i64 j ∧ (∀ j', j' < j → phisE regs bs k bs[k] j' = 0) ∧ Below X.heap.size X wr) (fun i _ => bs[k].phis.length - (intOf i).toNat)
          case atStart => exact ⟨0, Nat.zero_le _, rfl, fun j hj => by omega, Below.refl _ _⟩
          case round =>
            obtain ⟨j, hj, rfl, hall3, hbx⟩ := hrel
            have Hall3 := hid hall3
            have Hbx := hid hbx
            have HWq : Hid (Below W.heap.size W wr) := HXW.out.trans (hbx.mono (HXW.out.size))
            have Hwq : Hid (Below w.heap.size w wr) := HXw.out.trans (hbx.mono (HXw.out.size))
            obtain ⟨y0, y1, y2, y3, y4, y5, y6⟩ := (HC.out.later HWq.out).get7
            simp only [Nat.zero_add] at y1 y2 y3 y4 y5 y6
            have hz6 : w.heap.size < wr.heap.size := cell_lt y0
            have hx1 := cell_later' HX1.out hbx
            clear hall3 hbx
            by_cases hjl : j < bs[k].phis.length
            · obtain ⟨b2, off2, cs, rfl, -, hx, -, hcs⟩ := Hps.out.get hjl
              obtain ⟨sa, sc, rfl, hsrc, hsm, hd64⟩ := hx.opens
              obtain ⟨d0, d1⟩ := (hcs.later Hwq.out).get2
              have Hsrc := hid hsrc
              have Hej : Hid (phisE regs bs k bs[k] j = phiE regs k (aheadF bs) bs[k].phis[j]) := by
                show phisE regs bs k bs[k] j = _
                unfold phisE; rw [List.getElem?_eq_getElem hjl]
              clear hcs hx hsrc
              by_cases hz : phiE regs k (aheadF bs) bs[k].phis[j] = 0
              · go_wp2_with (go_at_call 64; go_must ((with_reducible refine (phi_any (S := S2) (S' := S') _ _ _ _ _ _ _ _ regs _ _ _ _ _ (aheadF bs) bs[k].phis[j] _ _ k _ h0 h1 ?_ ?_ HkA.out HbA.out).mono ?_); refine Hah3.out.later rRow_mono ?_; have h := HWq.out; (repeat (first | exact Below.refl _ _ | exact (h).mono (by first | omega | (simp <;> omega) | (have hh := (h).size; (try simp at hh); omega) | (have hh := (h).size; (try simp at hh); (try simp); omega)) | refine Below.trans ?_ ((h).mono (by first | omega | (simp <;> omega) | (have hh := (h).size; (try simp at hh); omega) | (have hh := (h).size; (try simp at hh); (try simp); omega))) | refine Below.alloc ?_ (by first | omega | (simp <;> omega) | (have hh := (h).size; (try simp at hh); omega) | (have hh := (h).size; (try simp at hh); (try simp); omega)) _ | refine Below.setCell ?_ (by first | omega | (simp <;> omega) | (have hh := (h).size; (try simp at hh); omega) | (have hh := (h).size; (try simp at hh); (try simp); omega)) _ | refine below_drewN ?_ _ | refine Below.drew ?_)); refine Hsrc.out.later rVal_mono ?_; have h := Hwq.out; (repeat (first | exact Below.refl _ _ | exact (h).mono (by first | omega | (simp <;> omega) | (have hh := (h).size; (try simp at hh); omega) | (have hh := (h).size; (try simp at hh); (try simp); omega)) | refine Below.trans ?_ ((h).mono (by first | omega | (simp <;> omega) | (have hh := (h).size; (try simp at hh); omega) | (have hh := (h).size; (try simp at hh); (try simp); omega))) | refine Below.alloc ?_ (by first | omega | (simp <;> omega) | (have hh := (h).size; (try simp at hh); omega) | (have hh := (h).size; (try simp at hh); (try simp); omega)) _ | refine Below.setCell ?_ (by first | omega | (simp <;> omega) | (have hh := (h).size; (try simp at hh); omega) | (have hh := (h).size; (try simp at hh); (try simp); omega)) _ | refine below_drewN ?_ _ | refine Below.drew ?_)); rintro e w4 ⟨rfl, hb4⟩))
                go_roundw
                case rel => exact ⟨j + 1, by omega, by go_num, ext_lt Hall3.out (Hej.out.trans hz), by have h := Hbx.out; (repeat (first | exact Below.refl _ _ | exact (hb4).mono (by first | omega | (simp <;> omega) | (have hh := (hb4).size; (try simp at hh); omega) | (have hh := (hb4).size; (try simp at hh); (try simp); omega) | (have hh := (h).size; (try simp at hh); omega) | (have hh := (h).size; (try simp at hh); (try simp); omega)) | refine Below.trans ?_ ((hb4).mono (by first | omega | (simp <;> omega) | (have hh := (hb4).size; (try simp at hh); omega) | (have hh := (hb4).size; (try simp at hh); (try simp); omega) | (have hh := (h).size; (try simp at hh); omega) | (have hh := (h).size; (try simp at hh); (try simp); omega))) | exact (h).mono (by first | omega | (simp <;> omega) | (have hh := (hb4).size; (try simp at hh); omega) | (have hh := (hb4).size; (try simp at hh); (try simp); omega) | (have hh := (h).size; (try simp at hh); omega) | (have hh := (h).size; (try simp at hh); (try simp); omega)) | refine Below.trans ?_ ((h).mono (by first | omega | (simp <;> omega) | (have hh := (hb4).size; (try simp at hh); omega) | (have hh := (hb4).size; (try simp at hh); (try simp); omega) | (have hh := (h).size; (try simp at hh); omega) | (have hh := (h).size; (try simp at hh); (try simp); omega))) | refine Below.alloc ?_ (by first | omega | (simp <;> omega) | (have hh := (hb4).size; (try simp at hh); omega) | (have hh := (hb4).size; (try simp at hh); (try simp); omega) | (have hh := (h).size; (try simp at hh); omega) | (have hh := (h).size; (try simp at hh); (try simp); omega)) _ | refine Below.setCell ?_ (by first | omega | (simp <;> omega) | (have hh := (hb4).size; (try simp at hh); omega) | (have hh := (hb4).size; (try simp at hh); (try simp); omega) | (have hh := (h).size; (try simp at hh); omega) | (have hh := (h).size; (try simp at hh); (try simp); omega)) _ | refine below_drewN ?_ _ | refine Below.drew ?_))⟩
                case measure => simp [intOf]; omega
              · have hz' := ne_yes hz
                have Hr : Hid (bodyE fs f = phiE regs k (aheadF bs) bs[k].phis[j]) := by
                  have h := firstF_at Hall3.out hjl (by rw [Hej.out]; exact hz)
                  rw [Hej.out] at h
                  have h2 : blockE fs regs bs k = phiE regs k (aheadF bs) bs[k].phis[j] := by rw [He.out, h]; exact if_pos hz
                  have h3 := firstF_at Hall2.out hlt (by rw [h2]; exact hz)
                  show bodyE fs f = _
                  unfold bodyE
                  rw [← Hregs.out, ← Hbse.out, Hf0.out, h3, h2]
                  exact if_neg (by simp)
                clear hz
                go_wp2_with (go_at_call 64; go_must ((with_reducible refine (phi_any (S := S2) (S' := S') _ _ _ _ _ _ _ _ regs _ _ _ _ _ (aheadF bs) bs[k].phis[j] _ _ k _ h0 h1 ?_ ?_ HkA.out HbA.out).mono ?_); refine Hah3.out.later rRow_mono ?_; have h := HWq.out; (repeat (first | exact Below.refl _ _ | exact (h).mono (by first | omega | (simp <;> omega) | (have hh := (h).size; (try simp at hh); omega) | (have hh := (h).size; (try simp at hh); (try simp); omega)) | refine Below.trans ?_ ((h).mono (by first | omega | (simp <;> omega) | (have hh := (h).size; (try simp at hh); omega) | (have hh := (h).size; (try simp at hh); (try simp); omega))) | refine Below.alloc ?_ (by first | omega | (simp <;> omega) | (have hh := (h).size; (try simp at hh); omega) | (have hh := (h).size; (try simp at hh); (try simp); omega)) _ | refine Below.setCell ?_ (by first | omega | (simp <;> omega) | (have hh := (h).size; (try simp at hh); omega) | (have hh := (h).size; (try simp at hh); (try simp); omega)) _ | refine below_drewN ?_ _ | refine Below.drew ?_)); refine Hsrc.out.later rVal_mono ?_; have h := Hwq.out; (repeat (first | exact Below.refl _ _ | exact (h).mono (by first | omega | (simp <;> omega) | (have hh := (h).size; (try simp at hh); omega) | (have hh := (h).size; (try simp at hh); (try simp); omega)) | refine Below.trans ?_ ((h).mono (by first | omega | (simp <;> omega) | (have hh := (h).size; (try simp at hh); omega) | (have hh := (h).size; (try simp at hh); (try simp); omega))) | refine Below.alloc ?_ (by first | omega | (simp <;> omega) | (have hh := (h).size; (try simp at hh); omega) | (have hh := (h).size; (try simp at hh); (try simp); omega)) _ | refine Below.setCell ?_ (by first | omega | (simp <;> omega) | (have hh := (h).size; (try simp at hh); omega) | (have hh := (h).size; (try simp at hh); (try simp); omega)) _ | refine below_drewN ?_ _ | refine Below.drew ?_)); rintro e w4 ⟨rfl, hb4⟩))
                go_ret
                exact ⟨ret_int Hr.out.symm, by have h := Hwq.out; (repeat (first | exact Below.refl _ _ | exact (hb4).mono (by first | omega | (simp <;> omega) | (have hh := (hb4).size; (try simp at hh); omega) | (have hh := (hb4).size; (try simp at hh); (try simp); omega) | (have hh := (h).size; (try simp at hh); omega) | (have hh := (h).size; (try simp at hh); (try simp); omega)) | refine Below.trans ?_ ((hb4).mono (by first | omega | (simp <;> omega) | (have hh := (hb4).size; (try simp at hh); omega) | (have hh := (hb4).size; (try simp at hh); (try simp); omega) | (have hh := (h).size; (try simp at hh); omega) | (have hh := (h).size; (try simp at hh); (try simp); omega))) | exact (h).mono (by first | omega | (simp <;> omega) | (have hh := (hb4).size; (try simp at hh); omega) | (have hh := (hb4).size; (try simp at hh); (try simp); omega) | (have hh := (h).size; (try simp at hh); omega) | (have hh := (h).size; (try simp at hh); (try simp); omega)) | refine Below.trans ?_ ((h).mono (by first | omega | (simp <;> omega) | (have hh := (hb4).size; (try simp at hh); omega) | (have hh := (hb4).size; (try simp at hh); (try simp); omega) | (have hh := (h).size; (try simp at hh); omega) | (have hh := (h).size; (try simp at hh); (try simp); omega))) | refine Below.alloc ?_ (by first | omega | (simp <;> omega) | (have hh := (hb4).size; (try simp at hh); omega) | (have hh := (hb4).size; (try simp at hh); (try simp); omega) | (have hh := (h).size; (try simp at hh); omega) | (have hh := (h).size; (try simp at hh); (try simp); omega)) _ | refine Below.setCell ?_ (by first | omega | (simp <;> omega) | (have hh := (hb4).size; (try simp at hh); omega) | (have hh := (hb4).size; (try simp at hh); (try simp); omega) | (have hh := (h).size; (try simp at hh); omega) | (have hh := (h).size; (try simp at hh); (try simp); omega)) _ | refine below_drewN ?_ _ | refine Below.drew ?_))⟩
            · obtain rfl : j = bs[k].phis.length := by omega
              have Hp0 := hid (firstF_zero Hall3.out)
              go_wp2_with fail
              obtain ⟨wp, rfl⟩ : ∃ wp : World, wp = wr := ⟨_, rfl⟩
              clear y0 y1 y2 y3 y4 y5 y6 hx1
              go_loopw [61] (fun i wr => ∃ j : Nat, j ≤ bs[k].list.length ∧ i = .int .i64 j ∧ (∀ j', j' < j → listE fs regs bs[k] j' = 0) ∧ Below X.heap.size X wr) (fun i _ => bs[k].list.length - (intOf i).toNat)
              case atStart => exact ⟨0, Nat.zero_le _, rfl, fun j hj => by omega, Hbx.out⟩
              case round =>
                obtain ⟨j, hj, rfl, hall3, hbx⟩ := hrel
                have Hall4 := hid hall3
                have Hbx := hid hbx
                have HWq : Hid (Below W.heap.size W wr) := HXW.out.trans (hbx.mono (HXW.out.size))
                have Hwq : Hid (Below w.heap.size w wr) := HXw.out.trans (hbx.mono (HXw.out.size))
                obtain ⟨y0, y1, y2, y3, y4, y5, y6⟩ := (HC.out.later HWq.out).get7
                simp only [Nat.zero_add] at y1 y2 y3 y4 y5 y6
                have hz6 : w.heap.size < wr.heap.size := cell_lt y0
                clear hall3 hbx
                by_cases hjl : j < bs[k].list.length
                · obtain ⟨b2, off2, cs, rfl, -, hx, -, hcs⟩ := Hls.out.get hjl
                  obtain ⟨sa, sc, rfl, hargs, hsm, hi1, hi2, hi3, hi4, hi5⟩ := hx.opens
                  obtain ⟨d0, d1, d2, d3, d4, d5, d6, d7⟩ := (hcs.later Hwq.out).get8
                  have Hargs := hid hargs
                  have Hi1 := hid hi1
                  have Hi2 := hid hi2
                  have Hi3 := hid hi3
                  have Hi4 := hid hi4
                  have Hi5 := hid hi5
                  have Hej : Hid (listE fs regs bs[k] j = insE fs regs bs[k].list[j]) := by
                    show listE fs regs bs[k] j = _
                    unfold listE; rw [List.getElem?_eq_getElem hjl]
                  clear hcs hx hargs hi1 hi2 hi3 hi4 hi5
                  by_cases hz : insE fs regs bs[k].list[j] = 0
                  · go_wp2_with (go_at_call 65; go_must ((with_reducible refine (ins_any (S := S) (S' := S') _ _ _ fs _ _ _ _ regs _ _ _ _ _ _ bs[k].list[j] _ _ _ h0 h1 ?_ ?_ hfl Hi1.out Hi2.out Hi3.out Hi4.out Hi5.out).mono ?_); refine Hfs.out.later rFunc_mono ?_; have h := Hwq.out; (repeat (first | exact Below.refl _ _ | exact (h).mono (by first | omega | (simp <;> omega) | (have hh := (h).size; (try simp at hh); omega) | (have hh := (h).size; (try simp at hh); (try simp); omega)) | refine Below.trans ?_ ((h).mono (by first | omega | (simp <;> omega) | (have hh := (h).size; (try simp at hh); omega) | (have hh := (h).size; (try simp at hh); (try simp); omega))) | refine Below.alloc ?_ (by first | omega | (simp <;> omega) | (have hh := (h).size; (try simp at hh); omega) | (have hh := (h).size; (try simp at hh); (try simp); omega)) _ | refine Below.setCell ?_ (by first | omega | (simp <;> omega) | (have hh := (h).size; (try simp at hh); omega) | (have hh := (h).size; (try simp at hh); (try simp); omega)) _ | refine below_drewN ?_ _ | refine Below.drew ?_)); refine Hargs.out.later rVal_mono ?_; have h := Hwq.out; (repeat (first | exact Below.refl _ _ | exact (h).mono (by first | omega | (simp <;> omega) | (have hh := (h).size; (try simp at hh); omega) | (have hh := (h).size; (try simp at hh); (try simp); omega)) | refine Below.trans ?_ ((h).mono (by first | omega | (simp <;> omega) | (have hh := (h).size; (try simp at hh); omega) | (have hh := (h).size; (try simp at hh); (try simp); omega))) | refine Below.alloc ?_ (by first | omega | (simp <;> omega) | (have hh := (h).size; (try simp at hh); omega) | (have hh := (h).size; (try simp at hh); (try simp); omega)) _ | refine Below.setCell ?_ (by first | omega | (simp <;> omega) | (have hh := (h).size; (try simp at hh); omega) | (have hh := (h).size; (try simp at hh); (try simp); omega)) _ | refine below_drewN ?_ _ | refine Below.drew ?_)); rintro e w4 ⟨rfl, hb4⟩))
                    go_roundw
                    case rel => exact ⟨j + 1, by omega, by go_num, ext_lt Hall4.out (Hej.out.trans hz), by have h := Hbx.out; (repeat (first | exact Below.refl _ _ | exact (hb4).mono (by first | omega | (simp <;> omega) | (have hh := (hb4).size; (try simp at hh); omega) | (have hh := (hb4).size; (try simp at hh); (try simp); omega) | (have hh := (h).size; (try simp at hh); omega) | (have hh := (h).size; (try simp at hh); (try simp); omega)) | refine Below.trans ?_ ((hb4).mono (by first | omega | (simp <;> omega) | (have hh := (hb4).size; (try simp at hh); omega) | (have hh := (hb4).size; (try simp at hh); (try simp); omega) | (have hh := (h).size; (try simp at hh); omega) | (have hh := (h).size; (try simp at hh); (try simp); omega))) | exact (h).mono (by first | omega | (simp <;> omega) | (have hh := (hb4).size; (try simp at hh); omega) | (have hh := (hb4).size; (try simp at hh); (try simp); omega) | (have hh := (h).size; (try simp at hh); omega) | (have hh := (h).size; (try simp at hh); (try simp); omega)) | refine Below.trans ?_ ((h).mono (by first | omega | (simp <;> omega) | (have hh := (hb4).size; (try simp at hh); omega) | (have hh := (hb4).size; (try simp at hh); (try simp); omega) | (have hh := (h).size; (try simp at hh); omega) | (have hh := (h).size; (try simp at hh); (try simp); omega))) | refine Below.alloc ?_ (by first | omega | (simp <;> omega) | (have hh := (hb4).size; (try simp at hh); omega) | (have hh := (hb4).size; (try simp at hh); (try simp); omega) | (have hh := (h).size; (try simp at hh); omega) | (have hh := (h).size; (try simp at hh); (try simp); omega)) _ | refine Below.setCell ?_ (by first | omega | (simp <;> omega) | (have hh := (hb4).size; (try simp at hh); omega) | (have hh := (hb4).size; (try simp at hh); (try simp); omega) | (have hh := (h).size; (try simp at hh); omega) | (have hh := (h).size; (try simp at hh); (try simp); omega)) _ | refine below_drewN ?_ _ | refine Below.drew ?_))⟩
                    case measure => simp [intOf]; omega
                  · have hz' := ne_yes hz
                    have Hr : Hid (bodyE fs f = insE fs regs bs[k].list[j]) := by
                      have h := firstF_at Hall4.out hjl (by rw [Hej.out]; exact hz)
                      rw [Hej.out] at h
                      have h2 : blockE fs regs bs k = insE fs regs bs[k].list[j] := by rw [He.out, Hp0.out, if_neg (by simp), h]
                      have h3 := firstF_at Hall2.out hlt (by rw [h2]; exact hz)
                      show bodyE fs f = _
                      unfold bodyE
                      rw [← Hregs.out, ← Hbse.out, Hf0.out, h3, h2]
                      exact if_neg (by simp)
                    clear hz
                    go_wp2_with (go_at_call 65; go_must ((with_reducible refine (ins_any (S := S) (S' := S') _ _ _ fs _ _ _ _ regs _ _ _ _ _ _ bs[k].list[j] _ _ _ h0 h1 ?_ ?_ hfl Hi1.out Hi2.out Hi3.out Hi4.out Hi5.out).mono ?_); refine Hfs.out.later rFunc_mono ?_; have h := Hwq.out; (repeat (first | exact Below.refl _ _ | exact (h).mono (by first | omega | (simp <;> omega) | (have hh := (h).size; (try simp at hh); omega) | (have hh := (h).size; (try simp at hh); (try simp); omega)) | refine Below.trans ?_ ((h).mono (by first | omega | (simp <;> omega) | (have hh := (h).size; (try simp at hh); omega) | (have hh := (h).size; (try simp at hh); (try simp); omega))) | refine Below.alloc ?_ (by first | omega | (simp <;> omega) | (have hh := (h).size; (try simp at hh); omega) | (have hh := (h).size; (try simp at hh); (try simp); omega)) _ | refine Below.setCell ?_ (by first | omega | (simp <;> omega) | (have hh := (h).size; (try simp at hh); omega) | (have hh := (h).size; (try simp at hh); (try simp); omega)) _ | refine below_drewN ?_ _ | refine Below.drew ?_)); refine Hargs.out.later rVal_mono ?_; have h := Hwq.out; (repeat (first | exact Below.refl _ _ | exact (h).mono (by first | omega | (simp <;> omega) | (have hh := (h).size; (try simp at hh); omega) | (have hh := (h).size; (try simp at hh); (try simp); omega)) | refine Below.trans ?_ ((h).mono (by first | omega | (simp <;> omega) | (have hh := (h).size; (try simp at hh); omega) | (have hh := (h).size; (try simp at hh); (try simp); omega))) | refine Below.alloc ?_ (by first | omega | (simp <;> omega) | (have hh := (h).size; (try simp at hh); omega) | (have hh := (h).size; (try simp at hh); (try simp); omega)) _ | refine Below.setCell ?_ (by first | omega | (simp <;> omega) | (have hh := (h).size; (try simp at hh); omega) | (have hh := (h).size; (try simp at hh); (try simp); omega)) _ | refine below_drewN ?_ _ | refine Below.drew ?_)); rintro e w4 ⟨rfl, hb4⟩))
                    go_ret
                    exact ⟨ret_int Hr.out.symm, by have h := Hwq.out; (repeat (first | exact Below.refl _ _ | exact (hb4).mono (by first | omega | (simp <;> omega) | (have hh := (hb4).size; (try simp at hh); omega) | (have hh := (hb4).size; (try simp at hh); (try simp); omega) | (have hh := (h).size; (try simp at hh); omega) | (have hh := (h).size; (try simp at hh); (try simp); omega)) | refine Below.trans ?_ ((hb4).mono (by first | omega | (simp <;> omega) | (have hh := (hb4).size; (try simp at hh); omega) | (have hh := (hb4).size; (try simp at hh); (try simp); omega) | (have hh := (h).size; (try simp at hh); omega) | (have hh := (h).size; (try simp at hh); (try simp); omega))) | exact (h).mono (by first | omega | (simp <;> omega) | (have hh := (hb4).size; (try simp at hh); omega) | (have hh := (hb4).size; (try simp at hh); (try simp); omega) | (have hh := (h).size; (try simp at hh); omega) | (have hh := (h).size; (try simp at hh); (try simp); omega)) | refine Below.trans ?_ ((h).mono (by first | omega | (simp <;> omega) | (have hh := (hb4).size; (try simp at hh); omega) | (have hh := (hb4).size; (try simp at hh); (try simp); omega) | (have hh := (h).size; (try simp at hh); omega) | (have hh := (h).size; (try simp at hh); (try simp); omega))) | refine Below.alloc ?_ (by first | omega | (simp <;> omega) | (have hh := (hb4).size; (try simp at hh); omega) | (have hh := (hb4).size; (try simp at hh); (try simp); omega) | (have hh := (h).size; (try simp at hh); omega) | (have hh := (h).size; (try simp at hh); (try simp); omega)) _ | refine Below.setCell ?_ (by first | omega | (simp <;> omega) | (have hh := (hb4).size; (try simp at hh); omega) | (have hh := (hb4).size; (try simp at hh); (try simp); omega) | (have hh := (h).size; (try simp at hh); omega) | (have hh := (h).size; (try simp at hh); (try simp); omega)) _ | refine below_drewN ?_ _ | refine Below.drew ?_))⟩
                · obtain rfl : j = bs[k].list.length := by omega
                  have Hb0 : Hid (blockE fs regs bs k = 0) := by
                    show blockE fs regs bs k = 0
                    rw [He.out, Hp0.out, if_neg (by simp)]
                    exact firstF_zero Hall4.out
                  go_wp2_with fail
                  go_roundw
                  case rel => exact ⟨k + 1, by omega, by go_num, ext_lt Hall2.out Hb0.out, HWq.out⟩
                  case measure => simp [intOf]; omega
        · obtain rfl : k = bs.length := by omega
          have Hr : Hid (bodyE fs f = 0) := by
            show bodyE fs f = 0
            unfold bodyE
            rw [← Hregs.out, ← Hbse.out, Hf0.out, if_neg (by simp)]
            exact firstF_zero Hall2.out
          have Hwr2 := hid hwq
          clear hwq hblw
          go_wp2_with fail
          go_ret
          exact ⟨ret_int Hr.out.symm, Hwr2.out⟩

end Go.Proofs.YtnkogppgacappaaDoor

namespace Go.Proofs.YtnkogppgacappaaDoor
open Go.RowKit

set_option maxHeartbeats 400000 in
theorem fault_any (c a : Int) (w : World) :
    Calls Tryd.prog 27 #[.int .i64 c, .int .i64 a] w fun e w' => e = .returned (.agg #[.int .i64 c, .int .i64 a]) ∧ Below w.heap.size w w' := by
  go_enter Tryd.func27, Tryd.ntmps27
  go_wp2
  refine bodyPost_ret (v := _) ?_ rfl ⟨rfl, ?_⟩
  · simp [results, Tryd.results27, go_sem]
  · (repeat (first | exact Below.refl _ _ | refine Below.alloc ?_ (by first | omega | (simp <;> omega)) _ | refine Below.setCell ?_ (by first | omega | (simp <;> omega)) _ | refine below_drewN ?_ _ | refine Below.drew ?_))

/-- A result of two numbers that lies in a variable. -/
theorem res_two {fn : Func} {t : Nat} (hfn : fn.results = #[.cell t 28]) {tmps : Array Value} {b : Nat} (ht : tmps.getD t undef = .pointer (some ⟨b, 0, none⟩)) {c a : Int} {W : World}
    (h0 : W.cell? ⟨b, 0, none⟩ = some (.int .i64 c)) (h1 : W.cell? ⟨b, 1, none⟩ = some (.int .i64 a)) : (results fn tmps).run Tryd.prog W = .ok (.agg #[.int .i64 c, .int .i64 a]) W := by
  simp only [Array.getD_eq_getD_getElem?] at ht
  simp [results, hfn, ht, go_sem, h0, h1]
theorem set_two {w : World} {b : Nat} {x y u v : Value} (h0 : w.cell? ⟨b, 0, none⟩ = some x) (h1 : w.cell? ⟨b, 1, none⟩ = some y) :
    ((w.setCell ⟨b, 0, none⟩ u).setCell ⟨b, 1, none⟩ v).cell? ⟨b, 0, none⟩ = some u ∧ ((w.setCell ⟨b, 0, none⟩ u).setCell ⟨b, 1, none⟩ v).cell? ⟨b, 1, none⟩ = some v := by
  simp only [World.cell?] at h0 h1
  cases hh : w.heap[b]? with
  | none => rw [hh] at h0; cases h0
  | some o =>
    rw [hh] at h0 h1
    cases o with
    | cells c e fr =>
      simp only [World.cell?, World.setCell, Array.getElem?_modify, hh]
      simp at h0 h1
      have l0 := (Array.getElem?_eq_some_iff.1 h0).1
      have l1 := (Array.getElem?_eq_some_iff.1 h1).1
      simp [l0, l1]
    | _ => simp at h0

def isMain (f : DFunc) : Bool := f.name.toList == [109, 97, 105, 110]
set_option maxHeartbeats 400000 in
theorem check1_any (s : ByteArray) (p r : Int) (ba : Option Addr) (n c : Nat) (w : World) :
    Calls Tryd.prog 39 #[.agg #[.string s, .int .i64 p, .int .i64 r, .slice ba n c]] w fun e w' => e = .returned (.bool (s.toList == [109, 97, 105, 110])) ∧ Below w.heap.size w w' := by
  go_enter Tryd.func39, Tryd.ntmps39
  go_wp2
  go_ret
  exact ⟨rfl, by (repeat (first | exact Below.refl _ _ | refine Below.alloc ?_ (by first | omega | (simp <;> omega)) _ | refine Below.setCell ?_ (by first | omega | (simp <;> omega)) _ | refine below_drewN ?_ _ | refine Below.drew ?_))⟩

def idxMain (fs : List DFunc) : Int := match fs.findIdx? isMain with | some k => k | none => -1
set_option maxHeartbeats 1000000 in
theorem indexMain_any {S : Nat → Prop} (fa : Option Addr) (fc : Nat) (fs : List DFunc) (w : World) (h : SlAt S w 4 rFunc (.slice fa fs.length fc) fs) (hm : fs.length ≤ 1048576) :
    Calls Tryd.prog 38 #[.slice fa fs.length fc, .func (.func 39) #[] #[]] w fun e w' => e = .returned (.int .i64 (idxMain fs)) ∧ Below w.heap.size w w' := by
  have Hh := hid h
  clear h
  go_enter Tryd.func38, Tryd.ntmps38
  go_wp2_with fail
  go_loopw [8] (fun i wr => ∃ k : Nat, k ≤ fs.length ∧ i = .int .i64 k ∧ (∀ j, j < k → ∀ x, fs[j]? = some x → isMain x = false) ∧ Below w.heap.size w wr) (fun i _ => fs.length - (intOf i).toNat)
  case atStart => exact ⟨0, Nat.zero_le _, rfl, fun j hj => by omega, Below.refl _ _⟩
  case round =>
    obtain ⟨k, hk, rfl, hall, hb⟩ := hrel
    have H := hid hall
    have Hb := hid hb
    clear hall
    by_cases hlt : k < fs.length
    · obtain ⟨b, off, cs, rfl, -, hx, -, hcs⟩ := Hh.out.get hlt
      obtain ⟨ba, bc, rfl, -, -, -, -⟩ := hx.opens
      obtain ⟨c0, c1, c2, c3⟩ := (hcs.later hb).get4
      clear hcs hx hb
      by_cases he : isMain fs[k] = true
      · have hi : idxMain fs = k := by unfold idxMain; rw [idx_some (List.getElem?_eq_getElem hlt) he H.out]
        have he' : (fs[k].name.toList == [109, 97, 105, 110]) = true := he
        have Hi := hid hi
        clear hi he
        go_wp2_with (go_at_call 39; ((with_reducible refine (check1_any _ _ _ _ _ _ _).mono ?_); rintro e w2 ⟨rfl, hb2⟩))
        go_ret
        exact ⟨ret_int Hi.out.symm, by have h := Hb.out; (repeat (first | exact Below.refl _ _ | exact (hb2).mono (by first | omega | (simp <;> omega) | (have hh := (hb2).size; (try simp at hh); omega) | (have hh := (hb2).size; (try simp at hh); (try simp); omega) | (have hh := (h).size; (try simp at hh); omega) | (have hh := (h).size; (try simp at hh); (try simp); omega)) | refine Below.trans ?_ ((hb2).mono (by first | omega | (simp <;> omega) | (have hh := (hb2).size; (try simp at hh); omega) | (have hh := (hb2).size; (try simp at hh); (try simp); omega) | (have hh := (h).size; (try simp at hh); omega) | (have hh := (h).size; (try simp at hh); (try simp); omega))) | exact (h).mono (by first | omega | (simp <;> omega) | (have hh := (hb2).size; (try simp at hh); omega) | (have hh := (hb2).size; (try simp at hh); (try simp); omega) | (have hh := (h).size; (try simp at hh); omega) | (have hh := (h).size; (try simp at hh); (try simp); omega)) | refine Below.trans ?_ ((h).mono (by first | omega | (simp <;> omega) | (have hh := (hb2).size; (try simp at hh); omega) | (have hh := (hb2).size; (try simp at hh); (try simp); omega) | (have hh := (h).size; (try simp at hh); omega) | (have hh := (h).size; (try simp at hh); (try simp); omega))) | refine Below.alloc ?_ (by first | omega | (simp <;> omega) | (have hh := (hb2).size; (try simp at hh); omega) | (have hh := (hb2).size; (try simp at hh); (try simp); omega) | (have hh := (h).size; (try simp at hh); omega) | (have hh := (h).size; (try simp at hh); (try simp); omega)) _ | refine Below.setCell ?_ (by first | omega | (simp <;> omega) | (have hh := (hb2).size; (try simp at hh); omega) | (have hh := (hb2).size; (try simp at hh); (try simp); omega) | (have hh := (h).size; (try simp at hh); omega) | (have hh := (h).size; (try simp at hh); (try simp); omega)) _ | refine below_drewN ?_ _ | refine Below.drew ?_))⟩
      · have he0 : isMain fs[k] = false := by simpa using he
        have he' : (fs[k].name.toList == [109, 97, 105, 110]) = false := he0
        have He := hid he0
        clear he0 he
        go_wp2_with (go_at_call 39; ((with_reducible refine (check1_any _ _ _ _ _ _ _).mono ?_); rintro e w2 ⟨rfl, hb2⟩))
        go_roundw
        case rel => exact ⟨k + 1, by omega, by go_num, ext_lt H.out (fun x hx => by rw [List.getElem?_eq_getElem hlt] at hx; cases hx; exact He.out), by have h := Hb.out; (repeat (first | exact Below.refl _ _ | exact (hb2).mono (by first | omega | (simp <;> omega) | (have hh := (hb2).size; (try simp at hh); omega) | (have hh := (hb2).size; (try simp at hh); (try simp); omega) | (have hh := (h).size; (try simp at hh); omega) | (have hh := (h).size; (try simp at hh); (try simp); omega)) | refine Below.trans ?_ ((hb2).mono (by first | omega | (simp <;> omega) | (have hh := (hb2).size; (try simp at hh); omega) | (have hh := (hb2).size; (try simp at hh); (try simp); omega) | (have hh := (h).size; (try simp at hh); omega) | (have hh := (h).size; (try simp at hh); (try simp); omega))) | exact (h).mono (by first | omega | (simp <;> omega) | (have hh := (hb2).size; (try simp at hh); omega) | (have hh := (hb2).size; (try simp at hh); (try simp); omega) | (have hh := (h).size; (try simp at hh); omega) | (have hh := (h).size; (try simp at hh); (try simp); omega)) | refine Below.trans ?_ ((h).mono (by first | omega | (simp <;> omega) | (have hh := (hb2).size; (try simp at hh); omega) | (have hh := (hb2).size; (try simp at hh); (try simp); omega) | (have hh := (h).size; (try simp at hh); omega) | (have hh := (h).size; (try simp at hh); (try simp); omega))) | refine Below.alloc ?_ (by first | omega | (simp <;> omega) | (have hh := (hb2).size; (try simp at hh); omega) | (have hh := (hb2).size; (try simp at hh); (try simp); omega) | (have hh := (h).size; (try simp at hh); omega) | (have hh := (h).size; (try simp at hh); (try simp); omega)) _ | refine Below.setCell ?_ (by first | omega | (simp <;> omega) | (have hh := (hb2).size; (try simp at hh); omega) | (have hh := (hb2).size; (try simp at hh); (try simp); omega) | (have hh := (h).size; (try simp at hh); omega) | (have hh := (h).size; (try simp at hh); (try simp); omega)) _ | refine below_drewN ?_ _ | refine Below.drew ?_))⟩
        case measure => simp [intOf]; omega
    · have hi : idxMain fs = -1 := by
        unfold idxMain
        rw [idx_none (fun j x hx => H.out j (by have := (List.getElem?_eq_some_iff.1 hx).1; omega) x hx)]
      have Hi := hid hi
      clear hi hb
      go_wp2_with fail
      go_ret
      exact ⟨ret_int Hi.out.symm, Hb.out⟩

end Go.Proofs.YtnkogppgacappaaDoor

namespace Go.Proofs.YtnkogppgacappaaDoor
open Go.RowKit

/-- The first place below n at which e is not 0; n if there is none. -/
def posF (e : Nat → Int) : Nat → Nat
  | 0 => 0
  | n + 1 => if posF e n < n then posF e n else if e n ≠ 0 then n else n + 1
theorem posF_all {e : Nat → Int} {n : Nat} (h : ∀ j, j < n → e j = 0) : posF e n = n := by
  induction n with
  | zero => rfl
  | succ n ih => rw [posF, ih (fun j hj => h j (by omega)), if_neg (by omega), if_neg (by simpa using h n (by omega))]
theorem posF_at {e : Nat → Int} {n k : Nat} (h : ∀ j, j < k → e j = 0) (hk : k < n) (he : e k ≠ 0) : posF e n = k := by
  induction n with
  | zero => omega
  | succ n ih =>
    rw [posF]
    rcases Nat.lt_succ_iff_lt_or_eq.1 hk with h1 | h1
    · rw [ih h1, if_pos h1]
    · subst h1; rw [posF_all h, if_neg (by omega), if_pos he]
theorem posF_inv {e : Nat → Int} {n : Nat} (h : ¬ posF e n < n) : ∀ j, j < n → e j = 0 := by
  induction n with
  | zero => intro j hj; omega
  | succ n ih =>
    rw [posF] at h
    by_cases h1 : posF e n < n
    · rw [if_pos h1] at h; omega
    · rw [if_neg h1] at h
      by_cases h2 : e n = 0
      · exact ext_lt (ih h1) h2
      · rw [if_pos h2] at h; omega
theorem posF_ne {e : Nat → Int} {n : Nat} (h : posF e n < n) : e (posF e n) ≠ 0 := by
  induction n with
  | zero => omega
  | succ n ih =>
    rw [posF] at h ⊢
    by_cases h1 : posF e n < n
    · rw [if_pos h1]; exact ih h1
    · rw [if_neg h1] at h ⊢
      by_cases h2 : e n ≠ 0
      · rw [if_pos h2]; exact h2
      · rw [if_neg h2] at h; omega

def gNames (gs : List DGlobal) (k : Nat) : List ByteArray := (gs.take k).map (·.name)
def wordsUp (gs : List DGlobal) (k : Nat) : Int := ((gs.take k).map (·.size)).sum
def fNames (gs : List DGlobal) (fs : List DFunc) (k : Nat) : List ByteArray := gNames gs gs.length ++ (fs.take k).map (·.name)
def globErr (names : List ByteArray) (words : Int) (g : DGlobal) : Int :=
  if nameOk g.name = false then 12
  else if hasStr names g.name = true then 7
  else if ¬ (1 ≤ g.size ∧ g.size ≤ 200) then 3
  else if g.size < (g.init.length : Int) then 9
  else if 200 < words + g.size then 10
  else 0
def globE (gs : List DGlobal) (k : Nat) : Int := match gs[k]? with | some g => globErr (gNames gs k) (wordsUp gs k) g | none => 0
def headsE (gs : List DGlobal) (fs : List DFunc) (k : Nat) : Int := match fs[k]? with | some f => headE (fNames gs fs k) f | none => 0
def bodiesE (fs : List DFunc) (k : Nat) : Int := match fs[k]? with | some f => bodyE fs f | none => 0
def lastE (fs : List DFunc) : Int × Int :=
  if idxMain fs < 0 then (6, 0) else if 0 < (fs.getD (idxMain fs).toNat ⟨ByteArray.empty, 0, 0, []⟩).params then (5, idxMain fs) else (0, 0)
def checkF (u : DUnit) : Int × Int :=
  if 10 < u.globals.length ∨ 10 < u.funcs.length then (2, 0)
  else if posF (globE u.globals) u.globals.length < u.globals.length then (globE u.globals (posF (globE u.globals) u.globals.length), posF (globE u.globals) u.globals.length)
  else if posF (headsE u.globals u.funcs) u.funcs.length < u.funcs.length then (headsE u.globals u.funcs (posF (headsE u.globals u.funcs) u.funcs.length), posF (headsE u.globals u.funcs) u.funcs.length)
  else if posF (bodiesE u.funcs) u.funcs.length < u.funcs.length then (bodiesE u.funcs (posF (bodiesE u.funcs) u.funcs.length), posF (bodiesE u.funcs) u.funcs.length)
  else lastE u.funcs

theorem gNames_succ {gs : List DGlobal} {k : Nat} (h : k < gs.length) : gNames gs (k + 1) = gNames gs k ++ [gs[k].name] := by
  unfold gNames; rw [List.take_succ_eq_append_getElem h, List.map_append]; rfl
theorem fNames_succ {gs : List DGlobal} {fs : List DFunc} {k : Nat} (h : k < fs.length) : fNames gs fs (k + 1) = fNames gs fs k ++ [fs[k].name] := by
  unfold fNames; rw [List.take_succ_eq_append_getElem h, List.map_append, List.append_assoc]; rfl
theorem wordsUp_succ {gs : List DGlobal} {k : Nat} (h : k < gs.length) : wordsUp gs (k + 1) = wordsUp gs k + gs[k].size := by
  unfold wordsUp; rw [List.take_succ_eq_append_getElem h, List.map_append, List.sum_append]; simp
theorem globErr_ok {names : List ByteArray} {words : Int} {g : DGlobal} (h : globErr names words g = 0) :
    nameOk g.name = true ∧ hasStr names g.name = false ∧ 1 ≤ g.size ∧ g.size ≤ 200 ∧ (g.init.length : Int) ≤ g.size ∧ words + g.size ≤ 200 := by
  unfold globErr at h
  by_cases h1 : nameOk g.name = false
  · rw [if_pos h1] at h; omega
  rw [if_neg h1] at h
  by_cases h2 : hasStr names g.name = true
  · rw [if_pos h2] at h; omega
  rw [if_neg h2] at h
  by_cases h3 : 1 ≤ g.size ∧ g.size ≤ 200
  case neg => rw [if_pos h3] at h; omega
  rw [if_neg (by simpa using h3)] at h
  by_cases h4 : g.size < (g.init.length : Int)
  · rw [if_pos h4] at h; omega
  rw [if_neg h4] at h
  by_cases h5 : 200 < words + g.size
  · rw [if_pos h5] at h; omega
  exact ⟨by simpa using h1, by simpa using h2, h3.1, h3.2, by omega, by omega⟩
theorem headE_ok {names : List ByteArray} {f : DFunc} (h : headE names f = 0) :
    nameOk f.name = true ∧ hasStr names f.name = false ∧ 0 ≤ f.params ∧ f.params ≤ 6 ∧ f.params ≤ f.regs ∧ f.regs ≤ 100 ∧ 1 ≤ f.blocks.length ∧ f.blocks.length ≤ 40 ∧ manyOf f.blocks ≤ 300 := by
  unfold headE at h
  by_cases h1 : nameOk f.name = false
  · rw [if_pos h1] at h; omega
  rw [if_neg h1] at h
  by_cases h2 : hasStr names f.name = true
  · rw [if_pos h2] at h; omega
  rw [if_neg h2] at h
  by_cases h3 : ¬ (0 ≤ f.params ∧ f.params ≤ 6) ∨ ¬ (f.params ≤ f.regs ∧ f.regs ≤ 100)
  · rw [if_pos h3] at h; omega
  rw [if_neg h3] at h
  by_cases h4 : ¬ (1 ≤ f.blocks.length ∧ f.blocks.length ≤ 40) ∨ 300 < manyOf f.blocks
  · rw [if_pos h4] at h; omega
  exact ⟨by simpa using h1, by simpa using h2, by omega, by omega, by omega, by omega, by omega, by omega, by omega⟩
theorem idxMain_lt {fs : List DFunc} (h : ¬ idxMain fs < 0) : ∃ m : Nat, m < fs.length ∧ idxMain fs = m := by
  unfold idxMain at *
  split at h
  · rename_i k hk
    rw [List.findIdx?_eq_some_iff_getElem] at hk
    exact ⟨k, hk.1, rfl⟩
  · omega
theorem words_bound {gs : List DGlobal} {k : Nat} (hk : k ≤ gs.length) (h : ∀ j, j < k → globE gs j = 0) : 0 ≤ wordsUp gs k ∧ wordsUp gs k ≤ 200 := by
  induction k with
  | zero => simp [wordsUp]
  | succ k ih =>
    have h1 := ih (by omega) (fun j hj => h j (by omega))
    have h2 := h k (by omega)
    have hlt : k < gs.length := by omega
    unfold globE at h2
    rw [List.getElem?_eq_getElem hlt] at h2
    have h3 := globErr_ok h2
    rw [wordsUp_succ hlt]
    omega

/-- What is owned stays owned where nothing that was there is turned. -/
theorem ownsRow_later {w w' : World} {base : Nat} {e : TypeId} {size n : Nat} {v : Value} {xs : List Value} (h : w.ownsRow base e size v n xs) (hb : Below w.heap.size w w') : w'.ownsRow base e size v n xs := by
  obtain ⟨h1, h2⟩ := h
  refine ⟨h1, ?_⟩
  rcases h2 with h2 | ⟨g, cap, cur, hv, hg, hh, r⟩
  · exact .inl h2
  · have hlt : g < w.heap.size := by
      rcases Nat.lt_or_ge g w.heap.size with h3 | h3
      · exact h3
      · rw [Array.getElem?_eq_none h3] at hh; cases hh
    exact .inr ⟨g, cap, cur, hv, hg, by rw [hb.block g hlt]; exact hh, r⟩

/-- An owned row of one-cell things, read. -/
theorem own_sl {α : Type} {r : Rp α} (f : α → Value) {w : World} {base : Nat} {e : TypeId} {v : Value} {l : List α} (h : w.ownsRow base e 1 v l.length (l.map f)) (hr : ∀ x ∈ l, r (fun b => base ≤ b) w [f x] x) :
    SlAt (fun b => base ≤ b) w 1 r v l := by
  obtain ⟨h1, h2⟩ := h
  rcases h2 with ⟨rfl, h2⟩ | ⟨g, cap, cur, rfl, hg, hh, hn, hm, hs, ht⟩
  · have : l = [] := List.eq_nil_of_length_eq_zero h2
    subst this
    exact ⟨none, 0, rfl, Nat.le_refl _, by omega, fun h => absurd rfl h⟩
  · refine ⟨_, cap, rfl, hn, by unfold maxLen at hm; exact hm, fun _ => ⟨g, 0, rfl, hg, fun i x hx => ⟨[f x], hr x (List.mem_of_getElem? hx), rfl, ?_⟩⟩⟩
    refine .cons ?_ (.nil _ _ _)
    have h3 : (l.map f)[i]? = some (f x) := by rw [List.getElem?_map, hx]; rfl
    rw [← ht, Nat.mul_one, List.getElem?_take] at h3
    have hi : i < l.length := (List.getElem?_eq_some_iff.1 hx).1
    rw [if_pos hi] at h3
    simp only [World.cell?, hh, Nat.zero_add, Nat.mul_one]
    simpa using h3
theorem own_strs {w : World} {base : Nat} {e : TypeId} {v : Value} {l : List ByteArray} (h : w.ownsRow base e 1 v l.length (l.map Value.string)) : SlAt (fun b => base ≤ b) w 1 rStr v l :=
  own_sl Value.string h (fun _ _ => rfl)

end Go.Proofs.YtnkogppgacappaaDoor
