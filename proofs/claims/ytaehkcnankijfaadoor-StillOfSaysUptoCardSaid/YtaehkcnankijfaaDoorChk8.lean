/- The contract of the checker's phi. -/
import Derived.Test.YtaehkcnankijfaaDoorChk5
namespace Go.Proofs.YtaehkcnankijfaaDoor
open Go.RowKit

def rRow : Rp (List Int) := fun S w cs l => ∃ v, cs = [v] ∧ SlAt S w 1 rInt v l
theorem rRow_mono : rRow.Mono := ⟨fun _ _ _ _ _ _ hS hw ⟨v, h1, h2⟩ => ⟨v, h1, h2.mono rInt_mono hS hw⟩⟩

theorem dstE_or (regs n : Int) : dstE regs n = 0 ∨ dstE regs n = 3 := by unfold dstE; split <;> simp

def phiE (regs : Int) (block : Nat) (ahead : List (List Int)) (p : DPhi) : Int :=
  if block = 0 then 5
  else if dstE regs p.dst ≠ 0 then 3
  else if p.src.length ≠ (ahead.getD block []).length then 9
  else argsE regs p.src

set_option maxHeartbeats 1000000 in
theorem phi_any {S S' : Nat → Prop} (ga : Option Addr) (gn gc : Nat) (fa : Option Addr) (fn fc : Nat) (s : ByteArray) (p regs : Int) (ba : Option Addr) (bn bc : Nat) (aa : Option Addr) (ac : Nat) (ahead : List (List Int)) (x : DPhi) (ra : Option Addr) (rc : Nat) (k : Nat) (w : World)
    (h0 : 0 ≤ regs) (h1 : regs ≤ 100) (hah : SlAt S w 1 rRow (.slice aa ahead.length ac) ahead) (has : SlAt S' w 2 rVal (.slice ra x.src.length rc) x.src) (hk : k < ahead.length) (_hal : ahead.length ≤ 1048576) :
    Calls Tryd.prog 77 #[.agg #[.slice ga gn gc, .slice fa fn fc, .string s, .int .i64 p, .int .i64 regs, .slice ba bn bc, .slice aa ahead.length ac], .int .i64 k, .agg #[.int .i64 x.dst, .slice ra x.src.length rc]] w fun e w' =>
      e = .returned (.int .i64 (phiE regs k ahead x)) ∧ Below w.heap.size w w' := by
  have Has := hid has
  obtain ⟨_, _, ha1, ha2⟩ := has.val
  cases ha1
  have Hah := hid hah
  clear has
  by_cases hk0 : k = 0
  · subst hk0
    have Hr := hid (show phiE regs 0 ahead x = 5 by simp [phiE])
    clear hah
    go_enter Tryd.func77, Tryd.ntmps77
    go_wp2_with fail
    go_ret
    exact ⟨ret_int Hr.out.symm, by (repeat (first | exact Below.refl _ _ | refine Below.alloc ?_ (by first | omega | (simp <;> omega)) _ | refine Below.setCell ?_ (by first | omega | (simp <;> omega)) _ | refine below_drewN ?_ _ | refine Below.drew ?_))⟩
  have hk1 : (0 : Int) < k := by omega
  have Hk0 := hid hk0
  clear hk0
  by_cases hd : dstE regs x.dst = 0
  case neg =>
    have hd3 : dstE regs x.dst = 3 := (dstE_or _ _).resolve_left hd
    have Hr := hid (show phiE regs k ahead x = 3 by simp only [phiE, Hk0.out, hd3]; simp)
    clear hah hd
    go_enter Tryd.func77, Tryd.ntmps77
    go_wp2_with (go_at_call 122; ((with_reducible refine (dst_any _ _ _ _ _ _ _ _ _ h0 h1).mono ?_); rintro e w1 ⟨rfl, hb1⟩))
    go_ret
    exact ⟨ret_int Hr.out.symm, by (repeat (first | exact Below.refl _ _ | exact (hb1).mono (by first | omega | (simp <;> omega) | (have hh := (hb1).size; (try simp at hh); omega) | (have hh := (hb1).size; (try simp at hh); (try simp); omega)) | refine Below.trans ?_ ((hb1).mono (by first | omega | (simp <;> omega) | (have hh := (hb1).size; (try simp at hh); omega) | (have hh := (hb1).size; (try simp at hh); (try simp); omega))) | refine Below.alloc ?_ (by first | omega | (simp <;> omega) | (have hh := (hb1).size; (try simp at hh); omega) | (have hh := (hb1).size; (try simp at hh); (try simp); omega)) _ | refine Below.setCell ?_ (by first | omega | (simp <;> omega) | (have hh := (hb1).size; (try simp at hh); omega) | (have hh := (hb1).size; (try simp at hh); (try simp); omega)) _ | refine below_drewN ?_ _ | refine Below.drew ?_))⟩
  obtain ⟨b, off, cs, rfl, -, ⟨v, rfl, hv⟩, -, hcs⟩ := hah.get hk
  obtain ⟨va, vc, rfl, hvm⟩ := hv.val
  have hcell := hcs.get1
  have hbl := cell_lt hcell
  simp only [Nat.mul_one] at hcell
  have hgd : ahead.getD k [] = ahead[k] := by rw [List.getD_eq_getElem?_getD, List.getElem?_eq_getElem hk]; rfl
  have Hgd := hid hgd
  clear hah hcs hv hgd
  by_cases hlen : x.src.length = ahead[k].length
  case neg =>
    have Hr := hid (show phiE regs k ahead x = 9 by simp only [phiE, Hk0.out, hd, Hgd.out]; simp [hlen])
    have hlen' : (x.src.length : Int) < ahead[k].length ∨ (ahead[k].length : Int) < x.src.length := by omega
    clear hlen
    go_enter Tryd.func77, Tryd.ntmps77
    go_wp2_with (go_at_call 122; ((with_reducible refine (dst_any _ _ _ _ _ _ _ _ _ h0 h1).mono ?_); rintro e w1 ⟨rfl, hb1⟩; obtain ⟨hc1, hf1⟩ := below_cells hb1; have hz1 : w.heap.size + 1 < w1.heap.size := (by have := hb1.size; simp at this; omega); have hz0 : w.heap.size < w1.heap.size := (by omega); have hcell1 := cell_later' hcell (Below.trans (by (repeat (first | exact Below.refl _ _ | refine Below.alloc ?_ (by first | omega | (simp <;> omega)) _ | refine Below.setCell ?_ (by first | omega | (simp <;> omega)) _ | refine below_drewN ?_ _ | refine Below.drew ?_))) (hb1.mono (by simp; omega)))))
    go_quiet (fail)
    go_wp2_with fail
    go_ret
    exact ⟨ret_int Hr.out.symm, by (repeat (first | exact Below.refl _ _ | exact (hb1).mono (by first | omega | (simp <;> omega) | (have hh := (hb1).size; (try simp at hh); omega) | (have hh := (hb1).size; (try simp at hh); (try simp); omega)) | refine Below.trans ?_ ((hb1).mono (by first | omega | (simp <;> omega) | (have hh := (hb1).size; (try simp at hh); omega) | (have hh := (hb1).size; (try simp at hh); (try simp); omega))) | refine Below.alloc ?_ (by first | omega | (simp <;> omega) | (have hh := (hb1).size; (try simp at hh); omega) | (have hh := (hb1).size; (try simp at hh); (try simp); omega)) _ | refine Below.setCell ?_ (by first | omega | (simp <;> omega) | (have hh := (hb1).size; (try simp at hh); omega) | (have hh := (hb1).size; (try simp at hh); (try simp); omega)) _ | refine below_drewN ?_ _ | refine Below.drew ?_))⟩
  have Hr := hid (show phiE regs k ahead x = argsE regs x.src by simp only [phiE, Hk0.out, hd, Hgd.out]; simp [hlen])
  have hq := ne_noN hlen
  clear hlen
  go_enter Tryd.func77, Tryd.ntmps77
  go_wp2_with (go_at_call 122; ((with_reducible refine (dst_any _ _ _ _ _ _ _ _ _ h0 h1).mono ?_); rintro e w1 ⟨rfl, hb1⟩; obtain ⟨hc1, hf1⟩ := below_cells hb1; have hz1 : w.heap.size + 1 < w1.heap.size := (by have := hb1.size; simp at this; omega); have hz0 : w.heap.size < w1.heap.size := (by omega); have hcell1 := cell_later' hcell (Below.trans (by (repeat (first | exact Below.refl _ _ | refine Below.alloc ?_ (by first | omega | (simp <;> omega)) _ | refine Below.setCell ?_ (by first | omega | (simp <;> omega)) _ | refine below_drewN ?_ _ | refine Below.drew ?_))) (hb1.mono (by simp; omega)))))
  go_quiet (fail)
  go_wp2_with fail
  go_loopw [33] (fun i wr => ∃ k : Nat, k ≤ x.src.length ∧ i = .int .i64 k ∧ (∀ j, j < k → ∀ y, x.src[j]? = some y → valE regs y = 0) ∧ Below (w.heap.size + 2) w1 wr) (fun i _ => x.src.length - (intOf i).toNat)
  case atStart => exact ⟨0, Nat.zero_le _, rfl, fun j hj => by omega, by (repeat (first | exact Below.refl _ _ | refine Below.alloc ?_ (by first | omega | (simp <;> omega)) _ | refine Below.setCell ?_ (by first | omega | (simp <;> omega)) _ | refine below_drewN ?_ _ | refine Below.drew ?_))⟩
  case round =>
    obtain ⟨k', hk, rfl, hall, hbl⟩ := hrel
    have Hall := hid hall
    have hwr : Below w.heap.size w wr := ((by (repeat (first | exact Below.refl _ _ | refine Below.alloc ?_ (by first | omega | (simp <;> omega)) _ | refine Below.setCell ?_ (by first | omega | (simp <;> omega)) _ | refine below_drewN ?_ _ | refine Below.drew ?_)) : Below w.heap.size w ((w.alloc (.cells #[.slice ga gn gc, .slice fa fn fc, .string s, .int .i64 p, .int .i64 regs, .slice ba bn bc, .slice (some ⟨b, off, none⟩) ahead.length ac] 88)).alloc (.cells #[.int .i64 x.dst, .slice ra x.src.length rc] 72)))).trans ((hb1.mono (by simp; omega)).trans (hbl.mono (by omega)))
    have Hwr := hid hwr
    have Hbl := hid hbl
    obtain ⟨hc2, hf2⟩ := below_cells hbl
    have hsz := hbl.size
    have hsz1 : w.heap.size < wr.heap.size := by omega
    have hsz2 : w.heap.size + 1 < wr.heap.size := by omega
    clear hall hwr hbl
    by_cases hlt : k' < x.src.length
    · obtain ⟨b2, off2, cs, rfl, -, ⟨rfl, -⟩, -, hcs⟩ := (Has.out.later rVal_mono Hwr.out).get hlt
      obtain ⟨e0, e1⟩ := hcs.get2
      have hb2lt := cell_lt e0
      clear hcs
      have e0' := hid e0
      by_cases hv : valE regs x.src[k'] = 0
      · go_wp2_with (go_at_call 121; ((with_reducible refine (val_any _ _ _ _ _ _ _ _ _ _ h0 h1).mono ?_); rintro e w2 ⟨rfl, hb2⟩))
        go_roundw
        case rel => exact ⟨k' + 1, by omega, by go_num, ext_lt Hall.out (fun y hy => by rw [List.getElem?_eq_getElem hlt] at hy; cases hy; exact hv), by have h := Hbl.out; (repeat (first | exact Below.refl _ _ | exact (hb2).mono (by first | omega | (simp <;> omega) | (have hh := (hb2).size; (try simp at hh); omega) | (have hh := (hb2).size; (try simp at hh); (try simp); omega) | (have hh := (h).size; (try simp at hh); omega) | (have hh := (h).size; (try simp at hh); (try simp); omega)) | refine Below.trans ?_ ((hb2).mono (by first | omega | (simp <;> omega) | (have hh := (hb2).size; (try simp at hh); omega) | (have hh := (hb2).size; (try simp at hh); (try simp); omega) | (have hh := (h).size; (try simp at hh); omega) | (have hh := (h).size; (try simp at hh); (try simp); omega))) | exact (h).mono (by first | omega | (simp <;> omega) | (have hh := (hb2).size; (try simp at hh); omega) | (have hh := (hb2).size; (try simp at hh); (try simp); omega) | (have hh := (h).size; (try simp at hh); omega) | (have hh := (h).size; (try simp at hh); (try simp); omega)) | refine Below.trans ?_ ((h).mono (by first | omega | (simp <;> omega) | (have hh := (hb2).size; (try simp at hh); omega) | (have hh := (hb2).size; (try simp at hh); (try simp); omega) | (have hh := (h).size; (try simp at hh); omega) | (have hh := (h).size; (try simp at hh); (try simp); omega))) | refine Below.alloc ?_ (by first | omega | (simp <;> omega) | (have hh := (hb2).size; (try simp at hh); omega) | (have hh := (hb2).size; (try simp at hh); (try simp); omega) | (have hh := (h).size; (try simp at hh); omega) | (have hh := (h).size; (try simp at hh); (try simp); omega)) _ | refine Below.setCell ?_ (by first | omega | (simp <;> omega) | (have hh := (hb2).size; (try simp at hh); omega) | (have hh := (hb2).size; (try simp at hh); (try simp); omega) | (have hh := (h).size; (try simp at hh); omega) | (have hh := (h).size; (try simp at hh); (try simp); omega)) _ | refine below_drewN ?_ _ | refine Below.drew ?_))⟩
        case measure => simp [intOf]; omega
      · have Ha := hid (argsE_bad (List.getElem?_eq_getElem hlt) hv)
        have hv3 : valE regs x.src[k'] = 3 := (valE_or _ _).resolve_left hv
        go_wp2_with (go_at_call 121; ((with_reducible refine (val_any _ _ _ _ _ _ _ _ _ _ h0 h1).mono ?_); rintro e w2 ⟨rfl, hb2⟩))
        go_ret
        exact ⟨ret_int (by rw [Hr.out, Ha.out, hv3]), by have h := Hwr.out; (repeat (first | exact Below.refl _ _ | exact (hb2).mono (by first | omega | (simp <;> omega) | (have hh := (hb2).size; (try simp at hh); omega) | (have hh := (hb2).size; (try simp at hh); (try simp); omega) | (have hh := (h).size; (try simp at hh); omega) | (have hh := (h).size; (try simp at hh); (try simp); omega)) | refine Below.trans ?_ ((hb2).mono (by first | omega | (simp <;> omega) | (have hh := (hb2).size; (try simp at hh); omega) | (have hh := (hb2).size; (try simp at hh); (try simp); omega) | (have hh := (h).size; (try simp at hh); omega) | (have hh := (h).size; (try simp at hh); (try simp); omega))) | exact (h).mono (by first | omega | (simp <;> omega) | (have hh := (hb2).size; (try simp at hh); omega) | (have hh := (hb2).size; (try simp at hh); (try simp); omega) | (have hh := (h).size; (try simp at hh); omega) | (have hh := (h).size; (try simp at hh); (try simp); omega)) | refine Below.trans ?_ ((h).mono (by first | omega | (simp <;> omega) | (have hh := (hb2).size; (try simp at hh); omega) | (have hh := (hb2).size; (try simp at hh); (try simp); omega) | (have hh := (h).size; (try simp at hh); omega) | (have hh := (h).size; (try simp at hh); (try simp); omega))) | refine Below.alloc ?_ (by first | omega | (simp <;> omega) | (have hh := (hb2).size; (try simp at hh); omega) | (have hh := (hb2).size; (try simp at hh); (try simp); omega) | (have hh := (h).size; (try simp at hh); omega) | (have hh := (h).size; (try simp at hh); (try simp); omega)) _ | refine Below.setCell ?_ (by first | omega | (simp <;> omega) | (have hh := (hb2).size; (try simp at hh); omega) | (have hh := (hb2).size; (try simp at hh); (try simp); omega) | (have hh := (h).size; (try simp at hh); omega) | (have hh := (h).size; (try simp at hh); (try simp); omega)) _ | refine below_drewN ?_ _ | refine Below.drew ?_))⟩
    · have Ha := hid (argsE_zero (regs := regs) (l := x.src) (fun j y hy => Hall.out j (by have := (List.getElem?_eq_some_iff.1 hy).1; omega) y hy))
      go_wp2_with fail
      go_ret
      exact ⟨ret_int (by rw [Hr.out, Ha.out]), by have h := Hwr.out; (repeat (first | exact Below.refl _ _ | exact (h).mono (by first | omega | (simp <;> omega) | (have hh := (h).size; (try simp at hh); omega) | (have hh := (h).size; (try simp at hh); (try simp); omega)) | refine Below.trans ?_ ((h).mono (by first | omega | (simp <;> omega) | (have hh := (h).size; (try simp at hh); omega) | (have hh := (h).size; (try simp at hh); (try simp); omega))) | refine Below.alloc ?_ (by first | omega | (simp <;> omega) | (have hh := (h).size; (try simp at hh); omega) | (have hh := (h).size; (try simp at hh); (try simp); omega)) _ | refine Below.setCell ?_ (by first | omega | (simp <;> omega) | (have hh := (h).size; (try simp at hh); omega) | (have hh := (h).size; (try simp at hh); (try simp); omega)) _ | refine below_drewN ?_ _ | refine Below.drew ?_))⟩

end Go.Proofs.YtaehkcnankijfaaDoor
