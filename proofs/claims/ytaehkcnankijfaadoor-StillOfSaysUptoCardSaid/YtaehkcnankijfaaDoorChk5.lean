/- Contracts of the three closures of the checker's ins, and of code.first over them. -/
import Derived.Test.YtaehkcnankijfaaDoorLib
import Derived.Deep.QuietTactic
import Derived.BigQuiet
namespace Go.Proofs.YtaehkcnankijfaaDoor
open Go.RowKit

set_option maxHeartbeats 400000 in
theorem ins1_any (cb xb : Nat) (g f nm ps : Value) (regs : Int) (ba : Option Addr) (bn bc : Nat) (aa : Option Addr) (an ac : Nat) (v : DVal) (w : World) (h0 : 0 ≤ regs) (h1 : regs ≤ 100)
    (ga : Option Addr) (gn gc : Nat) (fa : Option Addr) (fn fc : Nat) (s : ByteArray) (p : Int) (hg : g = .slice ga gn gc) (hf : f = .slice fa fn fc) (hnm : nm = .string s) (hps : ps = .int .i64 p)
    (hc : CellsAt w cb 0 [g, f, nm, ps, .int .i64 regs, .slice ba bn bc, .slice aa an ac]) (hr : w.cell? ⟨xb, 2, none⟩ = some (.bool v.reg)) (hn : w.cell? ⟨xb, 3, none⟩ = some (.int .i64 v.n)) :
    Calls Tryd.prog 124 #[.pointer (some ⟨cb, 0, none⟩), .pointer (some ⟨xb, 0, none⟩)] w fun e w' => e = .returned (.int .i64 (valE regs v)) ∧ Below w.heap.size w w' := by
  subst hg hf hnm hps
  obtain ⟨c0, c1, c2, c3, c4, c5, c6⟩ := hc.get7
  simp only [Nat.zero_add] at c1 c2 c3 c4 c5 c6
  clear hc
  go_enter Tryd.func124, Tryd.ntmps124
  go_wp2_with (go_at_call 121; ((with_reducible refine (val_any _ _ _ _ _ _ _ _ _ _ h0 h1).mono ?_); rintro e w1 ⟨rfl, hb1⟩))
  go_ret
  exact ⟨rfl, by (repeat (first | exact Below.refl _ _ | exact (hb1).mono (by first | omega | (simp <;> omega) | (have hh := (hb1).size; (try simp at hh); omega) | (have hh := (hb1).size; (try simp at hh); (try simp); omega)) | refine Below.trans ?_ ((hb1).mono (by first | omega | (simp <;> omega) | (have hh := (hb1).size; (try simp at hh); omega) | (have hh := (hb1).size; (try simp at hh); (try simp); omega))) | refine Below.alloc ?_ (by first | omega | (simp <;> omega) | (have hh := (hb1).size; (try simp at hh); omega) | (have hh := (hb1).size; (try simp at hh); (try simp); omega)) _ | refine Below.setCell ?_ (by first | omega | (simp <;> omega) | (have hh := (hb1).size; (try simp at hh); omega) | (have hh := (hb1).size; (try simp at hh); (try simp); omega)) _ | refine below_drewN ?_ _ | refine Below.drew ?_))⟩
set_option maxHeartbeats 400000 in
theorem ins2_any (cb xb : Nat) (g f nm ps : Value) (regs : Int) (ba : Option Addr) (bn bc : Nat) (aa : Option Addr) (an ac : Nat) (v : DVal) (w : World) (h0 : 0 ≤ regs) (h1 : regs ≤ 100)
    (ga : Option Addr) (gn gc : Nat) (fa : Option Addr) (fn fc : Nat) (s : ByteArray) (p : Int) (hg : g = .slice ga gn gc) (hf : f = .slice fa fn fc) (hnm : nm = .string s) (hps : ps = .int .i64 p)
    (hc : CellsAt w cb 0 [g, f, nm, ps, .int .i64 regs, .slice ba bn bc, .slice aa an ac]) (hr : w.cell? ⟨xb, 4, none⟩ = some (.bool v.reg)) (hn : w.cell? ⟨xb, 5, none⟩ = some (.int .i64 v.n)) :
    Calls Tryd.prog 125 #[.pointer (some ⟨cb, 0, none⟩), .pointer (some ⟨xb, 0, none⟩)] w fun e w' => e = .returned (.int .i64 (valE regs v)) ∧ Below w.heap.size w w' := by
  subst hg hf hnm hps
  obtain ⟨c0, c1, c2, c3, c4, c5, c6⟩ := hc.get7
  simp only [Nat.zero_add] at c1 c2 c3 c4 c5 c6
  clear hc
  go_enter Tryd.func125, Tryd.ntmps125
  go_wp2_with (go_at_call 121; ((with_reducible refine (val_any _ _ _ _ _ _ _ _ _ _ h0 h1).mono ?_); rintro e w1 ⟨rfl, hb1⟩))
  go_ret
  exact ⟨rfl, by (repeat (first | exact Below.refl _ _ | exact (hb1).mono (by first | omega | (simp <;> omega) | (have hh := (hb1).size; (try simp at hh); omega) | (have hh := (hb1).size; (try simp at hh); (try simp); omega)) | refine Below.trans ?_ ((hb1).mono (by first | omega | (simp <;> omega) | (have hh := (hb1).size; (try simp at hh); omega) | (have hh := (hb1).size; (try simp at hh); (try simp); omega))) | refine Below.alloc ?_ (by first | omega | (simp <;> omega) | (have hh := (hb1).size; (try simp at hh); omega) | (have hh := (hb1).size; (try simp at hh); (try simp); omega)) _ | refine Below.setCell ?_ (by first | omega | (simp <;> omega) | (have hh := (hb1).size; (try simp at hh); omega) | (have hh := (hb1).size; (try simp at hh); (try simp); omega)) _ | refine below_drewN ?_ _ | refine Below.drew ?_))⟩

theorem valE_or (regs : Int) (v : DVal) : valE regs v = 0 ∨ valE regs v = 3 := by unfold valE; split <;> simp
def argsE (regs : Int) (l : List DVal) : Int := if l.any (fun v => decide (valE regs v ≠ 0)) then 3 else 0
theorem argsE_zero {regs : Int} {l : List DVal} (h : ∀ j : Nat, ∀ x, l[j]? = some x → valE regs x = 0) : argsE regs l = 0 := by
  unfold argsE
  rw [if_neg]
  intro h'
  obtain ⟨x, hx, hv⟩ := List.any_eq_true.1 h'
  obtain ⟨j, hj⟩ := List.getElem?_of_mem hx
  exact of_decide_eq_true hv (h j x hj)
theorem argsE_bad {regs : Int} {l : List DVal} {j : Nat} {x : DVal} (h : l[j]? = some x) (hv : valE regs x ≠ 0) : argsE regs l = valE regs x := by
  unfold argsE
  rw [if_pos (List.any_eq_true.2 ⟨x, List.mem_of_getElem? h, decide_eq_true hv⟩)]
  rcases valE_or regs x with h | h
  · exact absurd h hv
  · exact h.symm

/-- What is wrong with a call. -/
def callE (fs : List DFunc) (regs : Int) (x : DIns) : Int :=
  if x.op ≠ 20 then 0
  else if ¬ (0 ≤ x.fn ∧ x.fn ≤ (fs.length : Int) - 1) then 3
  else if (x.args.length : Int) ≠ (fs.getD x.fn.toNat ⟨ByteArray.empty, 0, 0, []⟩).params then 9
  else argsE regs x.args

set_option maxHeartbeats 1000000 in
theorem ins3_any {S S' : Nat → Prop} (cb xb kb : Nat) (g nm ps : Value) (fs : List DFunc) (regs : Int) (ba : Option Addr) (bn bc : Nat) (aa : Option Addr) (an ac : Nat) (x : DIns) (w : World) (h0 : 0 ≤ regs) (h1 : regs ≤ 100)
    (ga : Option Addr) (gn gc : Nat) (fa : Option Addr) (fc : Nat) (ra : Option Addr) (rc : Nat) (s : ByteArray) (p : Int) (hg : g = .slice ga gn gc) (hnm : nm = .string s) (hps : ps = .int .i64 p)
    (hc : CellsAt w cb 0 [g, .slice fa fs.length fc, nm, ps, .int .i64 regs, .slice ba bn bc, .slice aa an ac])
    (hk : w.cell? ⟨kb, 0, none⟩ = some (.bool (decide (x.op = 20))))
    (hfn : w.cell? ⟨xb, 6, none⟩ = some (.int .i64 x.fn)) (har : w.cell? ⟨xb, 7, none⟩ = some (.slice ra x.args.length rc))
    (hfs : SlAt S w 4 rFunc (.slice fa fs.length fc) fs) (has : SlAt S' w 2 rVal (.slice ra x.args.length rc) x.args) (hfl : fs.length ≤ 1048576) :
    Calls Tryd.prog 126 #[.pointer (some ⟨kb, 0, none⟩), .pointer (some ⟨xb, 0, none⟩), .pointer (some ⟨cb, 0, none⟩)] w fun e w' =>
      e = .returned (.int .i64 (callE fs regs x)) ∧ Below w.heap.size w w' := by
  subst hg hnm hps
  have Hc := hid hc
  obtain ⟨c0, c1, c2, c3, c4, c5, c6⟩ := hc.get7
  simp only [Nat.zero_add] at c1 c2 c3 c4 c5 c6
  have Hfs := hid hfs
  have Has := hid has
  obtain ⟨_, _, ha1, ha2⟩ := has.val
  cases ha1
  clear hc hfs has
  by_cases hop : x.op = 20
  case neg =>
    have Hr := hid (show callE fs regs x = 0 by simp [callE, hop])
    rw [decide_eq_false hop] at hk
    clear hop
    go_enter Tryd.func126, Tryd.ntmps126
    go_wp2_with fail
    go_ret
    exact ⟨ret_int Hr.out.symm, by (repeat (first | exact Below.refl _ _ | refine Below.alloc ?_ (by first | omega | (simp <;> omega)) _ | refine Below.setCell ?_ (by first | omega | (simp <;> omega)) _ | refine below_drewN ?_ _ | refine Below.drew ?_))⟩
  rw [decide_eq_true hop] at hk
  by_cases hin : 0 ≤ x.fn ∧ x.fn ≤ (fs.length : Int) - 1
  case neg =>
    have Hr := hid (show callE fs regs x = 3 by simp only [callE, hop, hin]; simp)
    clear hop
    go_enter Tryd.func126, Tryd.ntmps126
    go_wp2_with (go_at_call 40; ((with_reducible refine (within_any _ _ _ _).mono ?_); rintro e w' ⟨rfl, rfl⟩))
    go_ret
    exact ⟨ret_int Hr.out.symm, by (repeat (first | exact Below.refl _ _ | refine Below.alloc ?_ (by first | omega | (simp <;> omega)) _ | refine Below.setCell ?_ (by first | omega | (simp <;> omega)) _ | refine below_drewN ?_ _ | refine Below.drew ?_))⟩
  obtain ⟨n, hn⟩ := Int.eq_ofNat_of_zero_le hin.1
  have hnl : n < fs.length := by omega
  obtain ⟨b, off, cs, rfl, -, hx, -, hcs⟩ := Hfs.out.get hnl
  obtain ⟨fba, fbc, rfl, -, -, hpb, -⟩ := hx.opens
  obtain ⟨d0, d1, d2, d3⟩ := hcs.get4
  have hgd : (fs.getD x.fn.toNat ⟨ByteArray.empty, 0, 0, []⟩).params = fs[n].params := by
    rw [hn, Int.toNat_natCast, List.getD_eq_getElem?_getD, List.getElem?_eq_getElem hnl]; rfl
  have Hgd := hid hgd
  have Hop := hid hop
  have Hin := hid hin
  have Hn := hid hn
  rw [hn] at hfn
  clear hgd hop hin hn hcs hx
  unfold I64 at hpb
  by_cases hlen : (x.args.length : Int) = fs[n].params
  case neg =>
    have Hr := hid (show callE fs regs x = 9 by simp only [callE, Hop.out, Hin.out, Hgd.out]; simp [hlen])
    have hlen' : (x.args.length : Int) < fs[n].params ∨ fs[n].params < (x.args.length : Int) := by omega
    clear hlen
    go_enter Tryd.func126, Tryd.ntmps126
    go_wp2_with (go_at_call 40; ((with_reducible refine (within_any _ _ _ _).mono ?_); rintro e w' ⟨rfl, rfl⟩))
    go_quiet (fail)
    go_wp2_with fail
    go_ret
    exact ⟨ret_int Hr.out.symm, by (repeat (first | exact Below.refl _ _ | refine Below.alloc ?_ (by first | omega | (simp <;> omega)) _ | refine Below.setCell ?_ (by first | omega | (simp <;> omega)) _ | refine below_drewN ?_ _ | refine Below.drew ?_))⟩
  have Hr := hid (show callE fs regs x = argsE regs x.args by simp only [callE, Hop.out, Hin.out, Hgd.out]; simp [hlen])
  have hq : (decide ((n : Int) ≤ (fs.length : Int) - 1)) = true := by rw [decide_eq_true_iff]; omega
  have hl1 : (x.args.length : Int) ≤ fs[n].params := by omega
  have hl2 : fs[n].params ≤ (x.args.length : Int) := by omega
  clear hlen
  go_enter Tryd.func126, Tryd.ntmps126
  go_wp2_with (go_at_call 40; ((with_reducible refine (within_any _ _ _ _).mono ?_); rintro e w' ⟨rfl, rfl⟩))
  go_quiet (fail)
  go_wp2_with fail
  go_loopw [36] (fun i wr => ∃ k : Nat, k ≤ x.args.length ∧ i = .int .i64 k ∧ (∀ j, j < k → ∀ y, x.args[j]? = some y → valE regs y = 0) ∧ Below w.heap.size w wr) (fun i _ => x.args.length - (intOf i).toNat)
  case atStart => exact ⟨0, Nat.zero_le _, rfl, fun j hj => by omega, by (repeat (first | exact Below.refl _ _ | refine Below.alloc ?_ (by first | omega | (simp <;> omega)) _ | refine Below.setCell ?_ (by first | omega | (simp <;> omega)) _ | refine below_drewN ?_ _ | refine Below.drew ?_))⟩
  case round =>
    obtain ⟨k, hk, rfl, hall, hbl⟩ := hrel
    have Hall := hid hall
    have Hbl := hid hbl
    clear hall hbl
    by_cases hlt : k < x.args.length
    · obtain ⟨b2, off2, cs, rfl, -, ⟨rfl, -⟩, -, hcs⟩ := (Has.out.later rVal_mono Hbl.out).get hlt
      obtain ⟨e0, e1⟩ := hcs.get2
      clear hcs
      obtain ⟨g0, g1, g2, g3, g4, g5, g6⟩ := (Hc.out.later Hbl.out).get7
      simp only [Nat.zero_add] at g1 g2 g3 g4 g5 g6
      have hcb := cell_lt g0
      have hsz := Hbl.out.size
      by_cases hv : valE regs x.args[k] = 0
      · go_wp2_with (go_at_call 121; ((with_reducible refine (val_any _ _ _ _ _ _ _ _ _ _ h0 h1).mono ?_); rintro e w1 ⟨rfl, hb1⟩))
        go_roundw
        case rel => exact ⟨k + 1, by omega, by go_num, ext_lt Hall.out (fun y hy => by rw [List.getElem?_eq_getElem hlt] at hy; cases hy; exact hv), by have h := Hbl.out; (repeat (first | exact Below.refl _ _ | exact (hb1).mono (by first | omega | (simp <;> omega) | (have hh := (hb1).size; (try simp at hh); omega) | (have hh := (hb1).size; (try simp at hh); (try simp); omega) | (have hh := (h).size; (try simp at hh); omega) | (have hh := (h).size; (try simp at hh); (try simp); omega)) | refine Below.trans ?_ ((hb1).mono (by first | omega | (simp <;> omega) | (have hh := (hb1).size; (try simp at hh); omega) | (have hh := (hb1).size; (try simp at hh); (try simp); omega) | (have hh := (h).size; (try simp at hh); omega) | (have hh := (h).size; (try simp at hh); (try simp); omega))) | exact (h).mono (by first | omega | (simp <;> omega) | (have hh := (hb1).size; (try simp at hh); omega) | (have hh := (hb1).size; (try simp at hh); (try simp); omega) | (have hh := (h).size; (try simp at hh); omega) | (have hh := (h).size; (try simp at hh); (try simp); omega)) | refine Below.trans ?_ ((h).mono (by first | omega | (simp <;> omega) | (have hh := (hb1).size; (try simp at hh); omega) | (have hh := (hb1).size; (try simp at hh); (try simp); omega) | (have hh := (h).size; (try simp at hh); omega) | (have hh := (h).size; (try simp at hh); (try simp); omega))) | refine Below.alloc ?_ (by first | omega | (simp <;> omega) | (have hh := (hb1).size; (try simp at hh); omega) | (have hh := (hb1).size; (try simp at hh); (try simp); omega) | (have hh := (h).size; (try simp at hh); omega) | (have hh := (h).size; (try simp at hh); (try simp); omega)) _ | refine Below.setCell ?_ (by first | omega | (simp <;> omega) | (have hh := (hb1).size; (try simp at hh); omega) | (have hh := (hb1).size; (try simp at hh); (try simp); omega) | (have hh := (h).size; (try simp at hh); omega) | (have hh := (h).size; (try simp at hh); (try simp); omega)) _ | refine below_drewN ?_ _ | refine Below.drew ?_))⟩
        case measure => simp [intOf]; omega
      · have Ha := hid (argsE_bad (List.getElem?_eq_getElem hlt) hv)
        have hv3 : valE regs x.args[k] = 3 := (valE_or _ _).resolve_left hv
        go_wp2_with (go_at_call 121; ((with_reducible refine (val_any _ _ _ _ _ _ _ _ _ _ h0 h1).mono ?_); rintro e w1 ⟨rfl, hb1⟩))
        go_ret
        exact ⟨ret_int (by rw [Hr.out, Ha.out, hv3]), by have h := Hbl.out; (repeat (first | exact Below.refl _ _ | exact (hb1).mono (by first | omega | (simp <;> omega) | (have hh := (hb1).size; (try simp at hh); omega) | (have hh := (hb1).size; (try simp at hh); (try simp); omega) | (have hh := (h).size; (try simp at hh); omega) | (have hh := (h).size; (try simp at hh); (try simp); omega)) | refine Below.trans ?_ ((hb1).mono (by first | omega | (simp <;> omega) | (have hh := (hb1).size; (try simp at hh); omega) | (have hh := (hb1).size; (try simp at hh); (try simp); omega) | (have hh := (h).size; (try simp at hh); omega) | (have hh := (h).size; (try simp at hh); (try simp); omega))) | exact (h).mono (by first | omega | (simp <;> omega) | (have hh := (hb1).size; (try simp at hh); omega) | (have hh := (hb1).size; (try simp at hh); (try simp); omega) | (have hh := (h).size; (try simp at hh); omega) | (have hh := (h).size; (try simp at hh); (try simp); omega)) | refine Below.trans ?_ ((h).mono (by first | omega | (simp <;> omega) | (have hh := (hb1).size; (try simp at hh); omega) | (have hh := (hb1).size; (try simp at hh); (try simp); omega) | (have hh := (h).size; (try simp at hh); omega) | (have hh := (h).size; (try simp at hh); (try simp); omega))) | refine Below.alloc ?_ (by first | omega | (simp <;> omega) | (have hh := (hb1).size; (try simp at hh); omega) | (have hh := (hb1).size; (try simp at hh); (try simp); omega) | (have hh := (h).size; (try simp at hh); omega) | (have hh := (h).size; (try simp at hh); (try simp); omega)) _ | refine Below.setCell ?_ (by first | omega | (simp <;> omega) | (have hh := (hb1).size; (try simp at hh); omega) | (have hh := (hb1).size; (try simp at hh); (try simp); omega) | (have hh := (h).size; (try simp at hh); omega) | (have hh := (h).size; (try simp at hh); (try simp); omega)) _ | refine below_drewN ?_ _ | refine Below.drew ?_))⟩
    · have Ha := hid (argsE_zero (regs := regs) (l := x.args) (fun j y hy => Hall.out j (by have := (List.getElem?_eq_some_iff.1 hy).1; omega) y hy))
      go_wp2_with fail
      go_ret
      exact ⟨ret_int (by rw [Hr.out, Ha.out]), by have h := Hbl.out; (repeat (first | exact Below.refl _ _ | exact (h).mono (by first | omega | (simp <;> omega) | (have hh := (h).size; (try simp at hh); omega) | (have hh := (h).size; (try simp at hh); (try simp); omega)) | refine Below.trans ?_ ((h).mono (by first | omega | (simp <;> omega) | (have hh := (h).size; (try simp at hh); omega) | (have hh := (h).size; (try simp at hh); (try simp); omega))) | refine Below.alloc ?_ (by first | omega | (simp <;> omega) | (have hh := (h).size; (try simp at hh); omega) | (have hh := (h).size; (try simp at hh); (try simp); omega)) _ | refine Below.setCell ?_ (by first | omega | (simp <;> omega) | (have hh := (h).size; (try simp at hh); omega) | (have hh := (h).size; (try simp at hh); (try simp); omega)) _ | refine below_drewN ?_ _ | refine Below.drew ?_))⟩

end Go.Proofs.YtaehkcnankijfaaDoor
