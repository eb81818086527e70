/- Contracts of core.Fault, of the closure that looks for main, and of slices.IndexFunc over it. -/
import Derived.Test.YtaehkcnankijfaaDoorBody
namespace Go.Proofs.YtaehkcnankijfaaDoor
open Go.RowKit

set_option maxHeartbeats 400000 in
theorem fault_any (c a : Int) (w : World) :
    Calls Tryd.prog 37 #[.int .i64 c, .int .i64 a] w fun e w' => e = .returned (.agg #[.int .i64 c, .int .i64 a]) ∧ Below w.heap.size w w' := by
  go_enter Tryd.func37, Tryd.ntmps37
  go_wp2
  refine bodyPost_ret (v := _) ?_ rfl ⟨rfl, ?_⟩
  · simp [results, Tryd.results37, go_sem]
  · (repeat (first | exact Below.refl _ _ | refine Below.alloc ?_ (by first | omega | (simp <;> omega)) _ | refine Below.setCell ?_ (by first | omega | (simp <;> omega)) _ | refine below_drewN ?_ _ | refine Below.drew ?_))

/-- A result of two numbers that lies in a variable. -/
theorem res_two {fn : Func} {t : Nat} (hfn : fn.results = #[.cell t 28]) {tmps : Array Value} {b : Nat} (ht : tmps.getD t undef = .pointer (some ⟨b, 0, none⟩)) {c a : Int} {W : World}
    (h0 : W.cell? ⟨b, 0, none⟩ = some (.int .i64 c)) (h1 : W.cell? ⟨b, 1, none⟩ = some (.int .i64 a)) : (results fn tmps).run Tryd.prog W = .ok (.agg #[.int .i64 c, .int .i64 a]) W := by
  simp only [Array.getD_eq_getD_getElem?] at ht
  simp [results, hfn, ht, go_sem, h0, h1]
theorem set_two {w : World} {b : Nat} {x y u v : Value} (h0 : w.cell? ⟨b, 0, none⟩ = some x) (h1 : w.cell? ⟨b, 1, none⟩ = some y) :
    ((w.setCell ⟨b, 0, none⟩ u).setCell ⟨b, 1, none⟩ v).cell? ⟨b, 0, none⟩ = some u ∧ ((w.setCell ⟨b, 0, none⟩ u).setCell ⟨b, 1, none⟩ v).cell? ⟨b, 1, none⟩ = some v := by
  simp only [World.cell?] at h0 h1
  cases hh : w.heap[b]? with
  | none => rw [hh] at h0; cases h0
  | some o =>
    rw [hh] at h0 h1
    cases o with
    | cells c e fr =>
      simp only [World.cell?, World.setCell, Array.getElem?_modify, hh]
      simp at h0 h1
      have l0 := (Array.getElem?_eq_some_iff.1 h0).1
      have l1 := (Array.getElem?_eq_some_iff.1 h1).1
      simp [l0, l1]
    | _ => simp at h0

def isMain (f : DFunc) : Bool := f.name.toList == [109, 97, 105, 110]
set_option maxHeartbeats 400000 in
theorem check1_any (s : ByteArray) (p r : Int) (ba : Option Addr) (n c : Nat) (w : World) :
    Calls Tryd.prog 44 #[.agg #[.string s, .int .i64 p, .int .i64 r, .slice ba n c]] w fun e w' => e = .returned (.bool (s.toList == [109, 97, 105, 110])) ∧ Below w.heap.size w w' := by
  go_enter Tryd.func44, Tryd.ntmps44
  go_wp2
  go_ret
  exact ⟨rfl, by (repeat (first | exact Below.refl _ _ | refine Below.alloc ?_ (by first | omega | (simp <;> omega)) _ | refine Below.setCell ?_ (by first | omega | (simp <;> omega)) _ | refine below_drewN ?_ _ | refine Below.drew ?_))⟩

def idxMain (fs : List DFunc) : Int := match fs.findIdx? isMain with | some k => k | none => -1
set_option maxHeartbeats 1000000 in
theorem indexMain_any {S : Nat → Prop} (fa : Option Addr) (fc : Nat) (fs : List DFunc) (w : World) (h : SlAt S w 4 rFunc (.slice fa fs.length fc) fs) (hm : fs.length ≤ 1048576) :
    Calls Tryd.prog 43 #[.slice fa fs.length fc, .func (.func 44) #[] #[]] w fun e w' => e = .returned (.int .i64 (idxMain fs)) ∧ Below w.heap.size w w' := by
  have Hh := hid h
  clear h
  go_enter Tryd.func43, Tryd.ntmps43
  go_wp2_with fail
  go_loopw [8] (fun i wr => ∃ k : Nat, k ≤ fs.length ∧ i = .int .i64 k ∧ (∀ j, j < k → ∀ x, fs[j]? = some x → isMain x = false) ∧ Below w.heap.size w wr) (fun i _ => fs.length - (intOf i).toNat)
  case atStart => exact ⟨0, Nat.zero_le _, rfl, fun j hj => by omega, Below.refl _ _⟩
  case round =>
    obtain ⟨k, hk, rfl, hall, hb⟩ := hrel
    have H := hid hall
    have Hb := hid hb
    clear hall
    by_cases hlt : k < fs.length
    · obtain ⟨b, off, cs, rfl, -, hx, -, hcs⟩ := Hh.out.get hlt
      obtain ⟨ba, bc, rfl, -, -, -, -⟩ := hx.opens
      obtain ⟨c0, c1, c2, c3⟩ := (hcs.later hb).get4
      clear hcs hx hb
      by_cases he : isMain fs[k] = true
      · have hi : idxMain fs = k := by unfold idxMain; rw [idx_some (List.getElem?_eq_getElem hlt) he H.out]
        have he' : (fs[k].name.toList == [109, 97, 105, 110]) = true := he
        have Hi := hid hi
        clear hi he
        go_wp2_with (go_at_call 44; ((with_reducible refine (check1_any _ _ _ _ _ _ _).mono ?_); rintro e w2 ⟨rfl, hb2⟩))
        go_ret
        exact ⟨ret_int Hi.out.symm, by have h := Hb.out; (repeat (first | exact Below.refl _ _ | exact (hb2).mono (by first | omega | (simp <;> omega) | (have hh := (hb2).size; (try simp at hh); omega) | (have hh := (hb2).size; (try simp at hh); (try simp); omega) | (have hh := (h).size; (try simp at hh); omega) | (have hh := (h).size; (try simp at hh); (try simp); omega)) | refine Below.trans ?_ ((hb2).mono (by first | omega | (simp <;> omega) | (have hh := (hb2).size; (try simp at hh); omega) | (have hh := (hb2).size; (try simp at hh); (try simp); omega) | (have hh := (h).size; (try simp at hh); omega) | (have hh := (h).size; (try simp at hh); (try simp); omega))) | exact (h).mono (by first | omega | (simp <;> omega) | (have hh := (hb2).size; (try simp at hh); omega) | (have hh := (hb2).size; (try simp at hh); (try simp); omega) | (have hh := (h).size; (try simp at hh); omega) | (have hh := (h).size; (try simp at hh); (try simp); omega)) | refine Below.trans ?_ ((h).mono (by first | omega | (simp <;> omega) | (have hh := (hb2).size; (try simp at hh); omega) | (have hh := (hb2).size; (try simp at hh); (try simp); omega) | (have hh := (h).size; (try simp at hh); omega) | (have hh := (h).size; (try simp at hh); (try simp); omega))) | refine Below.alloc ?_ (by first | omega | (simp <;> omega) | (have hh := (hb2).size; (try simp at hh); omega) | (have hh := (hb2).size; (try simp at hh); (try simp); omega) | (have hh := (h).size; (try simp at hh); omega) | (have hh := (h).size; (try simp at hh); (try simp); omega)) _ | refine Below.setCell ?_ (by first | omega | (simp <;> omega) | (have hh := (hb2).size; (try simp at hh); omega) | (have hh := (hb2).size; (try simp at hh); (try simp); omega) | (have hh := (h).size; (try simp at hh); omega) | (have hh := (h).size; (try simp at hh); (try simp); omega)) _ | refine below_drewN ?_ _ | refine Below.drew ?_))⟩
      · have he0 : isMain fs[k] = false := by simpa using he
        have he' : (fs[k].name.toList == [109, 97, 105, 110]) = false := he0
        have He := hid he0
        clear he0 he
        go_wp2_with (go_at_call 44; ((with_reducible refine (check1_any _ _ _ _ _ _ _).mono ?_); rintro e w2 ⟨rfl, hb2⟩))
        go_roundw
        case rel => exact ⟨k + 1, by omega, by go_num, ext_lt H.out (fun x hx => by rw [List.getElem?_eq_getElem hlt] at hx; cases hx; exact He.out), by have h := Hb.out; (repeat (first | exact Below.refl _ _ | exact (hb2).mono (by first | omega | (simp <;> omega) | (have hh := (hb2).size; (try simp at hh); omega) | (have hh := (hb2).size; (try simp at hh); (try simp); omega) | (have hh := (h).size; (try simp at hh); omega) | (have hh := (h).size; (try simp at hh); (try simp); omega)) | refine Below.trans ?_ ((hb2).mono (by first | omega | (simp <;> omega) | (have hh := (hb2).size; (try simp at hh); omega) | (have hh := (hb2).size; (try simp at hh); (try simp); omega) | (have hh := (h).size; (try simp at hh); omega) | (have hh := (h).size; (try simp at hh); (try simp); omega))) | exact (h).mono (by first | omega | (simp <;> omega) | (have hh := (hb2).size; (try simp at hh); omega) | (have hh := (hb2).size; (try simp at hh); (try simp); omega) | (have hh := (h).size; (try simp at hh); omega) | (have hh := (h).size; (try simp at hh); (try simp); omega)) | refine Below.trans ?_ ((h).mono (by first | omega | (simp <;> omega) | (have hh := (hb2).size; (try simp at hh); omega) | (have hh := (hb2).size; (try simp at hh); (try simp); omega) | (have hh := (h).size; (try simp at hh); omega) | (have hh := (h).size; (try simp at hh); (try simp); omega))) | refine Below.alloc ?_ (by first | omega | (simp <;> omega) | (have hh := (hb2).size; (try simp at hh); omega) | (have hh := (hb2).size; (try simp at hh); (try simp); omega) | (have hh := (h).size; (try simp at hh); omega) | (have hh := (h).size; (try simp at hh); (try simp); omega)) _ | refine Below.setCell ?_ (by first | omega | (simp <;> omega) | (have hh := (hb2).size; (try simp at hh); omega) | (have hh := (hb2).size; (try simp at hh); (try simp); omega) | (have hh := (h).size; (try simp at hh); omega) | (have hh := (h).size; (try simp at hh); (try simp); omega)) _ | refine below_drewN ?_ _ | refine Below.drew ?_))⟩
        case measure => simp [intOf]; omega
    · have hi : idxMain fs = -1 := by
        unfold idxMain
        rw [idx_none (fun j x hx => H.out j (by have := (List.getElem?_eq_some_iff.1 hx).1; omega) x hx)]
      have Hi := hid hi
      clear hi hb
      go_wp2_with fail
      go_ret
      exact ⟨ret_int Hi.out.symm, Hb.out⟩

end Go.Proofs.YtaehkcnankijfaaDoor
