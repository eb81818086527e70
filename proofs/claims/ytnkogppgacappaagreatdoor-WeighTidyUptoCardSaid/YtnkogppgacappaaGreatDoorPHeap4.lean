/- Contracts of core.Fault, of the closure that looks for main, and of slices.IndexFunc over it. What is wrong with a unit: plain. The heap of blocks in memory; its five methods' contracts. The heap of blocks: Swap and Pop. container/heap over the heap of blocks. container/heap's Init and Pop over the heap of blocks. -/
import Derived.Test.YtnkogppgacappaaGreatDoorPBody
import Derived.Test.YtnkogppgacappaaGreatDoorPChk4
import Derived.Test.YtnkogppgacappaaGreatDoorPLay0
import Derived.Deep.QuietTactic
import Derived.BigQuiet
import Derived.RegionTactic
import Derived.BigRegion
namespace Go.Proofs.YtnkogppgacappaaGreatDoor
open Go.RowKit

set_option maxHeartbeats 400000 in
theorem fault_any (c a : Int) (w : World) :
 Calls Tryz.prog 19 #[.int .i64 c, .int .i64 a] w fun e w' => e = .returned (.agg #[.int .i64 c, .int .i64 a]) ∧ Below w.heap.size w w' := by
 go_enter Tryz.func19, Tryz.ntmps19
 go_wp2
 refine bodyPost_ret (v := _) ?_ rfl ⟨rfl, ?_⟩
 · simp [results, Tryz.results19, go_sem]
 · (repeat (first | exact Below.refl _ _ | refine Below.alloc ?_ (by first|omega|(simp<;>omega)) _ | refine Below.setCell ?_ (by first|omega|(simp<;>omega)) _ | refine below_drewN ?_ _ | refine Below.drew ?_))

theorem res_two {fn : Func} {t : Nat} (hfn : fn.results = #[.cell t 27]) {tmps : Array Value} {b : Nat} (ht : tmps.getD t undef = .pointer (some ⟨b, 0, none⟩)) {c a : Int} {W : World}
 (h0 : W.cell? ⟨b, 0, none⟩ = some (.int .i64 c)) (h1 : W.cell? ⟨b, 1, none⟩ = some (.int .i64 a)) : (results fn tmps).run Tryz.prog W = .ok (.agg #[.int .i64 c, .int .i64 a]) W := by
 simp only [Array.getD_eq_getD_getElem?] at ht
 simp [results, hfn, ht, go_sem, h0, h1]
theorem set_two {w : World} {b : Nat} {x y u v : Value} (h0 : w.cell? ⟨b, 0, none⟩ = some x) (h1 : w.cell? ⟨b, 1, none⟩ = some y) :
 ((w.setCell ⟨b, 0, none⟩ u).setCell ⟨b, 1, none⟩ v).cell? ⟨b, 0, none⟩ = some u ∧ ((w.setCell ⟨b, 0, none⟩ u).setCell ⟨b, 1, none⟩ v).cell? ⟨b, 1, none⟩ = some v := by
 simp only [World.cell?] at h0 h1
 cases hh : w.heap[b]? with
 | none => rw [hh] at h0; cases h0
 | some o =>
   rw [hh] at h0 h1
   cases o with
   | cells c e fr =>
     simp only [World.cell?, World.setCell, Array.getElem?_modify, hh]
     simp at h0 h1
     have l0 := (Array.getElem?_eq_some_iff.1 h0).1
     have l1 := (Array.getElem?_eq_some_iff.1 h1).1
     simp [l0, l1]
   | _ => simp at h0

def isMain (f : DFunc) : Bool := f.name.toList == [109, 97, 105, 110]
set_option maxHeartbeats 400000 in
theorem check1_any (s : ByteArray) (p r : Int) (ba : Option Addr) (n c : Nat) (w : World) :
 Calls Tryz.prog 26 #[.agg #[.string s, .int .i64 p, .int .i64 r, .slice ba n c]] w fun e w' => e = .returned (.bool (s.toList == [109, 97, 105, 110])) ∧ Below w.heap.size w w' := by
 go_enter Tryz.func26, Tryz.ntmps26
 go_wp2
 go_ret
 exact ⟨rfl, by (repeat (first | exact Below.refl _ _ | refine Below.alloc ?_ (by first|omega|(simp<;>omega)) _ | refine Below.setCell ?_ (by first|omega|(simp<;>omega)) _ | refine below_drewN ?_ _ | refine Below.drew ?_))⟩

def idxMain (fs : List DFunc) : Int := match fs.findIdx? isMain with | some k => k | none => -1
set_option maxHeartbeats 1000000 in
theorem indexMain_any {S : Nat → Prop} (fa : Option Addr) (fc : Nat) (fs : List DFunc) (w : World) (h : SlAt S w 4 rFunc (.slice fa fs.length fc) fs) (hm : fs.length ≤ 1048576) :
 Calls Tryz.prog 25 #[.slice fa fs.length fc, .func (.func 26) #[] #[]] w fun e w' => e = .returned (.int .i64 (idxMain fs)) ∧ Below w.heap.size w w' := by
 have Hh := hid h
 clear h
 go_enter Tryz.func25, Tryz.ntmps25
 go_wp2_with fail
 go_loopw [8] (fun i wr => ∃ k : Nat, k ≤ fs.length ∧ i = .int .i64 k ∧ (∀ j, j < k → ∀ x, fs[j]? = some x → isMain x = false) ∧ Below w.heap.size w wr) (fun i _ => fs.length - (intOf i).toNat)
 case atStart => exact ⟨0, Nat.zero_le _, rfl, fun j hj => by omega, Below.refl _ _⟩
 case round =>
  obtain ⟨k, hk, rfl, hall, hb⟩ := hrel
  have H := hid hall
  have Hb := hid hb
  clear hall
  by_cases hlt : k < fs.length
  · obtain ⟨b, off, cs, rfl, -, hx, -, hcs⟩ := Hh.out.get hlt
    obtain ⟨ba, bc, rfl, -, -, -, -⟩ := hx.opens
    obtain ⟨c0, c1, c2, c3⟩ := (hcs.later hb).get4
    clear hcs hx hb
    by_cases he : isMain fs[k] = true
    · have hi : idxMain fs = k := by unfold idxMain; rw [idx_some (List.getElem?_eq_getElem hlt) he H.out]
      have he' : (fs[k].name.toList == [109, 97, 105, 110]) = true := he
      have Hi := hid hi
      clear hi he
      go_wp2_with (go_at_call 26; ((with_reducible refine (check1_any _ _ _ _ _ _ _).mono ?_); rintro e w2 ⟨rfl, hb2⟩))
      go_ret
      exact ⟨ret_int Hi.out.symm, by have h := Hb.out; (have hz0 := (hb2).size; have hy0 := hz0; (try simp at hy0); have hz1 := (h).size; have hy1 := hz1; (try simp at hy1); repeat (first | exact Below.refl _ _ | refine Below.trans ?_ ((hb2).mono (by first|omega|(simp<;>omega))) | refine Below.trans ?_ ((h).mono (by first|omega|(simp<;>omega))) | refine Below.alloc ?_ (by first|omega|(simp<;>omega)) _ | refine Below.setCell ?_ (by first|omega|(simp<;>omega)) _ | refine below_drewN ?_ _ | refine Below.drew ?_))⟩
    · have he0 : isMain fs[k] = false := by simpa using he
      have he' : (fs[k].name.toList == [109, 97, 105, 110]) = false := he0
      have He := hid he0
      clear he0 he
      go_wp2_with (go_at_call 26; ((with_reducible refine (check1_any _ _ _ _ _ _ _).mono ?_); rintro e w2 ⟨rfl, hb2⟩))
      go_roundw
      case rel => exact ⟨k + 1, by omega, by go_num, ext_lt H.out (fun x hx => by rw [List.getElem?_eq_getElem hlt] at hx; cases hx; exact He.out), by have h := Hb.out; (have hz0 := (hb2).size; have hy0 := hz0; (try simp at hy0); have hz1 := (h).size; have hy1 := hz1; (try simp at hy1); repeat (first | exact Below.refl _ _ | refine Below.trans ?_ ((hb2).mono (by first|omega|(simp<;>omega))) | refine Below.trans ?_ ((h).mono (by first|omega|(simp<;>omega))) | refine Below.alloc ?_ (by first|omega|(simp<;>omega)) _ | refine Below.setCell ?_ (by first|omega|(simp<;>omega)) _ | refine below_drewN ?_ _ | refine Below.drew ?_))⟩
      case measure => simp [intOf]; omega
  · have hi : idxMain fs = -1 := by
     unfold idxMain
     rw [idx_none (fun j x hx => H.out j (by have := (List.getElem?_eq_some_iff.1 hx).1; omega) x hx)]
    have Hi := hid hi
    clear hi hb
    go_wp2_with fail
    go_ret
    exact ⟨ret_int Hi.out.symm, Hb.out⟩

end Go.Proofs.YtnkogppgacappaaGreatDoor

namespace Go.Proofs.YtnkogppgacappaaGreatDoor
open Go.RowKit

def posF (e : Nat → Int) : Nat → Nat
 | 0 => 0
 | n + 1 => if posF e n < n then posF e n else if e n ≠ 0 then n else n + 1
theorem posF_all {e : Nat → Int} {n : Nat} (h : ∀ j, j < n → e j = 0) : posF e n = n := by
 induction n with
 | zero => rfl
 | succ n ih => rw [posF, ih (fun j hj => h j (by omega)), if_neg (by omega), if_neg (by simpa using h n (by omega))]
theorem posF_at {e : Nat → Int} {n k : Nat} (h : ∀ j, j < k → e j = 0) (hk : k < n) (he : e k ≠ 0) : posF e n = k := by
 induction n with
 | zero => omega
 | succ n ih =>
   rw [posF]
   rcases Nat.lt_succ_iff_lt_or_eq.1 hk with h1 | h1
   · rw [ih h1, if_pos h1]
   · subst h1; rw [posF_all h, if_neg (by omega), if_pos he]
theorem posF_inv {e : Nat → Int} {n : Nat} (h : ¬ posF e n < n) : ∀ j, j < n → e j = 0 := by
 induction n with
 | zero => intro j hj; omega
 | succ n ih =>
   rw [posF] at h
   by_cases h1 : posF e n < n
   · rw [if_pos h1] at h; omega
   · rw [if_neg h1] at h
     by_cases h2 : e n = 0
     · exact ext_lt (ih h1) h2
     · rw [if_pos h2] at h; omega
theorem posF_ne {e : Nat → Int} {n : Nat} (h : posF e n < n) : e (posF e n) ≠ 0 := by
 induction n with
 | zero => omega
 | succ n ih =>
   rw [posF] at h ⊢
   by_cases h1 : posF e n < n
   · rw [if_pos h1]; exact ih h1
   · rw [if_neg h1] at h ⊢
     by_cases h2 : e n ≠ 0
     · rw [if_pos h2]; exact h2
     · rw [if_neg h2] at h; omega

def gNames (gs : List DGlobal) (k : Nat) : List ByteArray := (gs.take k).map (·.name)
def wordsUp (gs : List DGlobal) (k : Nat) : Int := ((gs.take k).map (·.size)).sum
def fNames (gs : List DGlobal) (fs : List DFunc) (k : Nat) : List ByteArray := gNames gs gs.length ++ (fs.take k).map (·.name)
def globErr (names : List ByteArray) (words : Int) (g : DGlobal) : Int :=
 if nameOk g.name = false then 12
 else if hasStr names g.name = true then 7
 else if ¬ (1 ≤ g.size ∧ g.size ≤ 200) then 3
 else if g.size < (g.init.length : Int) then 9
 else if 200 < words + g.size then 10
 else 0
def globE (gs : List DGlobal) (k : Nat) : Int := match gs[k]? with | some g => globErr (gNames gs k) (wordsUp gs k) g | none => 0
def headsE (gs : List DGlobal) (fs : List DFunc) (k : Nat) : Int := match fs[k]? with | some f => headE (fNames gs fs k) f | none => 0
def bodiesE (fs : List DFunc) (k : Nat) : Int := match fs[k]? with | some f => bodyE fs f | none => 0
def lastE (fs : List DFunc) : Int × Int :=
 if idxMain fs < 0 then (6, 0) else if 0 < (fs.getD (idxMain fs).toNat ⟨ByteArray.empty, 0, 0, []⟩).params then (5, idxMain fs) else (0, 0)
def checkF (u : DUnit) : Int × Int :=
 if 10 < u.globals.length ∨ 10 < u.funcs.length then (2, 0)
 else if posF (globE u.globals) u.globals.length < u.globals.length then (globE u.globals (posF (globE u.globals) u.globals.length), posF (globE u.globals) u.globals.length)
 else if posF (headsE u.globals u.funcs) u.funcs.length < u.funcs.length then (headsE u.globals u.funcs (posF (headsE u.globals u.funcs) u.funcs.length), posF (headsE u.globals u.funcs) u.funcs.length)
 else if posF (bodiesE u.funcs) u.funcs.length < u.funcs.length then (bodiesE u.funcs (posF (bodiesE u.funcs) u.funcs.length), posF (bodiesE u.funcs) u.funcs.length)
 else lastE u.funcs

theorem gNames_succ {gs : List DGlobal} {k : Nat} (h : k < gs.length) : gNames gs (k + 1) = gNames gs k ++ [gs[k].name] := by
 unfold gNames; rw [List.take_succ_eq_append_getElem h, List.map_append]; rfl
theorem fNames_succ {gs : List DGlobal} {fs : List DFunc} {k : Nat} (h : k < fs.length) : fNames gs fs (k + 1) = fNames gs fs k ++ [fs[k].name] := by
 unfold fNames; rw [List.take_succ_eq_append_getElem h, List.map_append, List.append_assoc]; rfl
theorem wordsUp_succ {gs : List DGlobal} {k : Nat} (h : k < gs.length) : wordsUp gs (k + 1) = wordsUp gs k + gs[k].size := by
 unfold wordsUp; rw [List.take_succ_eq_append_getElem h, List.map_append, List.sum_append]; simp
theorem globErr_ok {names : List ByteArray} {words : Int} {g : DGlobal} (h : globErr names words g = 0) :
 nameOk g.name = true ∧ hasStr names g.name = false ∧ 1 ≤ g.size ∧ g.size ≤ 200 ∧ (g.init.length : Int) ≤ g.size ∧ words + g.size ≤ 200 := by
 unfold globErr at h
 by_cases h1 : nameOk g.name = false
 · rw [if_pos h1] at h; omega
 rw [if_neg h1] at h
 by_cases h2 : hasStr names g.name = true
 · rw [if_pos h2] at h; omega
 rw [if_neg h2] at h
 by_cases h3 : 1 ≤ g.size ∧ g.size ≤ 200
 case neg => rw [if_pos h3] at h; omega
 rw [if_neg (by simpa using h3)] at h
 by_cases h4 : g.size < (g.init.length : Int)
 · rw [if_pos h4] at h; omega
 rw [if_neg h4] at h
 by_cases h5 : 200 < words + g.size
 · rw [if_pos h5] at h; omega
 exact ⟨by simpa using h1, by simpa using h2, h3.1, h3.2, by omega, by omega⟩
theorem headE_ok {names : List ByteArray} {f : DFunc} (h : headE names f = 0) :
 nameOk f.name = true ∧ hasStr names f.name = false ∧ 0 ≤ f.params ∧ f.params ≤ 6 ∧ f.params ≤ f.regs ∧ f.regs ≤ 100 ∧ 1 ≤ f.blocks.length ∧ f.blocks.length ≤ 40 ∧ manyOf f.blocks ≤ 300 := by
 unfold headE at h
 by_cases h1 : nameOk f.name = false
 · rw [if_pos h1] at h; omega
 rw [if_neg h1] at h
 by_cases h2 : hasStr names f.name = true
 · rw [if_pos h2] at h; omega
 rw [if_neg h2] at h
 by_cases h3 : ¬ (0 ≤ f.params ∧ f.params ≤ 6) ∨ ¬ (f.params ≤ f.regs ∧ f.regs ≤ 100)
 · rw [if_pos h3] at h; omega
 rw [if_neg h3] at h
 by_cases h4 : ¬ (1 ≤ f.blocks.length ∧ f.blocks.length ≤ 40) ∨ 300 < manyOf f.blocks
 · rw [if_pos h4] at h; omega
 exact ⟨by simpa using h1, by simpa using h2, by omega, by omega, by omega, by omega, by omega, by omega, by omega⟩
theorem idxMain_lt {fs : List DFunc} (h : ¬ idxMain fs < 0) : ∃ m : Nat, m < fs.length ∧ idxMain fs = m := by
 unfold idxMain at *
 split at h
 · rename_i k hk
   rw [List.findIdx?_eq_some_iff_getElem] at hk
   exact ⟨k, hk.1, rfl⟩
 · omega
theorem words_bound {gs : List DGlobal} {k : Nat} (hk : k ≤ gs.length) (h : ∀ j, j < k → globE gs j = 0) : 0 ≤ wordsUp gs k ∧ wordsUp gs k ≤ 200 := by
 induction k with
 | zero => simp [wordsUp]
 | succ k ih =>
   have h1 := ih (by omega) (fun j hj => h j (by omega))
   have h2 := h k (by omega)
   have hlt : k < gs.length := by omega
   unfold globE at h2
   rw [List.getElem?_eq_getElem hlt] at h2
   have h3 := globErr_ok h2
   rw [wordsUp_succ hlt]
   omega

theorem ownsRow_later {w w' : World} {base : Nat} {e : TypeId} {size n : Nat} {v : Value} {xs : List Value} (h : w.ownsRow base e size v n xs) (hb : Below w.heap.size w w') : w'.ownsRow base e size v n xs := by
 obtain ⟨h1, h2⟩ := h
 refine ⟨h1, ?_⟩
 rcases h2 with h2 | ⟨g, cap, cur, hv, hg, hh, r⟩
 · exact .inl h2
 · have hlt : g < w.heap.size := by
    rcases Nat.lt_or_ge g w.heap.size with h3 | h3
    · exact h3
    · rw [Array.getElem?_eq_none h3] at hh; cases hh
   exact .inr ⟨g, cap, cur, hv, hg, by rw [hb.block g hlt]; exact hh, r⟩

theorem own_sl {α : Type} {r : Rp α} (f : α → Value) {w : World} {base : Nat} {e : TypeId} {v : Value} {l : List α} (h : w.ownsRow base e 1 v l.length (l.map f)) (hr : ∀ x ∈ l, r (fun b => base ≤ b) w [f x] x) :
 SlAt (fun b => base ≤ b) w 1 r v l := by
 obtain ⟨h1, h2⟩ := h
 rcases h2 with ⟨rfl, h2⟩ | ⟨g, cap, cur, rfl, hg, hh, hn, hm, hs, ht⟩
 · have : l = [] := List.eq_nil_of_length_eq_zero h2
   subst this
   exact ⟨none, 0, rfl, Nat.le_refl _, by omega, fun h => absurd rfl h⟩
 · refine ⟨_, cap, rfl, hn, by unfold maxLen at hm; exact hm, fun _ => ⟨g, 0, rfl, hg, fun i x hx => ⟨[f x], hr x (List.mem_of_getElem? hx), rfl, ?_⟩⟩⟩
   refine .cons ?_ (.nil _ _ _)
   have h3 : (l.map f)[i]? = some (f x) := by rw [List.getElem?_map, hx]; rfl
   rw [← ht, Nat.mul_one, List.getElem?_take] at h3
   have hi : i < l.length := (List.getElem?_eq_some_iff.1 hx).1
   rw [if_pos hi] at h3
   simp only [World.cell?, hh, Nat.zero_add, Nat.mul_one]
   simpa using h3
theorem own_strs {w : World} {base : Nat} {e : TypeId} {v : Value} {l : List ByteArray} (h : w.ownsRow base e 1 v l.length (l.map Value.string)) : SlAt (fun b => base ≤ b) w 1 rStr v l :=
 own_sl Value.string h (fun _ _ => rfl)

end Go.Proofs.YtnkogppgacappaaGreatDoor

namespace Go.Proofs.YtnkogppgacappaaGreatDoor
open Go.RowKit

structure HS (w : World) (L G cap m : Nat) (a : Nat → Nat) (cv : Value) : Prop where
 row : w.heap[L]? = some (.cells #[.slice (some ⟨G, 0, none⟩) m cap, cv] 120 (0, 0))
 arr : ∃ cur : Array Value, w.heap[G]? = some (.cells cur 3 (0, 0)) ∧ cur.size = cap ∧ ∀ k, k < m → cur[k]? = some (.int .i64 (a k))
 le : m ≤ cap
 big : cap ≤ 9223372036854775807
 ne : L ≠ G

section
variable {w : World} {L G cap m : Nat} {a : Nat → Nat} {cv : Value}
theorem HS.c0 (h : HS w L G cap m a cv) : w.cell? ⟨L, 0, none⟩ = some (.slice (some ⟨G, 0, none⟩) m cap) := by simp [World.cell?, h.row]
theorem HS.c1 (h : HS w L G cap m a cv) : w.cell? ⟨L, 1, none⟩ = some cv := by simp [World.cell?, h.row]
theorem HS.f0 (h : HS w L G cap m a cv) (k : Nat) : w.frozen? ⟨L, k, none⟩ = false := by simp [World.frozen?, h.row]
theorem HS.g (h : HS w L G cap m a cv) {k : Nat} (hk : k < m) : w.cell? ⟨G, k, none⟩ = some (.int .i64 (a k)) := by
 obtain ⟨cur, h1, _, h2⟩ := h.arr
 simp [World.cell?, h1, h2 k hk]
theorem HS.gf (h : HS w L G cap m a cv) (k : Nat) : w.frozen? ⟨G, k, none⟩ = false := by
 obtain ⟨cur, h1, _, h2⟩ := h.arr
 simp [World.frozen?, h1]
theorem HS.ltL (h : HS w L G cap m a cv) : L < w.heap.size := cell_lt h.c0
theorem HS.ltG (h : HS w L G cap m a cv) : G < w.heap.size := by
 obtain ⟨cur, h1, _, _⟩ := h.arr
 rcases Nat.lt_or_ge G w.heap.size with h3 | h3
 · exact h3
 · rw [Array.getElem?_eq_none h3] at h1; cases h1
theorem HS.drewN (h : HS w L G cap m a cv) (q : Nat) : HS (w.drewN q) L G cap m a cv := ⟨h.row, h.arr, h.le, h.big, h.ne⟩
theorem HS.set (h : HS w L G cap m a cv) {i : Nat} (hi : i < m) (x : Nat) : HS (w.setCell ⟨G, i, none⟩ (.int .i64 x)) L G cap m (fun k => if k = i then x else a k) cv := by
 obtain ⟨h1, ⟨cur, h2, h3, h4⟩, h5, h6, h7⟩ := h
 refine ⟨?_, ⟨cur.setIfInBounds i (.int .i64 x), ?_, by simpa using h3, fun k hk => ?_⟩, h5, h6, h7⟩
 · rw [Below.heap_setCell _ _ _ _ h7]; exact h1
 · simp [World.setCell, Array.getElem?_modify, h2]
 · rw [Array.getElem?_setIfInBounds]
   by_cases hki : k = i
   · subst hki; simp; omega
   · rw [if_neg (fun e => hki e.symm), if_neg hki]; exact h4 k hk
theorem HS.cut (h : HS w L G cap m a cv) {m' : Nat} (hm : m' ≤ m) : HS (w.setCell ⟨L, 0, none⟩ (.slice (some ⟨G, 0, none⟩) m' cap)) L G cap m' a cv := by
 obtain ⟨h1, ⟨cur, h2, h3, h4⟩, h5, h6, h7⟩ := h
 refine ⟨?_, ⟨cur, ?_, h3, fun k hk => h4 k (by omega)⟩, by omega, h6, h7⟩
 · simp [World.setCell, Array.getElem?_modify, h1]
 · rw [Below.heap_setCell _ _ _ _ (fun e => h7 e.symm)]; exact h2
end

structure Two (L G : Nat) (w w' : World) : Prop where
 os : w'.os = w.os
 tape : w'.tape = w.tape
 output : w'.output = w.output
 size : w'.heap.size = w.heap.size
 block : ∀ k, k ≠ L → k ≠ G → w'.heap[k]? = w.heap[k]?
theorem Two.refl (L G : Nat) (w : World) : Two L G w w := ⟨rfl, rfl, rfl, rfl, fun _ _ _ => rfl⟩
theorem Two.trans {L G : Nat} {a b c : World} (h : Two L G a b) (k : Two L G b c) : Two L G a c :=
 ⟨k.os.trans h.os, k.tape.trans h.tape, k.output.trans h.output, k.size.trans h.size, fun i h1 h2 => (k.block i h1 h2).trans (h.block i h1 h2)⟩
theorem Two.drewN {L G : Nat} {a w : World} (h : Two L G a w) (q : Nat) : Two L G a (w.drewN q) := ⟨h.os, h.tape, h.output, h.size, h.block⟩
theorem Two.set {L G : Nat} {a w : World} (h : Two L G a w) {p : Addr} (hp : p.block = L ∨ p.block = G) (v : Value) : Two L G a (w.setCell p v) :=
 ⟨h.os, h.tape, h.output, by simp [World.setCell]; exact h.size, fun k h1 h2 => by rw [Below.heap_setCell _ _ _ _ (by rcases hp with hp | hp <;> rw [hp] <;> assumption)]; exact h.block k h1 h2⟩
theorem Two.below {L G B : Nat} {w w' : World} (h : Two L G w w') (hL : B ≤ L) (hG : B ≤ G) : Below B w w' :=
 ⟨h.os, h.tape, h.output, Nat.le_of_eq h.size.symm, fun k hk => h.block k (by omega) (by omega)⟩
theorem Two.stays {L G : Nat} {w w' : World} (h : Two L G w w') : Stays (fun b => b ≠ L ∧ b ≠ G) w w' := fun b o v hb hc => by
 rw [World.cell?_of_block (w := w) (h.block b hb.1 hb.2)]; exact hc

set_option maxHeartbeats 400000 in
theorem hlen_any {L G cap m : Nat} {a : Nat → Nat} {cv : Value} (w : World) (h : HS w L G cap m a cv) :
 Calls Tryz.prog 79 #[.pointer (some ⟨L, 0, none⟩)] w fun e w' => e = .returned (.int .i64 m) ∧ w = w' := by
 have c0 := h.c0
 have hl := h.le
 have hb := h.big
 clear h
 go_enter Tryz.func79, Tryz.ntmps79
 go_wp2
 go_ret
 exact ⟨rfl, rfl⟩

def cntOf (C : List Int) (b : Nat) : Int := C.getD b 0
set_option maxHeartbeats 1000000 in
theorem hless_any {S : Nat → Prop} {L G cap m : Nat} {a : Nat → Nat} {ca : Option Addr} {cc : Nat} {C : List Int} (w : World) (i j : Nat) (h : HS w L G cap m a (.slice ca C.length cc)) (hC : SlAt S w 1 rInt (.slice ca C.length cc) C)
 (hi : i < m) (hj : j < m) (hai : a i < C.length) (haj : a j < C.length) :
 Calls Tryz.prog 176 #[.pointer (some ⟨L, 0, none⟩), .int .i64 i, .int .i64 j] w fun e w' => e = .returned (.bool (lessB (cntOf C) (a i) (a j))) ∧ ∃ q, w' = w.drewN q := by
 have c0 := h.c0
 have c1 := h.c1
 have g1 := h.g hi
 have g2 := h.g hj
 have hl := h.le
 have hb := h.big
 obtain ⟨b, off, cs, rfl, -, ⟨rfl, -⟩, -, hcs⟩ := hC.get hai
 have d1 := hcs.get1
 obtain ⟨b', off', cs', hab, -, ⟨rfl, -⟩, -, hcs'⟩ := hC.get haj
 cases hab
 have d2 := hcs'.get1
 rw [Nat.mul_one] at d1 d2
 obtain ⟨_, _, hcv, hcl⟩ := hC.val
 cases hcv
 have e1 : cntOf C (a i) = C[a i] := by unfold cntOf; rw [List.getD_eq_getElem?_getD, List.getElem?_eq_getElem hai]; rfl
 have e2 : cntOf C (a j) = C[a j] := by unfold cntOf; rw [List.getD_eq_getElem?_getD, List.getElem?_eq_getElem haj]; rfl
 have E1 := hid e1
 have E2 := hid e2
 clear h hC hcs hcs' e1 e2
 generalize C[a i] = x at *
 generalize C[a j] = y at *
 generalize a i = u at *
 generalize a j = v at *
 have hcase : y < x ∨ (x = y ∧ u < v) ∨ (x = y ∧ ¬ u < v) ∨ x < y := by omega
 rcases hcase with hc | ⟨hc, huv⟩ | ⟨hc, huv⟩ | hc
 all_goals
  first
   | (have Hr := hid (show lessB (cntOf C) u v = true by simp only [lessB, E1.out, E2.out, Bool.or_eq_true, Bool.and_eq_true, decide_eq_true_eq]; omega))
   | (have Hr := hid (show lessB (cntOf C) u v = false by simp only [lessB, E1.out, E2.out, Bool.or_eq_false_iff, Bool.and_eq_false_iff, decide_eq_false_iff_not]; omega))
  first
   | subst hc
   | (have q1 := eq_no (a := x) (b := y) (by omega); have q2 : decide (y < x) = true := decide_eq_true hc)
   | (have q1 := eq_no (a := x) (b := y) (by omega); have q2 : decide (y < x) = false := decide_eq_false (by omega))
  go_enter Tryz.func176, Tryz.ntmps176
  go_wp2_with fail
  go_quiet (fail)
  go_wp2_with fail
  go_quiet (fail)
  go_wp2_with fail
  go_ret
  exact ⟨ret_bool Hr.out.symm, _, World.drewN_drewN _ _ _⟩

end Go.Proofs.YtnkogppgacappaaGreatDoor

namespace Go.Proofs.YtnkogppgacappaaGreatDoor
open Go.RowKit

set_option maxHeartbeats 1000000 in
theorem hswap_raw (L G cap m : Nat) (_cv : Value) (w : World) (i j x y : Nat) (hij : i ≠ j) (hi : i < m) (hj : j < m) (_hm : m ≤ cap) (_hc : cap ≤ 9223372036854775807) (hne : L ≠ G)
 (c0 : w.cell? ⟨L, 0, none⟩ = some (.slice (some ⟨G, 0, none⟩) m cap)) (g1 : w.cell? ⟨G, i, none⟩ = some (.int .i64 x)) (g2 : w.cell? ⟨G, j, none⟩ = some (.int .i64 y)) (f1 : w.frozen? ⟨G, i, none⟩ = false) (f2 : w.frozen? ⟨G, j, none⟩ = false) :
 Calls Tryz.prog 178 #[.pointer (some ⟨L, 0, none⟩), .int .i64 i, .int .i64 j] w fun e w' => e = .returned (.tuple #[]) ∧ w'.Alike ((w.setCell ⟨G, i, none⟩ (.int .i64 y)).setCell ⟨G, j, none⟩ (.int .i64 x)) ∧ w'.tape = w.tape := by
 go_enter Tryz.func178, Tryz.ntmps178
 go_wp2_with fail
 go_big_region
 all_goals (go_end0; exact ⟨rfl, ⟨rfl, rfl, rfl⟩, rfl⟩)

set_option maxHeartbeats 1000000 in
theorem hswap_same (L G cap m : Nat) (_cv : Value) (w : World) (i x : Nat) (hi : i < m) (_hm : m ≤ cap) (_hc : cap ≤ 9223372036854775807) (_hne : L ≠ G)
 (c0 : w.cell? ⟨L, 0, none⟩ = some (.slice (some ⟨G, 0, none⟩) m cap)) (g1 : w.cell? ⟨G, i, none⟩ = some (.int .i64 x)) (f1 : w.frozen? ⟨G, i, none⟩ = false) :
 Calls Tryz.prog 178 #[.pointer (some ⟨L, 0, none⟩), .int .i64 i, .int .i64 i] w fun e w' => e = .returned (.tuple #[]) ∧ w'.Alike ((w.setCell ⟨G, i, none⟩ (.int .i64 x)).setCell ⟨G, i, none⟩ (.int .i64 x)) ∧ w'.tape = w.tape := by
 go_enter Tryz.func178, Tryz.ntmps178
 go_wp2_with fail
 go_big_region
 all_goals (go_end0; exact ⟨rfl, ⟨rfl, rfl, rfl⟩, rfl⟩)

theorem HS.congr {w : World} {L G cap m : Nat} {a a' : Nat → Nat} {cv : Value} (h : HS w L G cap m a cv) (he : ∀ k, k < m → a k = a' k) : HS w L G cap m a' cv := by
 obtain ⟨h1, ⟨cur, h2, h3, h4⟩, h5, h6, h7⟩ := h
 exact ⟨h1, ⟨cur, h2, h3, fun k hk => by rw [← he k hk]; exact h4 k hk⟩, h5, h6, h7⟩
theorem HS.alike {w w' : World} {L G cap m : Nat} {a : Nat → Nat} {cv : Value} (h : HS w L G cap m a cv) (he : w'.Alike w) : HS w' L G cap m a cv := by
 obtain ⟨h1, h2, h5, h6, h7⟩ := h
 exact ⟨by rw [he.1]; exact h1, by rw [he.1]; exact h2, h5, h6, h7⟩

theorem hswap_any {L G cap m : Nat} {a : Nat → Nat} {cv : Value} (w : World) (i j : Nat) (h : HS w L G cap m a cv) (hi : i < m) (hj : j < m) :
 Calls Tryz.prog 178 #[.pointer (some ⟨L, 0, none⟩), .int .i64 i, .int .i64 j] w fun e w' => e = .returned (.tuple #[]) ∧ HS w' L G cap m (swp a i j) cv ∧ Two L G w w' := by
 have fin : ∀ w', w'.Alike ((w.setCell ⟨G, i, none⟩ (.int .i64 (a j))).setCell ⟨G, j, none⟩ (.int .i64 (a i))) → w'.tape = w.tape → HS w' L G cap m (swp a i j) cv ∧ Two L G w w' := fun w' ha ht => by
  refine ⟨(((h.set hi (a j)).set hj (a i)).congr (fun k hk => ?_)).alike ha, ?_⟩
  · unfold swp
    by_cases h1 : k = j
    · by_cases h2 : k = i
      · rw [if_pos h1, if_pos h2, ← h1, ← h2]
      · rw [if_pos h1, if_neg h2, if_pos h1]
    · rw [if_neg h1]
      by_cases h2 : k = i
      · rw [if_pos h2, if_pos h2]
      · rw [if_neg h2, if_neg h2, if_neg h1]
  · have t := ((Two.refl L G w).set (p := ⟨G, i, none⟩) (.inr rfl) (.int .i64 (a j))).set (p := ⟨G, j, none⟩) (.inr rfl) (.int .i64 (a i))
    exact ⟨ha.2.1.trans t.os, ht, ha.2.2.trans t.output, by rw [ha.1]; exact t.size, fun k h1 h2 => by rw [ha.1]; exact t.block k h1 h2⟩
 by_cases hij : i = j
 · subst hij
   exact (hswap_same L G cap m cv w i (a i) hi h.le h.big h.ne h.c0 (h.g hi) (h.gf i)).mono fun e w' ⟨h1, h2, h3⟩ => ⟨h1, fin w' h2 h3⟩
 · exact (hswap_raw L G cap m cv w i j (a i) (a j) hij hi hj h.le h.big h.ne h.c0 (h.g hi) (h.g hj) (h.gf i) (h.gf j)).mono fun e w' ⟨h1, h2, h3⟩ => ⟨h1, fin w' h2 h3⟩

set_option maxHeartbeats 1000000 in
theorem hpopm_any {L G cap m : Nat} {a : Nat → Nat} {cv : Value} (w : World) (h : HS w L G cap m a cv) (hm : 0 < m) :
 Calls Tryz.prog 177 #[.pointer (some ⟨L, 0, none⟩)] w fun e w' => e = .returned (.iface 3 (.int .i64 (a (m - 1)))) ∧ HS w' L G cap (m - 1) a cv ∧ Two L G w w' := by
 obtain ⟨n, rfl⟩ : ∃ n, m = n + 1 := ⟨m - 1, by omega⟩
 rw [Nat.add_sub_cancel]
 have c0 := h.c0
 have g1 := h.g (k := n) (by omega)
 have f0 := h.f0 0
 have hl := h.le
 have hb := h.big
 have Hh := hid h
 clear h
 go_enter Tryz.func177, Tryz.ntmps177
 go_wp2_with fail
 go_ret
 exact ⟨rfl, Hh.out.cut (by omega), (Two.refl L G w).set (p := ⟨L, 0, none⟩) (.inl rfl) _⟩

end Go.Proofs.YtnkogppgacappaaGreatDoor

namespace Go.Proofs.YtnkogppgacappaaGreatDoor
open Go.RowKit

theorem method_len (a : Addr) (w : World) : (method 327 118 (.pointer (some a)) "Len").run Tryz.prog w = .ok (79, .pointer (some a)) w := by kernel_rfl
theorem method_less (a : Addr) (w : World) : (method 327 118 (.pointer (some a)) "Less").run Tryz.prog w = .ok (176, .pointer (some a)) w := by kernel_rfl
theorem method_swap (a : Addr) (w : World) : (method 327 118 (.pointer (some a)) "Swap").run Tryz.prog w = .ok (178, .pointer (some a)) w := by kernel_rfl
theorem method_pop (a : Addr) (w : World) : (method 327 118 (.pointer (some a)) "Pop").run Tryz.prog w = .ok (177, .pointer (some a)) w := by kernel_rfl

theorem hless_z {S : Nat → Prop} {L G cap m : Nat} {a : Nat → Nat} {ca : Option Addr} {cc : Nat} {C : List Int} (w : World) (iz jz : Int) (i j : Nat) (hiz : iz = i) (hjz : jz = j) (h : HS w L G cap m a (.slice ca C.length cc)) (hC : SlAt S w 1 rInt (.slice ca C.length cc) C)
 (hi : i < m) (hj : j < m) (hai : a i < C.length) (haj : a j < C.length) :
 Calls Tryz.prog 176 #[.pointer (some ⟨L, 0, none⟩), .int .i64 iz, .int .i64 jz] w fun e w' => e = .returned (.bool (lessB (cntOf C) (a i) (a j))) ∧ ∃ q, w' = w.drewN q := by
 subst hiz hjz
 exact hless_any w i j h hC hi hj hai haj
theorem hswap_z {L G cap m : Nat} {a : Nat → Nat} {cv : Value} (w : World) (iz jz : Int) (i j : Nat) (hiz : iz = i) (hjz : jz = j) (h : HS w L G cap m a cv) (hi : i < m) (hj : j < m) :
 Calls Tryz.prog 178 #[.pointer (some ⟨L, 0, none⟩), .int .i64 iz, .int .i64 jz] w fun e w' => e = .returned (.tuple #[]) ∧ HS w' L G cap m (swp a i j) cv ∧ Two L G w w' := by
 subst hiz hjz
 exact hswap_any w i j h hi hj
def SomeBool (e : Ending) : Prop := ∃ b : Bool, e = .returned (.bool b)
theorem slat_drew {α : Type} {S : Nat → Prop} {w : World} {sz : Nat} {r : Rp α} (hr : r.Mono) {v : Value} {l : List α} (h : SlAt S w sz r v l) (q : Nat) : SlAt S (w.drewN q) sz r v l :=
 h.mono hr (fun _ h => h) (fun b o v _ hc => by rw [World.cell?_drewN]; exact hc)
theorem downF_end {c : Nat → Int} {n f k : Nat} {a : Nat → Nat} (h : n ≤ 2 * k + 1) : downF c n f a k = a := by
 cases f with
 | zero => rfl
 | succ f => rw [downF, if_pos h]
theorem downF_stop {c : Nat → Int} {n f k : Nat} {a : Nat → Nat} (h : ¬ n ≤ 2 * k + 1) (hl : lessB c (a (kid c a n k)) (a k) = false) : downF c n f a k = a := by
 cases f with
 | zero => rfl
 | succ f => rw [downF, if_neg h, if_neg (by rw [hl]; simp)]
theorem downF_go {c : Nat → Int} {n f k : Nat} {a : Nat → Nat} (h : ¬ n ≤ 2 * k + 1) (hf : n ≤ k + f) (hl : lessB c (a (kid c a n k)) (a k) = true) :
 ∃ g, f = g + 1 ∧ n ≤ kid c a n k + g ∧ downF c n f a k = downF c n g (swp a k (kid c a n k)) (kid c a n k) := by
 cases f with
 | zero => omega
 | succ f => exact ⟨f, rfl, by have := kid_lt (c := c) (a := a) (n := n) (i := k) (by omega); omega, by rw [downF, if_neg h, if_pos hl]⟩

set_option maxRecDepth 100000 in
set_option maxHeartbeats 1000000 in
theorem hdown_any {S : Nat → Prop} {L G cap m : Nat} {a : Nat → Nat} {ca : Option Addr} {cc : Nat} {C : List Int} (w : World) (i n : Nat) (h : HS w L G cap m a (.slice ca C.length cc)) (hC : SlAt S w 1 rInt (.slice ca C.length cc) C) (hS : ∀ b, S b → b ≠ L ∧ b ≠ G)
 (hn : n ≤ m) (hm : m ≤ 1048576) (hi : i ≤ 1048576) (ha : ∀ k, k < m → a k < C.length) :
 Calls Tryz.prog 113 #[.iface 118 (.pointer (some ⟨L, 0, none⟩)), .int .i64 i, .int .i64 n] w fun e w' =>
  SomeBool e ∧ HS w' L G cap m (downF (cntOf C) n n a i) (.slice ca C.length cc) ∧ Two L G w w' := by
 have HC := hid hC
 have HSd := hid hS
 have Ha := hid ha
 have Hh := hid h
 clear hC hS ha h
 go_enter Tryz.func113, Tryz.ntmps113
 go_wp2_with fail
 go_loopw [7] (fun iv wr => ∃ (k : Nat) (a' : Nat → Nat), k ≤ 2097152 ∧ iv = .int .i64 k ∧ HS wr L G cap m a' (.slice ca C.length cc) ∧ Two L G w wr ∧ Alike m a a' ∧ ∃ f, n ≤ k + f ∧ downF (cntOf C) n f a' k = downF (cntOf C) n n a i) (fun iv _ => n - (intOf iv).toNat)
 case atStart => exact ⟨i, a, by omega, rfl, Hh.out, Two.refl _ _ _, Alike.refl _ _, n, by omega, rfl⟩
 case round =>
  obtain ⟨k, a', hk, rfl, hs, ht, hal, f, hf, hd⟩ := hrel
  have Hs := hid hs
  have Ht := hid ht
  have Hal := hid hal
  have Hd := hid hd
  clear hs ht hal hd
  have hml := method_less
  have hmw := method_swap
  by_cases h1 : n ≤ 2 * k + 1
  · have Hr := hid ((downF_end h1).symm.trans Hd.out)
    go_wp2_with fail
    go_ret
    exact ⟨⟨_, rfl⟩, by rw [← Hr.out]; exact Hs.out, Ht.out⟩
  have HCr : Hid (SlAt S wr 1 rInt (.slice ca C.length cc) C) := HC.out.mono rInt_mono (fun _ h => h) (fun b o v hb hc => Ht.out.stays b o v (HSd.out b hb) hc)
  have Har : Hid (∀ k, k < m → a' k < C.length) := fun k hk => by
   obtain ⟨k', hk', he⟩ := (Hal.out.img (a' k)).2 ⟨k, hk, rfl⟩
   rw [← he]; exact Ha.out k' hk'
  have Z1 : Hid (2 * (k : Int) + 1 = ((2 * k + 1 : Nat) : Int)) := by show _ = _; omega
  have Z2 : Hid (2 * (k : Int) + 1 + 1 = ((2 * k + 2 : Nat) : Int)) := by show _ = _; omega
  have hkid : (2 * k + 2 < n ∧ lessB (cntOf C) (a' (2 * k + 2)) (a' (2 * k + 1)) = true ∧ kid (cntOf C) a' n k = 2 * k + 2) ∨
   (2 * k + 2 < n ∧ lessB (cntOf C) (a' (2 * k + 2)) (a' (2 * k + 1)) = false ∧ kid (cntOf C) a' n k = 2 * k + 1) ∨ (n ≤ 2 * k + 2 ∧ kid (cntOf C) a' n k = 2 * k + 1) := by
   unfold kid
   by_cases h2 : 2 * k + 2 < n
   · cases hl : lessB (cntOf C) (a' (2 * k + 2)) (a' (2 * k + 1)) <;> simp [h2]
   · simp [h2]; omega
  rcases hkid with ⟨h2, hl, hk2⟩ | ⟨h2, hl, hk2⟩ | ⟨h2, hk2⟩
  · have Hk2 := hid hk2
    clear hk2
    cases hl2 : lessB (cntOf C) (a' (2 * k + 2)) (a' k)
    · have Hr := hid ((downF_stop (f := f) h1 (by rw [Hk2.out]; exact hl2)).symm.trans Hd.out)
      go_wp2_with fail
      refine (hless_z wr _ _ (2 * k + 2) (2 * k + 1) Z2.out Z1.out Hs.out HCr.out (by omega) (by omega) (Har.out _ (by omega)) (Har.out _ (by omega))).mono ?_
      rintro e w' ⟨rfl, q, rfl⟩
      go_wp2_with fail
      refine (hless_z (wr.drewN q) _ _ (2 * k + 2) k Z2.out rfl (Hs.out.drewN q) (slat_drew rInt_mono HCr.out q) (by omega) (by omega) (Har.out _ (by omega)) (Har.out _ (by omega))).mono ?_
      rintro e w' ⟨rfl, q2, rfl⟩
      go_wp2_with fail
      go_ret
      refine ⟨⟨_, rfl⟩, ?_, ?_⟩
      · rw [← Hr.out]
        simpa using ((Hs.out.drewN q).drewN q2)
      · simpa using ((Ht.out.drewN q).drewN q2)
    · obtain ⟨g', hg1, hg2, hg3⟩ := downF_go (c := cntOf C) (n := n) (f := f) (k := k) (a := a') h1 hf (by rw [Hk2.out]; exact hl2)
      have Hg2 := hid hg2
      have Hg3 := hid hg3
      clear hg1 hg2 hg3
      go_wp2_with fail
      refine (hless_z wr _ _ (2 * k + 2) (2 * k + 1) Z2.out Z1.out Hs.out HCr.out (by omega) (by omega) (Har.out _ (by omega)) (Har.out _ (by omega))).mono ?_
      rintro e w' ⟨rfl, q, rfl⟩
      go_wp2_with fail
      refine (hless_z (wr.drewN q) _ _ (2 * k + 2) k Z2.out rfl (Hs.out.drewN q) (slat_drew rInt_mono HCr.out q) (by omega) (by omega) (Har.out _ (by omega)) (Har.out _ (by omega))).mono ?_
      rintro e w' ⟨rfl, q2, rfl⟩
      go_wp2_with fail
      refine (hswap_z _ _ _ k (2 * k + 2) rfl Z2.out (by simpa using ((Hs.out.drewN q).drewN q2)) (by omega) (by omega)).mono ?_
      rintro e w3 ⟨rfl, hs3, ht3⟩
      have Hs3 := hid hs3
      have Ht3 := hid ht3
      clear hs3 ht3
      go_wp2_with fail
      go_roundw
      case rel =>
       refine ⟨2 * k + 2, _, by omega, by go_num, Hs3.out, Ht.out.trans ?_, Hal.out.trans (Alike.swp a' (by omega) (by omega)), g', ?_, ?_⟩
       · exact Two.trans (by simpa using ((((Two.refl L G wr).drewN q).drewN q2))) Ht3.out
       · rw [← Hk2.out]; exact Hg2.out
       · rw [← Hd.out, Hg3.out, Hk2.out]
      case measure => simp [intOf]; omega
  · have Hk2 := hid hk2
    clear hk2
    cases hl2 : lessB (cntOf C) (a' (2 * k + 1)) (a' k)
    · have Hr := hid ((downF_stop (f := f) h1 (by rw [Hk2.out]; exact hl2)).symm.trans Hd.out)
      go_wp2_with fail
      refine (hless_z wr _ _ (2 * k + 2) (2 * k + 1) Z2.out Z1.out Hs.out HCr.out (by omega) (by omega) (Har.out _ (by omega)) (Har.out _ (by omega))).mono ?_
      rintro e w' ⟨rfl, q, rfl⟩
      go_wp2_with fail
      refine (hless_z (wr.drewN q) _ _ (2 * k + 1) k Z1.out rfl (Hs.out.drewN q) (slat_drew rInt_mono HCr.out q) (by omega) (by omega) (Har.out _ (by omega)) (Har.out _ (by omega))).mono ?_
      rintro e w' ⟨rfl, q2, rfl⟩
      go_wp2_with fail
      go_ret
      refine ⟨⟨_, rfl⟩, ?_, ?_⟩
      · rw [← Hr.out]
        simpa using ((Hs.out.drewN q).drewN q2)
      · simpa using ((Ht.out.drewN q).drewN q2)
    · obtain ⟨g', hg1, hg2, hg3⟩ := downF_go (c := cntOf C) (n := n) (f := f) (k := k) (a := a') h1 hf (by rw [Hk2.out]; exact hl2)
      have Hg2 := hid hg2
      have Hg3 := hid hg3
      clear hg1 hg2 hg3
      go_wp2_with fail
      refine (hless_z wr _ _ (2 * k + 2) (2 * k + 1) Z2.out Z1.out Hs.out HCr.out (by omega) (by omega) (Har.out _ (by omega)) (Har.out _ (by omega))).mono ?_
      rintro e w' ⟨rfl, q, rfl⟩
      go_wp2_with fail
      refine (hless_z (wr.drewN q) _ _ (2 * k + 1) k Z1.out rfl (Hs.out.drewN q) (slat_drew rInt_mono HCr.out q) (by omega) (by omega) (Har.out _ (by omega)) (Har.out _ (by omega))).mono ?_
      rintro e w' ⟨rfl, q2, rfl⟩
      go_wp2_with fail
      refine (hswap_z _ _ _ k (2 * k + 1) rfl Z1.out (by simpa using ((Hs.out.drewN q).drewN q2)) (by omega) (by omega)).mono ?_
      rintro e w3 ⟨rfl, hs3, ht3⟩
      have Hs3 := hid hs3
      have Ht3 := hid ht3
      clear hs3 ht3
      go_wp2_with fail
      go_roundw
      case rel =>
       refine ⟨2 * k + 1, _, by omega, by go_num, Hs3.out, Ht.out.trans ?_, Hal.out.trans (Alike.swp a' (by omega) (by omega)), g', ?_, ?_⟩
       · exact Two.trans (by simpa using ((((Two.refl L G wr).drewN q).drewN q2))) Ht3.out
       · rw [← Hk2.out]; exact Hg2.out
       · rw [← Hd.out, Hg3.out, Hk2.out]
      case measure => simp [intOf]; omega
  · have Hk2 := hid hk2
    clear hk2
    cases hl2 : lessB (cntOf C) (a' (2 * k + 1)) (a' k)
    · have Hr := hid ((downF_stop (f := f) h1 (by rw [Hk2.out]; exact hl2)).symm.trans Hd.out)
      go_wp2_with fail
      refine (hless_z wr _ _ (2 * k + 1) k Z1.out rfl Hs.out HCr.out (by omega) (by omega) (Har.out _ (by omega)) (Har.out _ (by omega))).mono ?_
      rintro e w' ⟨rfl, q2, rfl⟩
      go_wp2_with fail
      go_ret
      refine ⟨⟨_, rfl⟩, ?_, ?_⟩
      · rw [← Hr.out]
        simpa using (Hs.out.drewN q2)
      · simpa using (Ht.out.drewN q2)
    · obtain ⟨g', hg1, hg2, hg3⟩ := downF_go (c := cntOf C) (n := n) (f := f) (k := k) (a := a') h1 hf (by rw [Hk2.out]; exact hl2)
      have Hg2 := hid hg2
      have Hg3 := hid hg3
      clear hg1 hg2 hg3
      go_wp2_with fail
      refine (hless_z wr _ _ (2 * k + 1) k Z1.out rfl Hs.out HCr.out (by omega) (by omega) (Har.out _ (by omega)) (Har.out _ (by omega))).mono ?_
      rintro e w' ⟨rfl, q2, rfl⟩
      go_wp2_with fail
      refine (hswap_z _ _ _ k (2 * k + 1) rfl Z1.out (by simpa using (Hs.out.drewN q2)) (by omega) (by omega)).mono ?_
      rintro e w3 ⟨rfl, hs3, ht3⟩
      have Hs3 := hid hs3
      have Ht3 := hid ht3
      clear hs3 ht3
      go_wp2_with fail
      go_roundw
      case rel =>
       refine ⟨2 * k + 1, _, by omega, by go_num, Hs3.out, Ht.out.trans ?_, Hal.out.trans (Alike.swp a' (by omega) (by omega)), g', ?_, ?_⟩
       · exact Two.trans (by simpa using (((Two.refl L G wr).drewN q2))) Ht3.out
       · rw [← Hk2.out]; exact Hg2.out
       · rw [← Hd.out, Hg3.out, Hk2.out]
      case measure => simp [intOf]; omega

end Go.Proofs.YtnkogppgacappaaGreatDoor

namespace Go.Proofs.YtnkogppgacappaaGreatDoor
open Go.RowKit

theorem hdown_z {S : Nat → Prop} {L G cap m : Nat} {a : Nat → Nat} {ca : Option Addr} {cc : Nat} {C : List Int} (w : World) (iz nz : Int) (i n : Nat) (hiz : iz = i) (hnz : nz = n) (h : HS w L G cap m a (.slice ca C.length cc)) (hC : SlAt S w 1 rInt (.slice ca C.length cc) C) (hS : ∀ b, S b → b ≠ L ∧ b ≠ G)
 (hn : n ≤ m) (hm : m ≤ 1048576) (hi : i ≤ 1048576) (ha : ∀ k, k < m → a k < C.length) :
 Calls Tryz.prog 113 #[.iface 118 (.pointer (some ⟨L, 0, none⟩)), .int .i64 iz, .int .i64 nz] w fun e w' =>
  SomeBool e ∧ HS w' L G cap m (downF (cntOf C) n n a i) (.slice ca C.length cc) ∧ Two L G w w' := by
 subst hiz hnz
 exact hdown_any w i n h hC hS hn hm hi ha

set_option maxRecDepth 100000 in
set_option maxHeartbeats 1000000 in
theorem hinit_any {S : Nat → Prop} {L G cap m : Nat} {a : Nat → Nat} {ca : Option Addr} {cc : Nat} {C : List Int} (w : World) (h : HS w L G cap m a (.slice ca C.length cc)) (hC : SlAt S w 1 rInt (.slice ca C.length cc) C) (hS : ∀ b, S b → b ≠ L ∧ b ≠ G)
 (hm : m ≤ 1048576) (ha : ∀ k, k < m → a k < C.length) :
 Calls Tryz.prog 78 #[.iface 118 (.pointer (some ⟨L, 0, none⟩))] w fun e w' =>
  e = .returned (.tuple #[]) ∧ HS w' L G cap m (initF (cntOf C) m (m / 2) a) (.slice ca C.length cc) ∧ Two L G w w' := by
 have HC := hid hC
 have HSd := hid hS
 have Ha := hid ha
 have Hh := hid h
 have hml := method_len
 clear hC hS ha h
 go_enter Tryz.func78, Tryz.ntmps78
 go_wp2_with (go_at_call 79; ((with_reducible refine (hlen_any _ Hh.out).mono ?_); rintro e w' ⟨rfl, rfl⟩))
 go_loopw [3] (fun iv wr => ∃ (k : Nat) (a' : Nat → Nat), k ≤ m / 2 ∧ iv = .int .i64 ((k : Int) - 1) ∧ HS wr L G cap m a' (.slice ca C.length cc) ∧ Two L G w wr ∧ Alike m a a' ∧ initF (cntOf C) m k a' = initF (cntOf C) m (m / 2) a) (fun iv _ => ((intOf iv) + 1).toNat)
 case atStart => exact ⟨m / 2, a, Nat.le_refl _, by go_num, Hh.out, Two.refl _ _ _, Alike.refl _ _, rfl⟩
 case round =>
  obtain ⟨k, a', hk, rfl, hs, ht, hal, hd⟩ := hrel
  have Hs := hid hs
  have Ht := hid ht
  have Hal := hid hal
  have Hd := hid hd
  clear hs ht hal hd
  cases k with
  | zero =>
    go_wp2_with fail
    go_end0
    exact ⟨rfl, by rw [← Hd.out]; exact Hs.out, Ht.out⟩
  | succ k =>
    have HCr : Hid (SlAt S wr 1 rInt (.slice ca C.length cc) C) := HC.out.mono rInt_mono (fun _ h => h) (fun b o v hb hc => Ht.out.stays b o v (HSd.out b hb) hc)
    have Har : Hid (∀ k, k < m → a' k < C.length) := fun k hk => by
     obtain ⟨k', hk', he⟩ := (Hal.out.img (a' k)).2 ⟨k, hk, rfl⟩
     rw [← he]; exact Ha.out k' hk'
    have hk1 : 0 ≤ (((k + 1 : Nat) : Int) - 1) := by omega
    go_wp2_with fail
    refine (hdown_z wr _ _ k m rfl rfl Hs.out HCr.out HSd.out (Nat.le_refl _) hm (by omega) Har.out).mono ?_
    rintro e w2 ⟨⟨b, rfl⟩, hs2, ht2⟩
    have Hs2 := hid hs2
    have Ht2 := hid ht2
    clear hs2 ht2
    go_wp2_with fail
    go_roundw
    case rel => exact ⟨k, _, by omega, by go_num, Hs2.out, Ht.out.trans Ht2.out, Hal.out.trans (downF_alike _ _ _ (Nat.le_refl _) _ _ _), Hd.out⟩
    case measure => simp [intOf]

set_option maxRecDepth 100000 in
set_option maxHeartbeats 1000000 in
theorem hpop_any {S : Nat → Prop} {L G cap m : Nat} {a : Nat → Nat} {ca : Option Addr} {cc : Nat} {C : List Int} (w : World) (h : HS w L G cap m a (.slice ca C.length cc)) (hC : SlAt S w 1 rInt (.slice ca C.length cc) C) (hS : ∀ b, S b → b ≠ L ∧ b ≠ G)
 (hm0 : 0 < m) (hm : m ≤ 1048576) (ha : ∀ k, k < m → a k < C.length) :
 Calls Tryz.prog 80 #[.iface 118 (.pointer (some ⟨L, 0, none⟩))] w fun e w' =>
  e = .returned (.iface 3 (.int .i64 (a 0))) ∧ HS w' L G cap (m - 1) (popF (cntOf C) m a) (.slice ca C.length cc) ∧ Two L G w w' := by
 obtain ⟨n, rfl⟩ : ∃ n, m = n + 1 := ⟨m - 1, by omega⟩
 rw [Nat.add_sub_cancel]
 have HC := hid hC
 have HSd := hid hS
 have Ha := hid ha
 have Hh := hid h
 have hml := method_len
 have hms := method_swap
 have hmp := method_pop
 have hlast := popF_last (cntOf C) a hm0
 have Hlast := hid hlast
 clear hC hS ha h hlast
 go_enter Tryz.func80, Tryz.ntmps80
 go_wp2_with (go_at_call 79; ((with_reducible refine (hlen_any _ Hh.out).mono ?_); rintro e w' ⟨rfl, rfl⟩))
 refine (hswap_z _ _ _ 0 n rfl rfl Hh.out (by omega) (by omega)).mono ?_
 rintro e w1 ⟨rfl, hs1, ht1⟩
 have Hs1 := hid hs1
 have Ht1 := hid ht1
 clear hs1 ht1
 have HC1 : Hid (SlAt S w1 1 rInt (.slice ca C.length cc) C) := HC.out.mono rInt_mono (fun _ h => h) (fun b o v hb hc => Ht1.out.stays b o v (HSd.out b hb) hc)
 have Ha1 : Hid (∀ k, k < n + 1 → swp a 0 n k < C.length) := fun k hk => by
  obtain ⟨k', hk', he⟩ := ((Alike.swp a (i := 0) (j := n) (m := n + 1) (by omega) (by omega)).img (swp a 0 n k)).2 ⟨k, hk, rfl⟩
  rw [← he]; exact Ha.out k' hk'
 go_wp2_with fail
 refine (hdown_z _ _ _ 0 n rfl rfl Hs1.out HC1.out HSd.out (by omega) hm (by omega) Ha1.out).mono ?_
 rintro e w2 ⟨⟨b, rfl⟩, hs2, ht2⟩
 have Hs2 := hid hs2
 have Ht2 := hid ht2
 clear hs2 ht2
 go_wp2_with fail
 refine (hpopm_any _ Hs2.out (by omega)).mono ?_
 rintro e w3 ⟨rfl, hs3, ht3⟩
 have Hs3 := hid hs3
 have Ht3 := hid ht3
 clear hs3 ht3
 go_wp2_with fail
 go_ret
 refine ⟨?_, Hs3.out, (Ht1.out.trans Ht2.out).trans Ht3.out⟩
 have h := Hlast.out
 unfold popF at h
 rw [Nat.add_sub_cancel] at h
 rw [← h]
 rfl

end Go.Proofs.YtnkogppgacappaaGreatDoor
