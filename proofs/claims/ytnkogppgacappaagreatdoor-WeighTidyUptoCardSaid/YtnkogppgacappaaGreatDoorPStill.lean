/- slices.Repeat of a list of one Boolean; math/bits.Mul of 1 and a small number. Plain loops around loops over a function: the marks that these leave among a frame's deferred calls. A row of Booleans that is written one by one. still.still: which words never change. -/
import Derived.Test.YtnkogppgacappaaGreatDoorPRound
import Derived.Shelf.Bits.Mul64
import Derived.Laws.CopyOwn
import Derived.Deep.RegionLaw
import Derived.Test.YtnkogppgacappaaGreatDoorPStillR
import Derived.Test.YtnkogppgacappaaGreatDoorPBack
namespace Go.Proofs.YtnkogppgacappaaGreatDoor
open Go.RowKit Go.Lib

set_option maxHeartbeats 1000000 in
theorem mul64_any (x y : Nat) (hx : x < 18446744073709551616) (hy : y < 18446744073709551616) (w : World) :
 Calls Tryz.prog 129 #[.int .u64 x, .int .u64 y] w fun e w' => e = .returned (.tuple #[.int .u64 ((x * y / 18446744073709551616 : Nat) : Int), .int .u64 ((x * y % 18446744073709551616 : Nat) : Int)]) ∧ w = w' := by
 obtain ⟨bd, bt, bw, hhi⟩ := Lib.mul64_hi x y hx hy
 have ba := Lib.half_mul_le (a := x / 4294967296) (b := y / 4294967296) (by omega) (by omega)
 have bb := Lib.half_mul_le (a := x / 4294967296) (b := y % 4294967296) (by omega) (by omega)
 have bc := Lib.half_mul_le (a := x % 4294967296) (b := y / 4294967296) (by omega) (by omega)
 have ba' : x / 4294967296 * (y / 4294967296) < 18446744073709551616 := by omega
 have bb' : x / 4294967296 * (y % 4294967296) < 18446744073709551616 := by omega
 have bc' : x % 4294967296 * (y / 4294967296) < 18446744073709551616 := by omega
 have bh1 : x / 4294967296 * (y / 4294967296) + (x / 4294967296 * (y % 4294967296) + x % 4294967296 * (y % 4294967296) / 4294967296) / 4294967296 < 18446744073709551616 := by omega
 have bh : x / 4294967296 * (y / 4294967296) + (x / 4294967296 * (y % 4294967296) + x % 4294967296 * (y % 4294967296) / 4294967296) / 4294967296 + ((x / 4294967296 * (y % 4294967296) + x % 4294967296 * (y % 4294967296) / 4294967296) % 4294967296 + x % 4294967296 * (y / 4294967296)) / 4294967296 < 18446744073709551616 := by omega
 go_enter Tryz.func129, Tryz.ntmps129
 go_wp2
 simp only [Mul64.maskN x hx, Mul64.maskN y hy, Mul64.divN, Mul64.mulN, Mul64.addN, Mul64.wrapN _ bd, Mul64.wrapN _ bb', Mul64.wrapN _ bt, Mul64.maskN _ bt, Mul64.wrapN _ bc', Mul64.wrapN _ bw, Mul64.wrapN _ ba', Mul64.wrapN _ bh1, Mul64.wrapN _ bh, Mul64.wrapM (x * y)]
 rw [hhi]
 go_ret2
 exact ⟨rfl, rfl⟩
set_option maxHeartbeats 1000000 in
theorem mulOne_any (y : Nat) (hy : y ≤ 1048576) (w : World) :
 Calls Tryz.prog 100 #[.int .u64 1, .int .u64 (y : Int)] w fun e w' => e = .returned (.tuple #[.int .u64 0, .int .u64 (y : Int)]) ∧ w = w' := by
 have c64 := mul64_any 1 y (by decide) (by omega) w
 rw [Nat.one_mul, Nat.div_eq_of_lt (by omega), Nat.mod_eq_of_lt (by omega)] at c64
 have H := hid c64
 clear c64
 go_enter Tryz.func100, Tryz.ntmps100
 go_wp2_with (go_at_call 129; refine H.out.mono ?_; rintro e w' ⟨rfl, rfl⟩)
 go_ret2
 exact ⟨rfl, rfl⟩

theorem splice_rep {α : Type} (a b : α) {m n c : Nat} (h : m + c ≤ n) : splice (List.replicate m a ++ List.replicate (n - m) b) m (List.replicate c a) = List.replicate (m + c) a ++ List.replicate (n - (m + c)) b := by
 unfold splice
 rw [List.take_left' (by simp), List.drop_append, List.length_replicate, List.length_replicate, List.drop_eq_nil_of_le (by simp), List.nil_append, List.drop_replicate, ← List.replicate_append_replicate, List.append_assoc, show n - m - (m + c - m) = n - (m + c) by omega]

theorem madeCells_rep (z : Value) (n : Nat) : madeCells #[z] n = (List.replicate n z).toArray := by
 apply Array.ext
 · simp [madeCells]
 · intro i h1 h2
   simp [madeCells, Nat.mod_one]
end Go.Proofs.YtnkogppgacappaaGreatDoor

namespace Go.Proofs.YtnkogppgacappaaGreatDoor
open Go.RowKit Go.Shelf

structure Marks (B C : Nat) (ds : List Deferred) (W : World) : Prop where
 at_ : ∀ d ∈ ds, ∃ D, d = { target := .collected D, args := #[] } ∧ B ≤ D ∧ D < C ∧ W.heap[D]? = some (.deferred (some []))
 apart : ds.Pairwise (fun d e => d ≠ e)
theorem Marks.nil (B C : Nat) (W : World) : Marks B C [] W := ⟨fun d h => (by cases h), List.Pairwise.nil⟩
theorem Marks.cons {B C C' D : Nat} {ds : List Deferred} {W : World} (h : Marks B C ds W) (hD : C ≤ D) (hB : B ≤ D) (hC : D < C') (hd : W.heap[D]? = some (.deferred (some []))) : Marks B C' ({ target := .collected D, args := #[] } :: ds) W := by
 refine ⟨fun d hm => ?_, List.Pairwise.cons (fun e he => ?_) h.apart⟩
 · rcases List.mem_cons.1 hm with rfl | hm
   · exact ⟨D, rfl, hB, hC, hd⟩
   · obtain ⟨D', e, h1, h2, h3⟩ := h.at_ d hm
     exact ⟨D', e, h1, by omega, h3⟩
 · obtain ⟨D', rfl, h1, h2, h3⟩ := h.at_ e he
   intro hx
   injection hx with hx
   injection hx with hx
   omega

def Shut (B : Nat) (W W' : World) : Prop := Below B W W' ∧ ∀ (b : Nat) c t f, W.heap[b]? = some (.cells c t f) → W'.heap[b]? = some (.cells c t f)
theorem Shut.refl (B : Nat) (W : World) : Shut B W W := ⟨Below.refl _ _, fun _ _ _ _ h => h⟩
theorem Shut.trans {B : Nat} {W1 W2 W3 : World} (h : Shut B W1 W2) (k : Shut B W2 W3) : Shut B W1 W3 := ⟨h.1.trans k.1, fun b c t f hc => k.2 b c t f (h.2 b c t f hc)⟩

theorem leaves_marks {F : Fence} {n : Nat} {P : Program} {fn : Func} {tmps : Array Value} {R : Ending → World → Prop} {B C : Nat} : ∀ (ds : List Deferred) (W : World), B ≤ W.heap.size → Marks B C ds W →
 (∀ W', Shut B W W' → ∃ v, (results fn tmps).run P W' = .ok v W' ∧ R (.returned v) W') → LeavesInM F n P fn tmps R ds .returning W := by
 intro ds
 induction ds with
 | nil => exact fun W _ _ h => h W (Shut.refl B W)
 | cons d ds ih =>
   intro W hBW hM h
   obtain ⟨D, rfl, h1, h2, h3⟩ := hM.at_ _ (List.mem_cons_self ..)
   have hlt : D < W.heap.size := (Array.getElem?_eq_some_iff.1 h3).1
   have hsh : Shut B W (W.putObj D (.deferred none)) := by
    refine ⟨(Below.refl B W).grown (grownBy_putObj' W D _) hBW (fun k e => by cases e; exact h1), fun b c t f hb => ?_⟩
    rw [World.putObj_heap_other (fun e => by rw [e, h3] at hb; cases hb)]
    exact hb
   refine ⟨by simp, .inl ⟨D, _, rfl, run_takeDeferred h3, ih _ (by simpa using hBW) ⟨fun e he => ?_, (List.pairwise_cons.1 hM.apart).2⟩ (fun W' hW => h W' (hsh.trans hW))⟩⟩
   obtain ⟨D', rfl, k1, k2, k3⟩ := hM.at_ e (List.mem_cons_of_mem _ he)
   have hne := (List.pairwise_cons.1 hM.apart).1 _ he
   have hDD : D' ≠ D := fun e => hne (by rw [e])
   exact ⟨D', rfl, k1, k2, (World.putObj_heap_other hDD).trans k3⟩

end Go.Proofs.YtnkogppgacappaaGreatDoor

namespace Go.Proofs.YtnkogppgacappaaGreatDoor
open Go.RowKit Go.Shelf Go.Sort

attribute [local go_sem] Oper.semAt_some

end Go.Proofs.YtnkogppgacappaaGreatDoor
