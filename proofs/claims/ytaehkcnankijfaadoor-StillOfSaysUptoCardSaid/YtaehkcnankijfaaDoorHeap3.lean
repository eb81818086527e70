/- container/heap over the heap of blocks. -/
import Derived.Test.YtaehkcnankijfaaDoorHeap2
namespace Go.Proofs.YtaehkcnankijfaaDoor
open Go.RowKit

theorem method_len (a : Addr) (w : World) : (method 367 126 (.pointer (some a)) "Len").run Tryd.prog w = .ok (72, .pointer (some a)) w := by kernel_rfl
theorem method_less (a : Addr) (w : World) : (method 367 126 (.pointer (some a)) "Less").run Tryd.prog w = .ok (206, .pointer (some a)) w := by kernel_rfl
theorem method_swap (a : Addr) (w : World) : (method 367 126 (.pointer (some a)) "Swap").run Tryd.prog w = .ok (208, .pointer (some a)) w := by kernel_rfl
theorem method_pop (a : Addr) (w : World) : (method 367 126 (.pointer (some a)) "Pop").run Tryd.prog w = .ok (207, .pointer (some a)) w := by kernel_rfl

theorem hless_z {S : Nat → Prop} {L G cap m : Nat} {a : Nat → Nat} {ca : Option Addr} {cc : Nat} {C : List Int} (w : World) (iz jz : Int) (i j : Nat) (hiz : iz = i) (hjz : jz = j) (h : HS w L G cap m a (.slice ca C.length cc)) (hC : SlAt S w 1 rInt (.slice ca C.length cc) C)
    (hi : i < m) (hj : j < m) (hai : a i < C.length) (haj : a j < C.length) :
    Calls Tryd.prog 206 #[.pointer (some ⟨L, 0, none⟩), .int .i64 iz, .int .i64 jz] w fun e w' => e = .returned (.bool (lessB (cntOf C) (a i) (a j))) ∧ ∃ q, w' = w.drewN q := by
  subst hiz hjz
  exact hless_any w i j h hC hi hj hai haj
theorem hswap_z {L G cap m : Nat} {a : Nat → Nat} {cv : Value} (w : World) (iz jz : Int) (i j : Nat) (hiz : iz = i) (hjz : jz = j) (h : HS w L G cap m a cv) (hi : i < m) (hj : j < m) :
    Calls Tryd.prog 208 #[.pointer (some ⟨L, 0, none⟩), .int .i64 iz, .int .i64 jz] w fun e w' => e = .returned (.tuple #[]) ∧ HS w' L G cap m (swp a i j) cv ∧ Two L G w w' := by
  subst hiz hjz
  exact hswap_any w i j h hi hj
def SomeBool (e : Ending) : Prop := ∃ b : Bool, e = .returned (.bool b)
theorem slat_drew {α : Type} {S : Nat → Prop} {w : World} {sz : Nat} {r : Rp α} (hr : r.Mono) {v : Value} {l : List α} (h : SlAt S w sz r v l) (q : Nat) : SlAt S (w.drewN q) sz r v l :=
  h.mono hr (fun _ h => h) (fun b o v _ hc => by rw [World.cell?_drewN]; exact hc)
theorem downF_end {c : Nat → Int} {n f k : Nat} {a : Nat → Nat} (h : n ≤ 2 * k + 1) : downF c n f a k = a := by
  cases f with
  | zero => rfl
  | succ f => rw [downF, if_pos h]
theorem downF_stop {c : Nat → Int} {n f k : Nat} {a : Nat → Nat} (h : ¬ n ≤ 2 * k + 1) (hl : lessB c (a (kid c a n k)) (a k) = false) : downF c n f a k = a := by
  cases f with
  | zero => rfl
  | succ f => rw [downF, if_neg h, if_neg (by rw [hl]; simp)]
theorem downF_go {c : Nat → Int} {n f k : Nat} {a : Nat → Nat} (h : ¬ n ≤ 2 * k + 1) (hf : n ≤ k + f) (hl : lessB c (a (kid c a n k)) (a k) = true) :
    ∃ g, f = g + 1 ∧ n ≤ kid c a n k + g ∧ downF c n f a k = downF c n g (swp a k (kid c a n k)) (kid c a n k) := by
  cases f with
  | zero => omega
  | succ f => exact ⟨f, rfl, by have := kid_lt (c := c) (a := a) (n := n) (i := k) (by omega); omega, by rw [downF, if_neg h, if_pos hl]⟩

set_option maxRecDepth 100000 in
set_option maxHeartbeats 1000000 in
theorem hdown_any {S : Nat → Prop} {L G cap m : Nat} {a : Nat → Nat} {ca : Option Addr} {cc : Nat} {C : List Int} (w : World) (i n : Nat) (h : HS w L G cap m a (.slice ca C.length cc)) (hC : SlAt S w 1 rInt (.slice ca C.length cc) C) (hS : ∀ b, S b → b ≠ L ∧ b ≠ G)
    (hn : n ≤ m) (hm : m ≤ 1048576) (hi : i ≤ 1048576) (ha : ∀ k, k < m → a k < C.length) :
    Calls Tryd.prog 119 #[.iface 126 (.pointer (some ⟨L, 0, none⟩)), .int .i64 i, .int .i64 n] w fun e w' =>
      SomeBool e ∧ HS w' L G cap m (downF (cntOf C) n n a i) (.slice ca C.length cc) ∧ Two L G w w' := by
  have HC := hid hC
  have HSd := hid hS
  have Ha := hid ha
  have Hh := hid h
  clear hC hS ha h
  go_enter Tryd.func119, Tryd.ntmps119
  go_wp2_with fail
  go_loopw [7] (fun iv wr => ∃ (k : Nat) (a' : Nat → Nat), k ≤ 2097152 ∧ iv = .int .i64 k ∧ HS wr L G cap m a' (.slice ca C.length cc) ∧ Two L G w wr ∧ Alike m a a' ∧ ∃ f, n ≤ k + f ∧ downF (cntOf C) n f a' k = downF (cntOf C) n n a i) (fun iv _ => n - (intOf iv).toNat)
  case atStart => exact ⟨i, a, by omega, rfl, Hh.out, Two.refl _ _ _, Alike.refl _ _, n, by omega, rfl⟩
  case round =>
    obtain ⟨k, a', hk, rfl, hs, ht, hal, f, hf, hd⟩ := hrel
    have Hs := hid hs
    have Ht := hid ht
    have Hal := hid hal
    have Hd := hid hd
    clear hs ht hal hd
    have hml := method_less
    have hmw := method_swap
    by_cases h1 : n ≤ 2 * k + 1
    · have Hr := hid ((downF_end h1).symm.trans Hd.out)
      go_wp2_with fail
      go_ret
      exact ⟨⟨_, rfl⟩, by rw [← Hr.out]; exact Hs.out, Ht.out⟩
    have HCr : Hid (SlAt S wr 1 rInt (.slice ca C.length cc) C) := HC.out.mono rInt_mono (fun _ h => h) (fun b o v hb hc => Ht.out.stays b o v (HSd.out b hb) hc)
    have Har : Hid (∀ k, k < m → a' k < C.length) := fun k hk => by
      obtain ⟨k', hk', he⟩ := (Hal.out.img (a' k)).2 ⟨k, hk, rfl⟩
      rw [← he]; exact Ha.out k' hk'
    have Z1 : Hid (2 * (k : Int) + 1 = ((2 * k + 1 : Nat) : Int)) := by show _ = _; omega
    have Z2 : Hid (2 * (k : Int) + 1 + 1 = ((2 * k + 2 : Nat) : Int)) := by show _ = _; omega
    have hkid : (2 * k + 2 < n ∧ lessB (cntOf C) (a' (2 * k + 2)) (a' (2 * k + 1)) = true ∧ kid (cntOf C) a' n k = 2 * k + 2) ∨
        (2 * k + 2 < n ∧ lessB (cntOf C) (a' (2 * k + 2)) (a' (2 * k + 1)) = false ∧ kid (cntOf C) a' n k = 2 * k + 1) ∨ (n ≤ 2 * k + 2 ∧ kid (cntOf C) a' n k = 2 * k + 1) := by
      unfold kid
      by_cases h2 : 2 * k + 2 < n
      · cases hl : lessB (cntOf C) (a' (2 * k + 2)) (a' (2 * k + 1)) <;> simp [h2]
      · simp [h2]; omega
    rcases hkid with ⟨h2, hl, hk2⟩ | ⟨h2, hl, hk2⟩ | ⟨h2, hk2⟩
    · have Hk2 := hid hk2
      clear hk2
      cases hl2 : lessB (cntOf C) (a' (2 * k + 2)) (a' k)
      · have Hr := hid ((downF_stop (f := f) h1 (by rw [Hk2.out]; exact hl2)).symm.trans Hd.out)
        go_wp2_with fail
        refine (hless_z wr _ _ (2 * k + 2) (2 * k + 1) Z2.out Z1.out Hs.out HCr.out (by omega) (by omega) (Har.out _ (by omega)) (Har.out _ (by omega))).mono ?_
        rintro e w' ⟨rfl, q, rfl⟩
        go_wp2_with fail
        refine (hless_z (wr.drewN q) _ _ (2 * k + 2) k Z2.out rfl (Hs.out.drewN q) (slat_drew rInt_mono HCr.out q) (by omega) (by omega) (Har.out _ (by omega)) (Har.out _ (by omega))).mono ?_
        rintro e w' ⟨rfl, q2, rfl⟩
        go_wp2_with fail
        go_ret
        refine ⟨⟨_, rfl⟩, ?_, ?_⟩
        · rw [← Hr.out]
          simpa using ((Hs.out.drewN q).drewN q2)
        · simpa using ((Ht.out.drewN q).drewN q2)
      · obtain ⟨g', hg1, hg2, hg3⟩ := downF_go (c := cntOf C) (n := n) (f := f) (k := k) (a := a') h1 hf (by rw [Hk2.out]; exact hl2)
        have Hg2 := hid hg2
        have Hg3 := hid hg3
        clear hg1 hg2 hg3
        go_wp2_with fail
        refine (hless_z wr _ _ (2 * k + 2) (2 * k + 1) Z2.out Z1.out Hs.out HCr.out (by omega) (by omega) (Har.out _ (by omega)) (Har.out _ (by omega))).mono ?_
        rintro e w' ⟨rfl, q, rfl⟩
        go_wp2_with fail
        refine (hless_z (wr.drewN q) _ _ (2 * k + 2) k Z2.out rfl (Hs.out.drewN q) (slat_drew rInt_mono HCr.out q) (by omega) (by omega) (Har.out _ (by omega)) (Har.out _ (by omega))).mono ?_
        rintro e w' ⟨rfl, q2, rfl⟩
        go_wp2_with fail
        refine (hswap_z _ _ _ k (2 * k + 2) rfl Z2.out (by simpa using ((Hs.out.drewN q).drewN q2)) (by omega) (by omega)).mono ?_
        rintro e w3 ⟨rfl, hs3, ht3⟩
        have Hs3 := hid hs3
        have Ht3 := hid ht3
        clear hs3 ht3
        go_wp2_with fail
        go_roundw
        case rel =>
          refine ⟨2 * k + 2, _, by omega, by go_num, Hs3.out, Ht.out.trans ?_, Hal.out.trans (Alike.swp a' (by omega) (by omega)), g', ?_, ?_⟩
          · exact Two.trans (by simpa using ((((Two.refl L G wr).drewN q).drewN q2))) Ht3.out
          · rw [← Hk2.out]; exact Hg2.out
          · rw [← Hd.out, Hg3.out, Hk2.out]
        case measure => simp [intOf]; omega
    · have Hk2 := hid hk2
      clear hk2
      cases hl2 : lessB (cntOf C) (a' (2 * k + 1)) (a' k)
      · have Hr := hid ((downF_stop (f := f) h1 (by rw [Hk2.out]; exact hl2)).symm.trans Hd.out)
        go_wp2_with fail
        refine (hless_z wr _ _ (2 * k + 2) (2 * k + 1) Z2.out Z1.out Hs.out HCr.out (by omega) (by omega) (Har.out _ (by omega)) (Har.out _ (by omega))).mono ?_
        rintro e w' ⟨rfl, q, rfl⟩
        go_wp2_with fail
        refine (hless_z (wr.drewN q) _ _ (2 * k + 1) k Z1.out rfl (Hs.out.drewN q) (slat_drew rInt_mono HCr.out q) (by omega) (by omega) (Har.out _ (by omega)) (Har.out _ (by omega))).mono ?_
        rintro e w' ⟨rfl, q2, rfl⟩
        go_wp2_with fail
        go_ret
        refine ⟨⟨_, rfl⟩, ?_, ?_⟩
        · rw [← Hr.out]
          simpa using ((Hs.out.drewN q).drewN q2)
        · simpa using ((Ht.out.drewN q).drewN q2)
      · obtain ⟨g', hg1, hg2, hg3⟩ := downF_go (c := cntOf C) (n := n) (f := f) (k := k) (a := a') h1 hf (by rw [Hk2.out]; exact hl2)
        have Hg2 := hid hg2
        have Hg3 := hid hg3
        clear hg1 hg2 hg3
        go_wp2_with fail
        refine (hless_z wr _ _ (2 * k + 2) (2 * k + 1) Z2.out Z1.out Hs.out HCr.out (by omega) (by omega) (Har.out _ (by omega)) (Har.out _ (by omega))).mono ?_
        rintro e w' ⟨rfl, q, rfl⟩
        go_wp2_with fail
        refine (hless_z (wr.drewN q) _ _ (2 * k + 1) k Z1.out rfl (Hs.out.drewN q) (slat_drew rInt_mono HCr.out q) (by omega) (by omega) (Har.out _ (by omega)) (Har.out _ (by omega))).mono ?_
        rintro e w' ⟨rfl, q2, rfl⟩
        go_wp2_with fail
        refine (hswap_z _ _ _ k (2 * k + 1) rfl Z1.out (by simpa using ((Hs.out.drewN q).drewN q2)) (by omega) (by omega)).mono ?_
        rintro e w3 ⟨rfl, hs3, ht3⟩
        have Hs3 := hid hs3
        have Ht3 := hid ht3
        clear hs3 ht3
        go_wp2_with fail
        go_roundw
        case rel =>
          refine ⟨2 * k + 1, _, by omega, by go_num, Hs3.out, Ht.out.trans ?_, Hal.out.trans (Alike.swp a' (by omega) (by omega)), g', ?_, ?_⟩
          · exact Two.trans (by simpa using ((((Two.refl L G wr).drewN q).drewN q2))) Ht3.out
          · rw [← Hk2.out]; exact Hg2.out
          · rw [← Hd.out, Hg3.out, Hk2.out]
        case measure => simp [intOf]; omega
    · have Hk2 := hid hk2
      clear hk2
      cases hl2 : lessB (cntOf C) (a' (2 * k + 1)) (a' k)
      · have Hr := hid ((downF_stop (f := f) h1 (by rw [Hk2.out]; exact hl2)).symm.trans Hd.out)
        go_wp2_with fail
        refine (hless_z wr _ _ (2 * k + 1) k Z1.out rfl Hs.out HCr.out (by omega) (by omega) (Har.out _ (by omega)) (Har.out _ (by omega))).mono ?_
        rintro e w' ⟨rfl, q2, rfl⟩
        go_wp2_with fail
        go_ret
        refine ⟨⟨_, rfl⟩, ?_, ?_⟩
        · rw [← Hr.out]
          simpa using (Hs.out.drewN q2)
        · simpa using (Ht.out.drewN q2)
      · obtain ⟨g', hg1, hg2, hg3⟩ := downF_go (c := cntOf C) (n := n) (f := f) (k := k) (a := a') h1 hf (by rw [Hk2.out]; exact hl2)
        have Hg2 := hid hg2
        have Hg3 := hid hg3
        clear hg1 hg2 hg3
        go_wp2_with fail
        refine (hless_z wr _ _ (2 * k + 1) k Z1.out rfl Hs.out HCr.out (by omega) (by omega) (Har.out _ (by omega)) (Har.out _ (by omega))).mono ?_
        rintro e w' ⟨rfl, q2, rfl⟩
        go_wp2_with fail
        refine (hswap_z _ _ _ k (2 * k + 1) rfl Z1.out (by simpa using (Hs.out.drewN q2)) (by omega) (by omega)).mono ?_
        rintro e w3 ⟨rfl, hs3, ht3⟩
        have Hs3 := hid hs3
        have Ht3 := hid ht3
        clear hs3 ht3
        go_wp2_with fail
        go_roundw
        case rel =>
          refine ⟨2 * k + 1, _, by omega, by go_num, Hs3.out, Ht.out.trans ?_, Hal.out.trans (Alike.swp a' (by omega) (by omega)), g', ?_, ?_⟩
          · exact Two.trans (by simpa using (((Two.refl L G wr).drewN q2))) Ht3.out
          · rw [← Hk2.out]; exact Hg2.out
          · rw [← Hd.out, Hg3.out, Hk2.out]
        case measure => simp [intOf]; omega

end Go.Proofs.YtaehkcnankijfaaDoor
