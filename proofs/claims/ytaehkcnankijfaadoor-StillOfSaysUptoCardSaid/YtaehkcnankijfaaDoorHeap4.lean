/- container/heap's Init and Pop over the heap of blocks. -/
import Derived.Test.YtaehkcnankijfaaDoorHeap3
namespace Go.Proofs.YtaehkcnankijfaaDoor
open Go.RowKit

theorem hdown_z {S : Nat → Prop} {L G cap m : Nat} {a : Nat → Nat} {ca : Option Addr} {cc : Nat} {C : List Int} (w : World) (iz nz : Int) (i n : Nat) (hiz : iz = i) (hnz : nz = n) (h : HS w L G cap m a (.slice ca C.length cc)) (hC : SlAt S w 1 rInt (.slice ca C.length cc) C) (hS : ∀ b, S b → b ≠ L ∧ b ≠ G)
    (hn : n ≤ m) (hm : m ≤ 1048576) (hi : i ≤ 1048576) (ha : ∀ k, k < m → a k < C.length) :
    Calls Tryd.prog 119 #[.iface 126 (.pointer (some ⟨L, 0, none⟩)), .int .i64 iz, .int .i64 nz] w fun e w' =>
      SomeBool e ∧ HS w' L G cap m (downF (cntOf C) n n a i) (.slice ca C.length cc) ∧ Two L G w w' := by
  subst hiz hnz
  exact hdown_any w i n h hC hS hn hm hi ha

set_option maxRecDepth 100000 in
set_option maxHeartbeats 1000000 in
theorem hinit_any {S : Nat → Prop} {L G cap m : Nat} {a : Nat → Nat} {ca : Option Addr} {cc : Nat} {C : List Int} (w : World) (h : HS w L G cap m a (.slice ca C.length cc)) (hC : SlAt S w 1 rInt (.slice ca C.length cc) C) (hS : ∀ b, S b → b ≠ L ∧ b ≠ G)
    (hm : m ≤ 1048576) (ha : ∀ k, k < m → a k < C.length) :
    Calls Tryd.prog 71 #[.iface 126 (.pointer (some ⟨L, 0, none⟩))] w fun e w' =>
      e = .returned (.tuple #[]) ∧ HS w' L G cap m (initF (cntOf C) m (m / 2) a) (.slice ca C.length cc) ∧ Two L G w w' := by
  have HC := hid hC
  have HSd := hid hS
  have Ha := hid ha
  have Hh := hid h
  have hml := method_len
  clear hC hS ha h
  go_enter Tryd.func71, Tryd.ntmps71
  go_wp2_with (go_at_call 72; ((with_reducible refine (hlen_any _ Hh.out).mono ?_); rintro e w' ⟨rfl, rfl⟩))
  go_loopw [3] (fun iv wr => ∃ (k : Nat) (a' : Nat → Nat), k ≤ m / 2 ∧ iv = .int .i64 ((k : Int) - 1) ∧ HS wr L G cap m a' (.slice ca C.length cc) ∧ Two L G w wr ∧ Alike m a a' ∧ initF (cntOf C) m k a' = initF (cntOf C) m (m / 2) a) (fun iv _ => ((intOf iv) + 1).toNat)
  case atStart => exact ⟨m / 2, a, Nat.le_refl _, by go_num, Hh.out, Two.refl _ _ _, Alike.refl _ _, rfl⟩
  case round =>
    obtain ⟨k, a', hk, rfl, hs, ht, hal, hd⟩ := hrel
    have Hs := hid hs
    have Ht := hid ht
    have Hal := hid hal
    have Hd := hid hd
    clear hs ht hal hd
    cases k with
    | zero =>
      go_wp2_with fail
      go_end0
      exact ⟨rfl, by rw [← Hd.out]; exact Hs.out, Ht.out⟩
    | succ k =>
      have HCr : Hid (SlAt S wr 1 rInt (.slice ca C.length cc) C) := HC.out.mono rInt_mono (fun _ h => h) (fun b o v hb hc => Ht.out.stays b o v (HSd.out b hb) hc)
      have Har : Hid (∀ k, k < m → a' k < C.length) := fun k hk => by
        obtain ⟨k', hk', he⟩ := (Hal.out.img (a' k)).2 ⟨k, hk, rfl⟩
        rw [← he]; exact Ha.out k' hk'
      have hk1 : 0 ≤ (((k + 1 : Nat) : Int) - 1) := by omega
      go_wp2_with fail
      refine (hdown_z wr _ _ k m rfl rfl Hs.out HCr.out HSd.out (Nat.le_refl _) hm (by omega) Har.out).mono ?_
      rintro e w2 ⟨⟨b, rfl⟩, hs2, ht2⟩
      have Hs2 := hid hs2
      have Ht2 := hid ht2
      clear hs2 ht2
      go_wp2_with fail
      go_roundw
      case rel => exact ⟨k, _, by omega, by go_num, Hs2.out, Ht.out.trans Ht2.out, Hal.out.trans (downF_alike _ _ _ (Nat.le_refl _) _ _ _), Hd.out⟩
      case measure => simp [intOf]

set_option maxRecDepth 100000 in
set_option maxHeartbeats 1000000 in
theorem hpop_any {S : Nat → Prop} {L G cap m : Nat} {a : Nat → Nat} {ca : Option Addr} {cc : Nat} {C : List Int} (w : World) (h : HS w L G cap m a (.slice ca C.length cc)) (hC : SlAt S w 1 rInt (.slice ca C.length cc) C) (hS : ∀ b, S b → b ≠ L ∧ b ≠ G)
    (hm0 : 0 < m) (hm : m ≤ 1048576) (ha : ∀ k, k < m → a k < C.length) :
    Calls Tryd.prog 73 #[.iface 126 (.pointer (some ⟨L, 0, none⟩))] w fun e w' =>
      e = .returned (.iface 3 (.int .i64 (a 0))) ∧ HS w' L G cap (m - 1) (popF (cntOf C) m a) (.slice ca C.length cc) ∧ Two L G w w' := by
  obtain ⟨n, rfl⟩ : ∃ n, m = n + 1 := ⟨m - 1, by omega⟩
  rw [Nat.add_sub_cancel]
  have HC := hid hC
  have HSd := hid hS
  have Ha := hid ha
  have Hh := hid h
  have hml := method_len
  have hms := method_swap
  have hmp := method_pop
  have hlast := popF_last (cntOf C) a hm0
  have Hlast := hid hlast
  clear hC hS ha h hlast
  go_enter Tryd.func73, Tryd.ntmps73
  go_wp2_with (go_at_call 72; ((with_reducible refine (hlen_any _ Hh.out).mono ?_); rintro e w' ⟨rfl, rfl⟩))
  refine (hswap_z _ _ _ 0 n rfl rfl Hh.out (by omega) (by omega)).mono ?_
  rintro e w1 ⟨rfl, hs1, ht1⟩
  have Hs1 := hid hs1
  have Ht1 := hid ht1
  clear hs1 ht1
  have HC1 : Hid (SlAt S w1 1 rInt (.slice ca C.length cc) C) := HC.out.mono rInt_mono (fun _ h => h) (fun b o v hb hc => Ht1.out.stays b o v (HSd.out b hb) hc)
  have Ha1 : Hid (∀ k, k < n + 1 → swp a 0 n k < C.length) := fun k hk => by
    obtain ⟨k', hk', he⟩ := ((Alike.swp a (i := 0) (j := n) (m := n + 1) (by omega) (by omega)).img (swp a 0 n k)).2 ⟨k, hk, rfl⟩
    rw [← he]; exact Ha.out k' hk'
  go_wp2_with fail
  refine (hdown_z _ _ _ 0 n rfl rfl Hs1.out HC1.out HSd.out (by omega) hm (by omega) Ha1.out).mono ?_
  rintro e w2 ⟨⟨b, rfl⟩, hs2, ht2⟩
  have Hs2 := hid hs2
  have Ht2 := hid ht2
  clear hs2 ht2
  go_wp2_with fail
  refine (hpopm_any _ Hs2.out (by omega)).mono ?_
  rintro e w3 ⟨rfl, hs3, ht3⟩
  have Hs3 := hid hs3
  have Ht3 := hid ht3
  clear hs3 ht3
  go_wp2_with fail
  go_ret
  refine ⟨?_, Hs3.out, (Ht1.out.trans Ht2.out).trans Ht3.out⟩
  have h := Hlast.out
  unfold popF at h
  rw [Nat.add_sub_cancel] at h
  rw [← h]
  rfl

end Go.Proofs.YtaehkcnankijfaaDoor
