/- turneryref6.unrollAhead: the blocks that lead to a block. -/
import Derived.Test.YtaehkcnankijfaaDoorCopyF
import Derived.Test.YtaehkcnankijfaaDoorAhd0
namespace Go.Proofs.YtaehkcnankijfaaDoor
open Go.RowKit

theorem hits_take9 (to : List Int) (t i j : Nat) (h : j < to.length) : hits (to.take (j + 1)) t i = hits (to.take j) t i ++ if to[j] = (t : Int) then [(i : Int)] else [] := by
  unfold hits
  rw [List.take_succ_eq_append_getElem h, List.filter_append, List.map_append]
  congr 1
  by_cases hc : to[j] = (t : Int)
  · simp [hc]
  · simp [hc]
theorem hits_len9 (to : List Int) (t i : Nat) : (hits to t i).length ≤ to.length := by
  unfold hits
  rw [List.length_map]
  exact List.length_filter_le _ _
theorem predsOf_len (t : Nat) : ∀ (l : List DBlock) (s : Nat), (∀ x ∈ l, x.fin.to.length ≤ 2) → (predsOf l s t).length ≤ 2 * l.length
  | [], _, _ => by simp [predsOf]
  | b :: r, s, h => by
    have h1 := predsOf_len t r (s + 1) (fun x hx => h x (by simp [hx]))
    have h2 := hits_len9 b.fin.to t s
    have h3 := h b (by simp)
    simp only [predsOf, List.length_append, List.length_cons]
    omega

theorem int_at9 {S : Nat → Prop} {w : World} {a : Option Addr} {n c : Nat} {l : List Int} (h : SlAt S w 1 rInt (.slice a n c) l) {t : Nat} (ht : t < l.length) : ∃ b off, a = some ⟨b, off, none⟩ ∧ w.cell? ⟨b, off + t, none⟩ = some (.int .i64 l[t]) := by
  obtain ⟨b, off, cs, ha, -, ⟨rfl, -⟩, -, hcs⟩ := h.get ht
  have d := hcs.get1
  rw [Nat.mul_one] at d
  exact ⟨b, off, ha, d⟩

set_option maxRecDepth 100000 in
set_option maxHeartbeats 4000000 in
theorem unrollAhead_any {S : Nat → Prop} (nm : ByteArray) (p r : Int) (ba : Option Addr) (bc : Nat) (bs : List DBlock) (t : Nat) (w : World) (hb : SlAt S w 6 rBlock (.slice ba bs.length bc) bs) (hn : bs.length ≤ 524288) (_ht : t ≤ 1048576) (hto : ∀ x ∈ bs, x.fin.to.length ≤ 2) :
    Calls Tryd.prog 87 #[.agg #[.string nm, .int .i64 p, .int .i64 r, .slice ba bs.length bc], .int .i64 t] w fun e w' =>
      ∃ v, e = .returned v ∧ Own (w.heap.size + 1) w' 3 1 rInt v (predsOf bs 0 t) ∧ Below w.heap.size w w' := by
  have Hb := hid hb
  have Hto := hid hto
  clear hb hto
  obtain ⟨i0, hi0, hz0, hz1, hz2⟩ := info_parts infoInt'
  go_enter Tryd.func87, Tryd.ntmps87
  go_wp2_with fail
  obtain ⟨W0, hW0⟩ : ∃ W0, W0 = w.alloc (.cells #[.string nm, .int .i64 p, .int .i64 r, .slice ba bs.length bc] 35) := ⟨_, rfl⟩
  have hb0 : Below w.heap.size w W0 := by rw [hW0]; (repeat (first | exact Below.refl _ _ | refine Below.alloc ?_ (by first | omega | (simp <;> omega)) _ | refine Below.setCell ?_ (by first | omega | (simp <;> omega)) _ | refine below_drewN ?_ _ | refine Below.drew ?_))
  have hs0 : W0.heap.size = w.heap.size + 1 := by rw [hW0]; simp
  have g0 : W0.cell? ⟨w.heap.size, 3, none⟩ = some (.slice ba bs.length bc) := by rw [hW0]; simp
  rw [← hW0]
  have Hb0 := hid hb0
  have G0 := hid g0
  have Hs0 := hid hs0
  clear hW0 hb0 g0 hs0
  go_loopw [5, 6] (fun v5 i wr => ∃ (k : Nat) (v : Value), v = v5 ∧ k ≤ bs.length ∧ i = .int .i64 k ∧ Build W0 wr 3 1 rInt v (predsOf (bs.take k) 0 t)) (fun _ i _ => bs.length - (intOf i).toNat)
  case atStart => exact ⟨0, _, rfl, Nat.zero_le _, rfl, Build.start _ _ _ _⟩
  case round =>
    obtain ⟨k, v, rfl, hk, rfl, hs⟩ := hrel
    have Hs := hid hs
    have g0 := cell_later' G0.out hs.old
    have zw : w.heap.size < wr.heap.size := cell_lt g0
    have Hw := hid (Hb0.out.trans (hs.old.mono Hb0.out.size))
    clear hs
    by_cases hkl : k < bs.length
    · have hpl := predsOf_len t (bs.take k) 0 (fun x hx => Hto.out x (List.mem_of_mem_take hx))
      rw [List.length_take, Nat.min_eq_left hk] at hpl
      have ht2 := Hto.out _ (List.getElem_mem hkl)
      have Hpt := hid (predsOf_take bs k t hkl)
      obtain ⟨b, off, pa, pc, la, lc, ta, tc, rfl, hcs, -, -, hts, -, -⟩ := block_at (Hb.out.later rBlock_mono Hw.out) hkl
      have c5 := hcs.get6.2.2.2.2.2
      obtain ⟨tos, htos⟩ : ∃ tos, bs[k].fin.to = tos := ⟨_, rfl⟩
      rw [htos] at c5 hts ht2
      have Htos := hid htos
      have zb : b < wr.heap.size := cell_lt c5
      have Hc5 := hid c5
      have Hg0 := hid g0
      have Hts := hid hts
      have Hpl := hid hpl
      clear hcs htos hts c5 g0 zb zw hpl
      obtain ⟨wo, hwo⟩ : ∃ wo : World, wo = wr := ⟨_, rfl⟩
      subst hwo
      have hgo := Hg0.out
      have zgo : w.heap.size < wo.heap.size := cell_lt hgo
      go_wp2_with fail
      clear hgo zgo
      go_loopw [5, 7] (fun v5 i wi => ∃ (j : Nat) (v2 : Value), v2 = v5 ∧ j ≤ tos.length ∧ i = .int .i64 j ∧ Build W0 wi 3 1 rInt v2 (predsOf (bs.take k) 0 t ++ hits (tos.take j) t k) ∧ Below w.heap.size w wi) (fun _ i _ => tos.length - (intOf i).toNat)
      case atStart => exact ⟨0, v, rfl, Nat.zero_le _, rfl, by simpa [hits] using Hs.out, Hw.out⟩
      case round =>
        obtain ⟨j, v2, rfl, hj, rfl, hs2, hw2⟩ := hrel
        have Hs2 := hid hs2
        have g0 := cell_later' G0.out hs2.old
        have zw : w.heap.size < wr.heap.size := cell_lt g0
        obtain ⟨b', off', pa', pc', la', lc', ta', tc', hab, hcs, -, -, hts, -, -⟩ := block_at (Hb.out.later rBlock_mono hw2) hkl
        cases hab
        have c5 := hcs.get6.2.2.2.2.2
        rw [Htos.out] at c5 hts
        have zb : b < wr.heap.size := cell_lt c5
        have Hts2 := hid hts
        have Hw2 := hid hw2
        have hpl := Hpl.out
        have hhl := hits_len9 (tos.take j) t k
        rw [List.length_take, Nat.min_eq_left hj] at hhl
        have z00 : W0.heap.size ≤ wr.heap.size := hs2.old.size
        have hll : (predsOf (bs.take k) 0 t ++ hits (tos.take j) t k).length + 1 ≤ 2097152 := by rw [List.length_append]; omega
        have Hll := hid hll
        clear hs2 hcs hts hw2 hpl hhl hll
        by_cases hjl : j < tos.length
        · obtain ⟨tb, toff, rfl, d0⟩ := int_at9 Hts2.out hjl
          have ztb : tb < wr.heap.size := cell_lt d0
          have Hht := hid (hits_take9 tos t k j hjl)
          by_cases he : tos[j] = (t : Int)
          · rw [he] at d0
            have Hhe : Hid (hits (tos.take (j + 1)) t k = hits (tos.take j) t k ++ [(k : Int)]) := by show _ = _; rw [Hht.out, if_pos he]
            clear he
            go_wp2_with (at_builtin; refine wpList_append_Own rfl _ _ 26 rfl W0.heap.size 3 i0 _ 1 8 Tryd.underlying26 hi0 hz0 hz1 hz2 rfl (by decide) rInt_mono v2 (predsOf (bs.take k) 0 t ++ hits (tos.take j) t k) rfl ?_ ⟨wr.heap.size, 0, none⟩ 1 [.int .i64 (k : Int)] (k : Int) rfl rfl ?_ ?_ ?_ Hll.out (by decide) ?_ ?_)
            · exact Hs2.out.own.later rInt_mono (by (repeat (first | exact Below.refl _ _ | refine Below.alloc ?_ (by first | omega | (simp <;> omega)) _ | refine Below.setCell ?_ (by first | omega | (simp <;> omega)) _ | refine below_drewN ?_ _ | refine Below.drew ?_)))
            · exact new_cells _ _ _ rfl
            · intro u hu; simp at hu; subst hu; rfl
            · exact ⟨rfl, by omega, by omega⟩
            · simp; omega
            · intro v3 w3 hown hgrow g2 cap2 hv3
              have hb3 : Below W0.heap.size W0 w3 := by
                refine Below.grown ?_ hgrow (by simp; omega) (fun g hg => (Hs2.out.own.lt g hg).1)
                have h := Hs2.out.old
                (repeat (first | exact Below.refl _ _ | exact (h).mono (by first | omega | (simp <;> omega) | (have hh := (h).size; (try simp at hh); omega) | (have hh := (h).size; (try simp at hh); (try simp); omega)) | refine Below.trans ?_ ((h).mono (by first | omega | (simp <;> omega) | (have hh := (h).size; (try simp at hh); omega) | (have hh := (h).size; (try simp at hh); (try simp); omega))) | refine Below.alloc ?_ (by first | omega | (simp <;> omega) | (have hh := (h).size; (try simp at hh); omega) | (have hh := (h).size; (try simp at hh); (try simp); omega)) _ | refine Below.setCell ?_ (by first | omega | (simp <;> omega) | (have hh := (h).size; (try simp at hh); omega) | (have hh := (h).size; (try simp at hh); (try simp); omega)) _ | refine below_drewN ?_ _ | refine Below.drew ?_))
              have hb4 : Below w.heap.size w w3 := Hb0.out.trans (hb3.mono Hb0.out.size)
              have Hb3 := hid hb3
              have Hb4 := hid hb4
              have Hown := hid hown
              clear hown hgrow hb3 hb4 hv3
              go_wp2_with fail
              go_roundw
              case rel => exact ⟨j + 1, v3, rfl, by omega, by go_num, ⟨by rw [Hhe.out]; have h := Hown.out; first | exact h | (rw [← List.append_assoc]; exact h), Hb3.out⟩, Hb4.out⟩
              case measure => simp [intOf]; omega
          · have Hhe : Hid (hits (tos.take (j + 1)) t k = hits (tos.take j) t k) := by show _ = _; rw [Hht.out, if_neg he, List.append_nil]
            go_wp2_with fail
            go_roundw
            case rel => exact ⟨j + 1, v2, rfl, by omega, by go_num, by rw [Hhe.out]; exact Hs2.out, Hw2.out⟩
            case measure => simp [intOf]; omega
        · obtain rfl : j = tos.length := by omega
          go_wp2_with fail
          go_roundw
          case rel => exact ⟨k + 1, v2, rfl, by omega, by go_num, by rw [Hpt.out, Htos.out]; have h := Hs2.out; rw [List.take_length] at h; exact h⟩
          case measure => simp [intOf]; omega
    · obtain rfl : k = bs.length := by omega
      rw [List.take_length] at Hs
      go_wp2_with fail
      go_ret
      exact ⟨_, rfl, by have h := Hs.out.own; rw [Hs0.out] at h; exact h, Hw.out⟩

end Go.Proofs.YtaehkcnankijfaaDoor
