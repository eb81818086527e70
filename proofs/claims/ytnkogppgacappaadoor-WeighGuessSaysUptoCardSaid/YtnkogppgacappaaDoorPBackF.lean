/- graph.places and graph.BackOf. -/
import Derived.Test.YtnkogppgacappaaDoorPLoop1
import Derived.Test.YtnkogppgacappaaDoorPValq
import Derived.Test.YtnkogppgacappaaDoorPTreeW
import Derived.Test.YtnkogppgacappaaDoorPRowSt
import Derived.Test.YtnkogppgacappaaDoorPPair
import Derived.Deep.RegionHeld3
import Derived.BigQuiet
namespace Go.Proofs.YtnkogppgacappaaDoor
open Go.RowKit

def plcRow (l : List Int) (n k : Nat) : List Value := (List.range n).map fun x => Value.int .i64 (plcF l k x)
theorem plcRow_len (l : List Int) (n k : Nat) : (plcRow l n k).length = n := by simp [plcRow]
theorem plcRow_at (l : List Int) (n k : Nat) {x : Nat} (h : x < n) : (plcRow l n k)[x]? = some (.int .i64 (plcF l k x)) := by
  unfold plcRow; rw [List.getElem?_map, List.getElem?_range h]; rfl
theorem plcRow_zero (l : List Int) (n : Nat) : plcRow l n 0 = List.replicate n (.int .i64 (-1)) := by
  unfold plcRow
  rw [show (fun x => Value.int .i64 (plcF l 0 x)) = fun _ => Value.int .i64 (-1) from rfl, List.map_const']
  simp
theorem plcRow_succ (l : List Int) (n k q : Nat) (hk : k < l.length) (hq : l[k] = (q : Int)) : (plcRow l n k).set q (.int .i64 (k : Int)) = plcRow l n (k + 1) := by
  apply List.ext_getElem?
  intro i
  rw [List.getElem?_set, plcRow_len]
  have hg : l.getD k 0 = (q : Int) := by rw [List.getD_eq_getElem?_getD, List.getElem?_eq_getElem hk, ← hq]; rfl
  by_cases hi : i < n
  · rw [plcRow_at l n _ hi, plcRow_at l n _ hi, plcF, hg]
    by_cases e : q = i
    · subst e; rw [if_pos rfl, if_pos hi, if_pos rfl]
    · rw [if_neg e, if_neg (by omega)]
  · rw [List.getElem?_eq_none (l := plcRow l n (k + 1)) (by rw [plcRow_len]; omega), List.getElem?_eq_none (l := plcRow l n k) (by rw [plcRow_len]; omega)]
    split
    · rw [if_neg (by omega)]
    · rfl

set_option maxRecDepth 100000 in
set_option maxHeartbeats 1000000 in
theorem places_any {S : Nat → Prop} (n m : Nat) (oa : Option Addr) (oc : Nat) (l : List Int) (w : World) (h : SlAt S w 1 rInt (.slice oa m oc) l) (hS : ∀ b, S b → b < w.heap.size) (hm : l.length = m) (hm2 : m ≤ 1048576) (hn : n ≤ 1048576) (hin : ∀ x ∈ l, 0 ≤ x ∧ x < (n : Int)) :
    Calls Tryd.prog 55 #[.int .i64 (n : Int), .slice oa m oc] w fun e w' =>
      ∃ g, e = .returned (.slice (some ⟨g, 0, none⟩) n n) ∧ w.heap.size ≤ g ∧ w'.heap[g]? = some (.cells (plcRow l n m).toArray 3 (0, 0)) ∧ Below w.heap.size w w' := by
  have H := hid h
  have HS := hid hS
  have Hin := hid hin
  have Hm := hid hm
  clear h hin hm hS
  go_enter Tryd.func55, Tryd.ntmps55
  go_wp2_with fail
  refine (repeatInts_any _ _ (-1) n hn _ (new_cells _ [.int .i64 (-1)] 3 rfl 0 _ rfl)).mono ?_
  rintro e w2 ⟨g, rfl, hg, hrow, hb2⟩
  have hwb : Below w.heap.size w w2 := by (repeat (first | exact Below.refl _ _ | exact (hb2).mono (by first | omega | (simp <;> omega) | (have hh := (hb2).size; (try simp at hh); omega) | (have hh := (hb2).size; (try simp at hh); (try simp); omega)) | refine Below.trans ?_ ((hb2).mono (by first | omega | (simp <;> omega) | (have hh := (hb2).size; (try simp at hh); omega) | (have hh := (hb2).size; (try simp at hh); (try simp); omega))) | refine Below.alloc ?_ (by first | omega | (simp <;> omega) | (have hh := (hb2).size; (try simp at hh); omega) | (have hh := (hb2).size; (try simp at hh); (try simp); omega)) _ | refine Below.setCell ?_ (by first | omega | (simp <;> omega) | (have hh := (hb2).size; (try simp at hh); omega) | (have hh := (hb2).size; (try simp at hh); (try simp); omega)) _ | refine below_drewN ?_ _ | refine Below.drew ?_))
  have hg1 : w.heap.size + 1 ≤ g := by simpa using hg
  have hst : RowSt w2 w2 g 3 (plcRow l n 0) := ⟨Nat.le_refl _, fun _ _ _ => rfl, ⟨rfl, rfl, rfl⟩, by rw [plcRow_zero]; exact hrow⟩
  have Hst := hid hst
  have Hwb := hid hwb
  clear hb2 hrow hst hwb hg
  go_wp2_with fail
  go_loopw [13] (fun i wr => ∃ k : Nat, k ≤ m ∧ i = .int .i64 (k : Int) ∧ RowSt w2 wr g 3 (plcRow l n k)) (fun i _ => m - (intOf i).toNat)
  case atStart => exact ⟨0, Nat.zero_le _, rfl, Hst.out⟩
  case round =>
    obtain ⟨k, hk, rfl, hst⟩ := hrel
    have Hsk := hid hst
    by_cases hkm : k < m
    · have hkl : k < l.length := by rw [Hm.out]; exact hkm
      obtain ⟨b, hb⟩ : ∃ b, b = l[k] := ⟨_, rfl⟩
      have hbi := Hin.out l[k] (List.getElem_mem hkl)
      rw [← hb] at hbi
      obtain ⟨ob, ooff, rfl, c0⟩ := int_at (hst.sl rInt_mono (fun b hb => by have := HS.out b hb; omega) (H.out.later rInt_mono Hwb.out)) hkl
      rw [← hb] at c0
      obtain ⟨q, rfl⟩ := Int.eq_ofNat_of_zero_le hbi.1
      have hqn : q < n := by omega
      have c1 := hst.at (plcRow_at l n k hqn)
      have f1 := hst.fz q
      have hset := hst.set q (.int .i64 (k : Int))
      rw [plcRow_succ l n k q hkl hb.symm] at hset
      have Hset := hid hset
      have z0 : ob < wr.heap.size := cell_lt c0
      have z1 : g < wr.heap.size := cell_lt c1
      clear hst hb hbi hset
      go_wp2_with fail
      go_roundw
      case rel => exact ⟨k + 1, by omega, by go_num, Hset.out⟩
      case measure => simp [intOf]; omega
    · obtain rfl : k = m := by omega
      have z := Hwb.out.size
      go_wp2_with fail
      go_ret
      exact ⟨g, rfl, by omega, Hsk.out.row, Hsk.out.below Hwb.out (by omega)⟩

/-- append of one struct onto a row of the call's own, for the walk; where the row lies behind it. -/
theorem wpList_append_OwnAt {α : Type} {P : Program} {w : World} {ops : Array Oper} {rest : List Oper} {o : Oper} {a : Act} {Q : Exit → Act → World → Prop} (hgd : o.guard = none) (s x : Operand) (t : TypeId)
    (ho : o.op = .call { callee := .builtin .append, args := #[s, x], argTypes := #[t, t] })
    (base : Nat) (e : TypeId) (i : TypeInfo) (z : Value) (size bytes : Nat) (ht : P.underlying t = some (.slice e)) (hi : P.info? e = some i) (hz : i.zero = some z)
    (hsize : i.size = size) (hby : i.bytes = bytes) (hzs : z.cells.size = size) (hsz : 0 < size)
    {r : Rp α} (hr : r.Mono) (v : Value) (l : List α) (hs : a.eval s = v) (hown : Own base w e size r v l)
    (ad : Addr) (c : Nat) (cs : List Value) (y : α) (hx : a.eval x = .slice (some ad) 1 c) (hl : cs.length = size) (hnews : ∀ (j : Nat) u, cs[j]? = some u → w.cell? (ad.add j) = some u) (h1 : ∀ u ∈ cs, u.oneCell' = true) (hy : r (ownS base w v) w cs y)
    (hn : l.length + 1 ≤ 4194304) (hbytes : bytes ≤ 4096) (hbase : base ≤ w.heap.size)
    (h : ∀ v' w', Own base w' e size r v' (l ++ [y]) → w.grownBy w' v.ownBlock → (v'.ownBlock = v.ownBlock ∨ v'.ownBlock = some w.heap.size) → wpList P ops Q rest (a.put o.dst v') w') :
    wpList P ops Q (o :: rest) a w := by
  have hown0 := hown
  obtain ⟨xss, p1, p2, p3, p4⟩ := hown
  have hb : (l.length + 1) * bytes ≤ 140737488355328 := by
    have := Nat.mul_le_mul hn hbytes
    omega
  refine wpList_append_own_at w hgd s x t ho base e i z size bytes ht hi hz hsize hby hzs hsz v l.length xss.flatten hs p1 ad 1 c cs hx (by rw [hl]; omega) hnews h1 (by unfold maxLen; omega) hb hbase ?_
  intro v' w' hown' hgrow hnil hat
  exact h v' w' (hown0.snoc hr p1 p2 p3 p4 hl hy hown' hgrow hat) hgrow hat

set_option maxRecDepth 100000 in
set_option maxHeartbeats 4000000 in
theorem backOf_any {S : Nat → Prop} (nm : ByteArray) (p r : Int) (ba : Option Addr) (n bc : Nat) (bs : List DBlock) (w : World) (hb : SlAt S w 6 rBlock (.slice ba n bc) bs) (hS : ∀ b, S b → b < w.heap.size) (hbn : bs.length = n) (hn : n ≤ 1048576) (hto : ToOk bs) :
    Calls Tryd.prog 30 #[.agg #[.string nm, .int .i64 p, .int .i64 r, .slice ba n bc]] w fun e w' =>
      ∃ v, e = .returned v ∧ SlAt (fun b => w.heap.size ≤ b ∧ b < w'.heap.size) w' 2 rPair v (backF bs) ∧ Below w.heap.size w w' := by
  have Hb := hid hb
  have Hbn := hid hbn
  have Hto := hid hto
  have HS := hid hS
  obtain ⟨ip, hip, hpz0, hpz1, hpz2⟩ := info_parts infoPair
  obtain ⟨L, hL⟩ : ∃ L, L = (ordL bs).length := ⟨_, rfl⟩
  have hLn : L ≤ n := by rw [hL, ordL_len, ← hbn]; exact ordN_le hto
  have hoin : ∀ x ∈ ordL bs, 0 ≤ x ∧ x < (n : Int) := fun x hx => by rw [← hbn]; exact (post_facts hto).1 x (List.mem_reverse.1 hx)
  have Hoin := hid hoin
  have HL := hid hL
  have hlen2 := backTo_len hto
  have Hlen2 := hid hlen2
  clear hb hbn hto hS hL hoin hlen2
  go_enter Tryd.func30, Tryd.ntmps30
  obtain ⟨W, hW⟩ : ∃ W, W = w.alloc (.cells #[.string nm, .int .i64 p, .int .i64 r, .slice ba n bc] 35) := ⟨_, rfl⟩
  have hbW : Below w.heap.size w W := by rw [hW]; (repeat (first | exact Below.refl _ _ | refine Below.alloc ?_ (by first | omega | (simp <;> omega)) _ | refine Below.setCell ?_ (by first | omega | (simp <;> omega)) _ | refine below_drewN ?_ _ | refine Below.drew ?_))
  have v0 : W.cell? ⟨w.heap.size, 0, none⟩ = some (.string nm) := by rw [hW]; simp
  have v1 : W.cell? ⟨w.heap.size, 1, none⟩ = some (.int .i64 p) := by rw [hW]; simp
  have v2 : W.cell? ⟨w.heap.size, 2, none⟩ = some (.int .i64 r) := by rw [hW]; simp
  have v3 : W.cell? ⟨w.heap.size, 3, none⟩ = some (.slice ba n bc) := by rw [hW]; simp
  have hWs : W.heap.size = w.heap.size + 1 := by rw [hW]; simp
  go_upto_region 1 with (fail)
  rw [← hW]
  have Hcl : Hid (∀ w', Below W.heap.size W w' → w'.cell? ⟨w.heap.size, 0, none⟩ = some (.string nm) ∧ w'.cell? ⟨w.heap.size, 1, none⟩ = some (.int .i64 p) ∧ w'.cell? ⟨w.heap.size, 2, none⟩ = some (.int .i64 r) ∧ w'.cell? ⟨w.heap.size, 3, none⟩ = some (.slice ba n bc)) :=
    fun w' h => ⟨cell_later' v0 h, cell_later' v1 h, cell_later' v2 h, cell_later' v3 h⟩
  have HbW := hid hbW
  have zW : w.heap.size < W.heap.size := by omega
  clear hW hbW
  go_region_held3 (fun w' => w'.cell? ⟨w.heap.size, 0, none⟩ = some (.string nm) ∧ w'.cell? ⟨w.heap.size, 1, none⟩ = some (.int .i64 p) ∧ w'.cell? ⟨w.heap.size, 2, none⟩ = some (.int .i64 r) ∧ w'.cell? ⟨w.heap.size, 3, none⟩ = some (.slice ba n bc))
    (exact Hcl.out _ (by first | exact (Below.refl _ _).drew | exact hF8 | exact hF9))
    ((first
      | (go_at_call 52; refine (orderOf_any (S := S) nm p r ba n bc bs _ (Hb.out.later rBlock_mono (HbW.out.trans ((Below.refl W.heap.size W).drew.mono (by omega)))) (fun b hb => by have := HS.out b hb; simp; omega) Hbn.out hn Hto.out).mono ?_; rintro e w8 ⟨v, rfl, hv, hb8⟩
         obtain ⟨oa, oc, hov⟩ := hv.shape
         subst hov
         have hF8 : Below W.heap.size W w8 := (Below.refl W.heap.size W).drew.trans hb8
         rw [← HL.out] at hv ⊢
         have Hv := hid hv)
      | (go_at_call 55; refine (places_any (S := iv W.heap.size w8.heap.size) n L oa oc (ordL bs) _ (by have h := Hv.out.sl; simpa using h) (fun b hb => hb.2) HL.out.symm (by omega) hn Hoin.out).mono ?_; rintro e w9 ⟨g, rfl, hg, hrow, hb9⟩
         have hF9 : Below W.heap.size W w9 := hF8.trans (hb9.mono hF8.size))))
  have Hw9 : Hid (Below w.heap.size w w9) := HbW.out.trans (hF9.mono (by omega))
  have Hrow := hid hrow
  have HF9 := hid hF9
  obtain ⟨f0, f1, f2, f3⟩ := Hcl.out _ hF9
  have zf : w.heap.size < w9.heap.size := cell_lt f0
  clear hv hF8 Hv hg hrow hb9 hF9 v0 v1 v2 v3
  go_wp2_with fail
  clear f0 f1 f2 f3
  go_loopw [4, 19] (fun s4 s19 wr => ∃ (k : Nat) (v : Value), v = s4 ∧ k ≤ n ∧ s19 = .int .i64 (k : Int) ∧ Build w9 wr 77 2 rPair v (backTo bs k)) (fun _ s19 _ => n - (intOf s19).toNat)
  case atStart => exact ⟨0, _, rfl, Nat.zero_le _, rfl, Build.start w9 77 2 rPair⟩
  case round =>
    obtain ⟨k, v, rfl, hk, rfl, hbd⟩ := hrel
    have Hbd := hid hbd
    have hbw : Below w.heap.size w wr := Hw9.out.trans (hbd.old.mono Hw9.out.size)
    have Hbw := hid hbw
    by_cases hkn : k < n
    · have hkl : k < bs.length := by rw [Hbn.out]; exact hkn
      obtain ⟨b, off, cs, rfl, hSb, hx, -, hcs⟩ := Hb.out.get hkl
      obtain ⟨pa, pc, la, lc, ta, tc, rfl, -, -, hts, hpm, hlm2, htm, -, -⟩ := hx.opens
      obtain ⟨d0, d1, d2, d3, d4, d5⟩ := (hcs.later hbw).get6
      obtain ⟨x, hxe⟩ : ∃ x, x = bs[k] := ⟨_, rfl⟩
      rw [← hxe] at d0 d1 d2 d3 d4 d5 hts hpm hlm2 htm
      have htk := Hto.out.tgt k x (by rw [hxe]; exact List.getElem?_eq_getElem hkl)
      have Htos : Hid (tosOf bs k = x.fin.to) := by show _ = _; rw [tosOf_at hkl, ← hxe]
      obtain ⟨tn, htn⟩ : ∃ tn, tn = x.fin.to.length := ⟨_, rfl⟩
      obtain ⟨pn, hpn⟩ : ∃ pn, pn = x.phis.length := ⟨_, rfl⟩
      obtain ⟨ln, hln⟩ : ∃ ln, ln = x.list.length := ⟨_, rfl⟩
      obtain ⟨ek, hek⟩ : ∃ ek, ek = x.fin.kind := ⟨_, rfl⟩
      obtain ⟨er, her⟩ : ∃ er, er = x.fin.on.reg := ⟨_, rfl⟩
      obtain ⟨en, hen⟩ : ∃ en, en = x.fin.on.n := ⟨_, rfl⟩
      rw [← hpn] at d0
      rw [← hln] at d1
      rw [← hek] at d2
      rw [← her] at d3
      rw [← hen] at d4
      have htn2 : tn ≤ 2 := by rw [htn]; exact htk.1
      have Hts := hid hts
      have Htin : Hid (∀ t ∈ sortI x.fin.to, 0 ≤ t ∧ t < (n : Int)) := fun t ht => by rw [← Hbn.out]; exact htk.2 t (sortI_mem.1 ht)
      rw [← htn] at d5 Hts
      have Htn := hid htn
      have zb : b < wr.heap.size := cell_lt d0
      have c3 := (Hcl.out wr (HF9.out.trans (hbd.old.mono HF9.out.size)))
      obtain ⟨c0, c1, c2, c3⟩ := c3
      have zc : w.heap.size < wr.heap.size := cell_lt c0
      clear hbd hcs hx hts hpm hlm2 htm htk htn hpn hln hek her hen hxe hbw
      obtain ⟨wo, hwo⟩ : ∃ wo : World, wo = wr := ⟨_, rfl⟩
      subst hwo
      go_wp2_with (first
        | (go_at_call 57; refine ((callsIn_wide (n := 6)).1 (values_in Fence.wide 6 trivial rfl ta tn tc _)).mono ?_; rintro e w' ⟨rfl, rfl⟩)
        | (go_at_call 56; go_must (refine (sorted_any _ ta tc x.fin.to _ (by have := Htn.out; omega) ?_ ?_).mono ?_)))
      · rw [← Htn.out]
        refine (Hts.out.mono rInt_mono (fun b hb => ?_) (Stays.refl _ _)).later rInt_mono ?_
        · have := HS.out b hb; have := Hbw.out.size; simp; omega
        · have h := Hbw.out; (repeat (first | exact Below.refl _ _ | exact (h).mono (by first | omega | (simp <;> omega) | (have hh := (h).size; (try simp at hh); omega) | (have hh := (h).size; (try simp at hh); (try simp); omega)) | refine Below.trans ?_ ((h).mono (by first | omega | (simp <;> omega) | (have hh := (h).size; (try simp at hh); omega) | (have hh := (h).size; (try simp at hh); (try simp); omega))) | refine Below.alloc ?_ (by first | omega | (simp <;> omega) | (have hh := (h).size; (try simp at hh); omega) | (have hh := (h).size; (try simp at hh); (try simp); omega)) _ | refine Below.setCell ?_ (by first | omega | (simp <;> omega) | (have hh := (h).size; (try simp at hh); omega) | (have hh := (h).size; (try simp at hh); (try simp); omega)) _ | refine below_drewN ?_ _ | refine Below.drew ?_))
      · rw [← Htn.out]; simp
      obtain ⟨W2, hW2⟩ : ∃ W2, W2 = (wo.alloc (.cells #[.slice pa pn pc, .slice la ln lc, .int .i64 ek, .bool er, .int .i64 en, .slice ta tn tc] 52)).alloc (.cells #[.slice ta tn tc] 26) := ⟨_, rfl⟩
      have hb2 : Below wo.heap.size wo W2 := by rw [hW2]; (repeat (first | exact Below.refl _ _ | refine Below.alloc ?_ (by first | omega | (simp <;> omega)) _ | refine Below.setCell ?_ (by first | omega | (simp <;> omega)) _ | refine below_drewN ?_ _ | refine Below.drew ?_))
      rw [← hW2]
      rintro e w6 ⟨v6, rfl, ho6, hb6⟩
      obtain ⟨sa, sc, rfl⟩ := ho6.shape
      obtain ⟨SL, hSL⟩ : ∃ SL, SL = sortI x.fin.to := ⟨_, rfl⟩
      rw [← hSL] at ho6 Htin ⊢
      have hsn2 : SL.length ≤ 2 := by rw [hSL, sortI_len, ← Htn.out]; exact htn2
      have Hsuc : Hid (backTo bs (k + 1) = backTo bs k ++ backB (plcB bs) k SL) := by show _ = _; rw [backTo_succ, Htos.out, ← hSL]
      obtain ⟨sn, hsn⟩ : ∃ sn, sn = SL.length := ⟨_, rfl⟩
      rw [← hsn] at hsn2 ho6 ⊢
      have Hsn := hid hsn
      have Hsl := hid ho6.sl
      have Hb6 : Hid (Below wo.heap.size wo w6) := hb2.trans (hb6.mono hb2.size)
      have hz2 := hb2.size
      have hrow6 := Hb6.out.block g (by have := (Array.getElem?_eq_some_iff.1 Hrow.out).1; have := Hbd.out.old.size; omega)
      have Hz6 := hid Hb6.out.size
      have Hz2 := hid hz2
      clear hW2 hb2 hb6 ho6 hSL hsn hz2 hrow6 c0 c1 c2 c3 d0 d1 d2 d3 d4 d5
      go_wp2_with fail
      go_loopw [4, 31] (fun s4 s31 wi => ∃ (j : Nat) (v2 : Value), v2 = s4 ∧ j ≤ sn ∧ s31 = .int .i64 (j : Int) ∧ Build w9 wi 77 2 rPair v2 (backTo bs k ++ backB (plcB bs) k (SL.take j)) ∧
          (∀ q, v2.ownBlock = some q → q < wo.heap.size ∨ w6.heap.size ≤ q) ∧ w6.heap.size ≤ wi.heap.size ∧ (∀ q, wo.heap.size ≤ q → q < w6.heap.size → wi.heap[q]? = w6.heap[q]?)) (fun _ s31 _ => sn - (intOf s31).toNat)
      case atStart =>
        refine ⟨0, _, rfl, Nat.zero_le _, rfl, ⟨?_, ?_⟩, fun q hq => .inl (Hbd.out.own.lt q hq).2, Nat.le_refl _, fun _ _ _ => rfl⟩
        · have h := Hbd.out.own.later rPair_mono Hb6.out
          have e : backB (plcB bs) k (SL.take 0) = [] := by simp [backB]
          rw [e, List.append_nil]; exact h
        · exact Hbd.out.old.trans (Hb6.out.mono Hbd.out.old.size)
      case round =>
        obtain ⟨wi, hwi⟩ : ∃ wi : World, wi = wr := ⟨_, rfl⟩
        subst hwi
        obtain ⟨j, v2, rfl, hj, rfl, hbd2, hap, hz, hkp⟩ := hrel
        have Hbd2 := hid hbd2
        have Hap := hid hap
        have Hkp := hid hkp
        by_cases hjs : j < sn
        · have hjl : j < SL.length := by rw [← Hsn.out]; exact hjs
          have hti := Htin.out SL[j] (List.getElem_mem hjl)
          obtain ⟨t, ht⟩ := Int.eq_ofNat_of_zero_le hti.1
          have htn : t < n := by omega
          obtain ⟨lb, loff, hla, l0⟩ := int_at Hsl.out hjl
          subst hla
          rw [ht] at l0
          have hlb : wo.heap.size ≤ lb ∧ lb < w6.heap.size := by
            refine ⟨?_, cell_lt l0⟩
            obtain ⟨_, _, _, e, h5, -⟩ := Hsl.out.get hjl
            cases e
            have := h5.1
            have := Hz2.out
            omega
          have e0 : wi.cell? ⟨lb, loff + j, none⟩ = some (.int .i64 (t : Int)) := by
            rw [World.cell?_of_block (w := w6) (a := ⟨lb, loff + j, none⟩) (hkp lb hlb.1 hlb.2)]; exact l0
          have hrw : wi.heap[g]? = some (.cells (plcRow (ordL bs) n L).toArray 3 (0, 0)) := (hbd2.old.block g (Array.getElem?_eq_some_iff.1 Hrow.out).1).trans Hrow.out
          have p0 : wi.cell? ⟨g, k, none⟩ = some (.int .i64 (plcB bs k)) := by
            rw [cell_row hrw, List.getElem?_toArray, plcRow_at _ _ _ hkn, HL.out]; rfl
          have p1 : wi.cell? ⟨g, t, none⟩ = some (.int .i64 (plcB bs t)) := by
            rw [cell_row hrw, List.getElem?_toArray, plcRow_at _ _ _ htn, HL.out]; rfl
          have hstep := backB_take (plcB bs) k SL j hjl
          rw [ht, Int.toNat_natCast] at hstep
          have hlenk : (backTo bs k ++ backB (plcB bs) k (SL.take j)).length ≤ 2 * k + 2 := by
            have h1 := Hlen2.out k
            have h2 := backB_len (plcB bs) k (SL.take j)
            rw [List.length_append]
            rw [List.length_take] at h2
            have := Hsn.out
            omega
          obtain ⟨x, hx⟩ : ∃ x, x = plcB bs k := ⟨_, rfl⟩
          obtain ⟨y, hy⟩ : ∃ y, y = plcB bs t := ⟨_, rfl⟩
          rw [← hx] at p0 hstep
          rw [← hy] at p1 hstep
          have zg : g < wi.heap.size := cell_lt p0
          have zl : lb < wi.heap.size := cell_lt e0
          have Hlk := hid hlenk
          have Hstep := hid hstep
          have hz9 := hbd2.old.size
          clear hbd2 hap hkp hx hy hti ht l0 hrw hstep hlenk hlb
          by_cases hc : 0 ≤ x ∧ y ≤ x
          · have q1 : decide (0 ≤ x) = true := decide_eq_true hc.1
            have q2 : decide (y ≤ x) = true := decide_eq_true hc.2
            have Hs2 : Hid (backB (plcB bs) k (SL.take (j + 1)) = backB (plcB bs) k (SL.take j) ++ [((k : Int), (t : Int))]) := by show _ = _; rw [Hstep.out, if_pos hc]
            clear hc Hstep
            go_wp2_with fail
            go_quiet (fail)
            go_wp2_with (at_builtin; refine wpList_append_OwnAt rfl _ _ 75 rfl w9.heap.size 77 ip _ 2 16 Tryd.underlying75 hip hpz0 hpz1 hpz2 rfl (by decide) rPair_mono v2 (backTo bs k ++ backB (plcB bs) k (SL.take j)) rfl ?_ ⟨wi.heap.size, 0, none⟩ 1 [.int .i64 (k : Int), .int .i64 (t : Int)] ((k : Int), (t : Int)) rfl rfl ?_ ?_ ?_ ?_ (by decide) ?_ ?_)
            · exact Hbd2.out.own.later rPair_mono (by (repeat (first | exact Below.refl _ _ | refine Below.alloc ?_ (by first | omega | (simp <;> omega)) _ | refine Below.setCell ?_ (by first | omega | (simp <;> omega)) _ | refine below_drewN ?_ _ | refine Below.drew ?_)))
            · exact new_cells _ _ _ (by simp)
            · intro u hu; simp at hu; rcases hu with rfl | rfl <;> rfl
            · rfl
            · have := Hlk.out; omega
            · simp; omega
            · intro v3 w7 hown hgrow hat
              have hb7 : Below w9.heap.size w9 w7 := by
                refine Below.grown ?_ hgrow (by simp; omega) (fun q hq => (Hbd2.out.own.lt q hq).1)
                have h := Hbd2.out.old
                (repeat (first | exact Below.refl _ _ | exact (h).mono (by first | omega | (simp <;> omega) | (have hh := (h).size; (try simp at hh); omega) | (have hh := (h).size; (try simp at hh); (try simp); omega)) | refine Below.trans ?_ ((h).mono (by first | omega | (simp <;> omega) | (have hh := (h).size; (try simp at hh); omega) | (have hh := (h).size; (try simp at hh); (try simp); omega))) | refine Below.alloc ?_ (by first | omega | (simp <;> omega) | (have hh := (h).size; (try simp at hh); omega) | (have hh := (h).size; (try simp at hh); (try simp); omega)) _ | refine Below.setCell ?_ (by first | omega | (simp <;> omega) | (have hh := (h).size; (try simp at hh); omega) | (have hh := (h).size; (try simp at hh); (try simp); omega)) _ | refine below_drewN ?_ _ | refine Below.drew ?_))
              first | rw [List.append_assoc, ← Hs2.out] at hown | rw [← Hs2.out] at hown
              have hsz := hgrow.size
              have hz7 : wi.heap.size + 1 ≤ w7.heap.size := by simpa using hsz
              have Hbd7 : Hid (Build w9 w7 77 2 rPair v3 (backTo bs k ++ backB (plcB bs) k (SL.take (j + 1)))) := ⟨hown, hb7⟩
              have Hap7 : Hid (∀ q, v3.ownBlock = some q → q < wo.heap.size ∨ w6.heap.size ≤ q) := fun q hq => by
                rcases hat with h | h
                · exact Hap.out q (h.symm.trans hq)
                · rw [h] at hq
                  cases hq
                  right
                  first | omega | (simp; omega)
              have Hkp7 : Hid (∀ q, wo.heap.size ≤ q → q < w6.heap.size → w7.heap[q]? = w6.heap[q]?) := fun q h1 h2 => by
                rw [hgrow.block q (by simp; omega) (fun e => by rcases Hap.out q e.symm with h | h <;> omega), Below.heap_alloc _ _ _ (by simp; omega)]
                simpa using Hkp.out q h1 h2
              clear hown hgrow hb7 hat
              go_wp2_with fail
              go_roundw
              case rel => exact ⟨j + 1, v3, rfl, by omega, by go_num, Hbd7.out, Hap7.out, by omega, Hkp7.out⟩
              case measure => simp [intOf]; omega
          · have Hs2 : Hid (backB (plcB bs) k (SL.take (j + 1)) = backB (plcB bs) k (SL.take j)) := by show _ = _; rw [Hstep.out, if_neg hc]
            by_cases hc1 : 0 ≤ x
            · have q1 : decide (0 ≤ x) = true := decide_eq_true hc1
              have q2 : decide (y ≤ x) = false := decide_eq_false (fun h => hc ⟨hc1, h⟩)
              clear hc Hstep hc1
              go_wp2_with fail
              go_quiet (fail)
              go_wp2_with fail
              go_roundw
              case rel => exact ⟨j + 1, v2, rfl, by omega, by go_num, by rw [Hs2.out]; exact ⟨Hbd2.out.own.drewN rPair_mono nq, by have h := Hbd2.out.old; (repeat (first | exact Below.refl _ _ | exact (h).mono (by first | omega | (simp <;> omega) | (have hh := (h).size; (try simp at hh); omega) | (have hh := (h).size; (try simp at hh); (try simp); omega)) | refine Below.trans ?_ ((h).mono (by first | omega | (simp <;> omega) | (have hh := (h).size; (try simp at hh); omega) | (have hh := (h).size; (try simp at hh); (try simp); omega))) | refine Below.alloc ?_ (by first | omega | (simp <;> omega) | (have hh := (h).size; (try simp at hh); omega) | (have hh := (h).size; (try simp at hh); (try simp); omega)) _ | refine Below.setCell ?_ (by first | omega | (simp <;> omega) | (have hh := (h).size; (try simp at hh); omega) | (have hh := (h).size; (try simp at hh); (try simp); omega)) _ | refine below_drewN ?_ _ | refine Below.drew ?_))⟩, Hap.out, by simpa using hz, fun q h1 h2 => by simpa using Hkp.out q h1 h2⟩
              case measure => simp [intOf]; omega
            · have q1 : decide (0 ≤ x) = false := decide_eq_false hc1
              clear hc Hstep hc1
              go_wp2_with fail
              go_quiet (fail)
              go_wp2_with fail
              go_roundw
              case rel => exact ⟨j + 1, v2, rfl, by omega, by go_num, by rw [Hs2.out]; exact ⟨Hbd2.out.own.drewN rPair_mono nq, by have h := Hbd2.out.old; (repeat (first | exact Below.refl _ _ | exact (h).mono (by first | omega | (simp <;> omega) | (have hh := (h).size; (try simp at hh); omega) | (have hh := (h).size; (try simp at hh); (try simp); omega)) | refine Below.trans ?_ ((h).mono (by first | omega | (simp <;> omega) | (have hh := (h).size; (try simp at hh); omega) | (have hh := (h).size; (try simp at hh); (try simp); omega))) | refine Below.alloc ?_ (by first | omega | (simp <;> omega) | (have hh := (h).size; (try simp at hh); omega) | (have hh := (h).size; (try simp at hh); (try simp); omega)) _ | refine Below.setCell ?_ (by first | omega | (simp <;> omega) | (have hh := (h).size; (try simp at hh); omega) | (have hh := (h).size; (try simp at hh); (try simp); omega)) _ | refine below_drewN ?_ _ | refine Below.drew ?_))⟩, Hap.out, by simpa using hz, fun q h1 h2 => by simpa using Hkp.out q h1 h2⟩
              case measure => simp [intOf]; omega
        · have hjn : j = sn := by omega
          have Hbd3 : Hid (Build w9 wi 77 2 rPair v2 (backTo bs (k + 1))) := by
            show Build _ _ _ _ _ _ _
            rw [Hsuc.out]
            rw [hjn, Hsn.out, List.take_length] at hbd2
            exact hbd2
          clear hbd2 hap hkp hjn
          go_wp2_with fail
          go_roundw
          case rel => exact ⟨k + 1, v2, rfl, by omega, by go_num, Hbd3.out⟩
          case measure => simp [intOf]; omega
    · have hkn' : k = n := by omega
      have hsl := hbd.own.toSl rPair_mono (by decide)
      rw [hkn', ← Hbn.out] at hsl
      have Hsl := hid hsl
      have z9 := Hw9.out.size
      clear hbd hsl hkn'
      go_wp2_with fail
      go_ret
      exact ⟨_, rfl, Hsl.out.mono rPair_mono (fun b hb => ⟨by have := hb.1; omega, hb.2⟩) (Stays.refl _ _), Hbw.out⟩

end Go.Proofs.YtnkogppgacappaaDoor
