/- ssa.checker.uses: is what is taken known? -/
import Derived.Test.YtaehkcnankijfaaDoorPVals
import Derived.Test.YtaehkcnankijfaaDoorPRangeB
import Derived.Test.YtaehkcnankijfaaDoorPWrites
import Derived.Test.YtaehkcnankijfaaDoorPGAhd
import Derived.Test.YtaehkcnankijfaaDoorPKnown
import Derived.Test.YtaehkcnankijfaaDoorPRound
import Derived.Test.YtaehkcnankijfaaDoorPStill
namespace Go.Proofs.YtaehkcnankijfaaDoor
open Go.RowKit Go.Shelf Go.Sort

attribute [local go_sem] Oper.semAt_some

/-- One walk of the text's order serves every order, the callees making memory. -/
theorem wpIn_region_quiet_open {F : Fence} {n : Nat} {P : Program} {id : Nat} {Q : Exit → Act → World → Prop} {a : Act} {w : World} {l : List Oper} (hro : F.round = none) (hm : P.follows .mixedOrders = true) (hB : Region.lexB .any l.toArray = true)
    (h : wpQuietIn F n P l.toArray (fun w' => ∃ p : Regrown, w' = grow (redrawn w p.d) p.os) (fun a' => ∀ w', (∃ p : Regrown, w' = grow (redrawn w p.d) p.os) → Q .normal a' w') l a) : (Code.region id l.toArray true).wpIn F n P Q a w :=
  wpIn_region_quiet (C := fun w' => ∃ p : Regrown, w' = grow (redrawn w p.d) p.os) hro hm hB ⟨⟨w.drawn + 1, #[]⟩, by rw [grow_empty]; rfl⟩ (by simpa using h)

/-- The checker in memory: the function; the tree; the table of places. -/
structure KnSt (CB RB cap : Nat) (nm : ByteArray) (ba ua : Option Addr) (bc uc : Nat) (f : DFunc) (t : List (Int × Int)) (W : World) : Prop where
  box : CellsAt W CB 0 [.string nm, .int .i64 f.params, .int .i64 f.regs, .slice ba f.blocks.length bc, .slice ua f.blocks.length uc, .slice (some ⟨RB, 0, none⟩) f.regs.toNat cap]
  row : W.heap[RB]? = some (.cells (rowP t) 157 (0, 0))
  up : SlAt (fun _ => True) W 1 rInt (.slice ua f.blocks.length uc) (treeF f.blocks)
  bs : SlAt (fun _ => True) W 6 rBlock (.slice ba f.blocks.length bc) f.blocks
  len : t.length = f.regs.toNat
theorem KnSt.later {CB RB cap : Nat} {nm : ByteArray} {ba ua : Option Addr} {bc uc : Nat} {f : DFunc} {t : List (Int × Int)} {W W' : World} (h : KnSt CB RB cap nm ba ua bc uc f t W) (hb : Below W.heap.size W W') : KnSt CB RB cap nm ba ua bc uc f t W' :=
  ⟨h.box.later hb, by rw [hb.block RB (Array.getElem?_eq_some_iff.1 h.row).1]; exact h.row, h.up.later rInt_mono hb, h.bs.later rBlock_mono hb, h.len⟩
/-- Is a value known? -/
theorem known_st {CB RB cap : Nat} {nm : ByteArray} {ba ua : Option Addr} {bc uc : Nat} {f : DFunc} {t : List (Int × Int)} {W : World} (h : KnSt CB RB cap nm ba ua bc uc f t W) (hf : FnOk f) {v : DVal} (hv : VOk f.regs v) {blk : Nat} (hb : blk < f.blocks.length) (a : Int) :
    Calls Tryd.prog 142 #[.pointer (some ⟨CB, 0, none⟩), .agg #[.bool v.reg, .int .i64 v.n], .int .i64 (blk : Int), .int .i64 a] W fun e W' => e = .returned (.bool (knownV f.blocks t v (blk : Int) a)) ∧ Below W.heap.size W W' := by
  have hpr := hf.pr
  obtain ⟨-, -, -, -, c4, c5⟩ := h.box.get6
  unfold knownV
  cases hr : v.reg with
  | true =>
    obtain ⟨h0, h1⟩ := hv hr
    obtain ⟨q, hq⟩ := Int.eq_ofNat_of_zero_le h0
    have hqn : q < t.length := by rw [h.len]; omega
    rw [hq, Int.toNat_natCast, getD_pair hqn]
    have d0 : W.cell? ⟨RB, q * 2, none⟩ = some (.int .i64 t[q].1) := by rw [cell_row h.row]; exact (rowP_at hqn).1
    have d1 : W.cell? ⟨RB, q * 2 + 1, none⟩ = some (.int .i64 t[q].2) := by rw [cell_row h.row]; exact (rowP_at hqn).2
    exact known_reg CB RB _ cap q (blk : Int) a _ _ ua uc f.blocks.length (treeF f.blocks) (psF f.blocks) W c5 c4 h.up (treeF_len _) (by have := hf.len; omega) (treeF_up hf.toOk) (by omega) d0 d1 (by rw [← h.len]; exact hqn) (by omega)
  | false =>
    unfold knownF
    rw [if_pos rfl]
    exact known_num _ _ _ _ _

/-- The function is left; what it returns lies in a cell. -/
theorem uses_leave {b c : Bool} (w w1 V : World) (ds : List Deferred) (tmps : Array Value) (h2 : tmps[2]? = some (.pointer (some ⟨w.heap.size + 1, 0, none⟩))) (hm : Marks w1.heap.size V.heap.size ds V) (hc : V.cell? ⟨w.heap.size + 1, 0, none⟩ = some (.bool c)) (hbc : c = b)
    (hb : RowKit.Below w.heap.size w V) (hz : w.heap.size + 1 < w1.heap.size) (hz2 : w1.heap.size ≤ V.heap.size) :
    bodyPostM Fence.wide 6 Tryd.prog Tryd.f97 (fun e w' => e = .returned (.bool b) ∧ RowKit.Below w.heap.size w w') .ret { tmps := tmps, defers := ds } V := by
  subst hbc
  refine leaves_marks (B := w1.heap.size) (C := V.heap.size) ds _ hz2 hm (fun W' hW => ?_)
  have hrb : W'.cell? ⟨w.heap.size + 1, 0, none⟩ = some (.bool c) := by
    have h := hW.1.block (w.heap.size + 1) hz
    rw [World.cell?_of_block (w := V) (a := ⟨w.heap.size + 1, 0, none⟩) h, hc]
  refine ⟨.bool c, ?_, rfl, hb.trans (hW.1.mono (by omega))⟩
  have hres : Tryd.f97.results = #[.cell 2 4] := rfl
  unfold results
  rw [hres]
  simp [go_sem, h2, hrb]
theorem all_no {n : Nat} {p : Nat → Bool} {i : Nat} (hi : i < n) (h : p i = false) : (List.range n).all p = false := by
  rw [List.all_eq_false]
  exact ⟨i, List.mem_range.2 hi, by simp [h]⟩

set_option maxRecDepth 100000 in
set_option maxHeartbeats 8000000 in
theorem uses_any (CB RB cap : Nat) (nm : ByteArray) (ba ua : Option Addr) (bc uc : Nat) (f : DFunc) (t : List (Int × Int)) (w : World) (hf : FnOk f) (hk : KnSt CB RB cap nm ba ua bc uc f t w) :
    Calls Tryd.prog 97 #[.pointer (some ⟨CB, 0, none⟩)] w fun e w' => e = .returned (.bool (usesF f t)) ∧ Below w.heap.size w w' := by
  have Hf := hid hf
  have Hk := hid hk
  obtain ⟨bs, hbs⟩ : ∃ bs, bs = f.blocks := ⟨_, rfl⟩
  have hbl : bs.length ≤ 40 := by rw [hbs]; exact hf.len.2
  have Hbs := hid hbs
  obtain ⟨c0, c1, c2, c3, c4, c5⟩ := hk.box.get6
  have zC : CB < w.heap.size := cell_lt c0
  rw [← hbs] at c3 c4
  have hag := gahead_any (S := fun _ => True) nm f.params f.regs ba bc bs
  have Hag := hid hag
  clear hf hk hbs hag c4 c5
  refine (callsIn_wide (n := 6)).1 ?_
  refine callsIn_of_wp_marks Tryd.func97 rfl trivial ?_ rfl
  simp only [Tryd.ntmps97, List.size_toArray, List.length_cons, List.length_nil, Nat.reduceAdd, Nat.reduceSub, Array.replicate_succ, Array.replicate_zero, List.push_toArray, List.append_toArray, List.nil_append, List.cons_append]
  gi_wp2_with (first
    | (refine ⟨trivial, ?_⟩; gi_at_call 137; refine (callsIn_wide.2 (Hag.out _ ?_ (by omega) (by rw [Hbs.out]; exact Hf.out.tgt))).mono ?_
       · have h := Hk.out.bs
         rw [← Hbs.out] at h
         exact h.later rBlock_mono (by (repeat (first | exact Below.refl _ _ | refine Below.alloc ?_ (by first | omega | (simp <;> omega)) _ | refine Below.setCell ?_ (by first | omega | (simp <;> omega)) _ | refine below_drewN ?_ _ | refine Below.drew ?_)))
       rintro e w1 ⟨v, rfl, hv, hb1⟩
       obtain ⟨va, vc, hve, -⟩ := hv.val
       subst hve
       have hal : (aheadF bs).length = bs.length := by unfold aheadF; simp
       rw [hal] at hv ⊢
       have Hv := hid (hv.mono rRow_mono (S' := fun _ => True) (fun _ _ => trivial) (Stays.refl _ _))
       have r0 : ((w.alloc (.cells #[.pointer (some ⟨CB, 0, none⟩)] 152)).alloc (.cells #[.bool false] 4)).cell? ⟨w.heap.size, 0, none⟩ = some (.pointer (some ⟨CB, 0, none⟩)) := by simp
       have r1 : ((w.alloc (.cells #[.pointer (some ⟨CB, 0, none⟩)] 152)).alloc (.cells #[.bool false] 4)).cell? ⟨w.heap.size + 1, 0, none⟩ = some (.bool false) := by simp
       have r2 : ((w.alloc (.cells #[.pointer (some ⟨CB, 0, none⟩)] 152)).alloc (.cells #[.bool false] 4)).frozen? ⟨w.heap.size + 1, 0, none⟩ = false := by simp
       have r0 := cell_later' r0 hb1
       have r1' := cell_later' r1 hb1
       have r2 := (hb1.frozen (p := ⟨w.heap.size + 1, 0, none⟩) (cell_lt r1)).trans r2
       have hbw : Below w.heap.size w w1 := by (repeat (first | exact Below.refl _ _ | exact (hb1).mono (by first | omega | (simp <;> omega) | (have hh := (hb1).size; (try simp at hh); omega) | (have hh := (hb1).size; (try simp at hh); (try simp); omega)) | refine Below.trans ?_ ((hb1).mono (by first | omega | (simp <;> omega) | (have hh := (hb1).size; (try simp at hh); omega) | (have hh := (hb1).size; (try simp at hh); (try simp); omega))) | refine Below.alloc ?_ (by first | omega | (simp <;> omega) | (have hh := (hb1).size; (try simp at hh); omega) | (have hh := (hb1).size; (try simp at hh); (try simp); omega)) _ | refine Below.setCell ?_ (by first | omega | (simp <;> omega) | (have hh := (hb1).size; (try simp at hh); omega) | (have hh := (hb1).size; (try simp at hh); (try simp); omega)) _ | refine below_drewN ?_ _ | refine Below.drew ?_))
       have z0 : w.heap.size < w1.heap.size := cell_lt r0
       have z1 : w.heap.size + 1 < w1.heap.size := cell_lt r1'
       have g3 := cell_later' c3 hbw
       have zC1 : CB < w1.heap.size := cell_lt g3
       have Hbw := hid hbw
       have R0 := hid r0
       have R1 := hid r1'
       have R2 := hid r2
       clear hv hb1 r1 r1' r2 hal hbw))
  have Hv2 := hid Hv.out
  clear r0 g3 Hv Hag
  have Hk1 := hid (Hk.out.later Hbw.out)
  obtain ⟨PU, hPU⟩ : ∃ PU : Nat → Bool, PU = fun i => useBlock bs t i (bs.getD i noBlock) := ⟨_, rfl⟩
  have HPU := hid hPU
  have Huse : Hid (usesF f t = (List.range bs.length).all PU) := by show _ = _; unfold usesF; rw [← Hbs.out, hPU]
  clear hPU Hk
  refine wpIn_loop (fun a W => ∃ (i : Nat) (ds : List Deferred) (u4 u5 u7 u8 u9 u10 u11 u12 u13 u26 u27 u28 u29 u30 u31 u32 u33 u34 u35 u36 u37 u38 u39 u40 u41 u42 u43 u44 u45 u46 u47 u48 u49 u50 u51 u52 u53 u54 u55 u56 u57 u58 u59 u60 u61 u62 u63 u64 u65 u66 u67 u68 u69 u70 u71 u72 u73 u74 u75 u76 u77 u78 u79 u80 u81 u82 u83 u84 u85 u86 u87 u88 u89 u90 u91 u92 u93 u94 u95 u96 u97 : Value), a = { tmps := #[(.pointer (some ⟨CB, 0, none⟩)), (.pointer (some ⟨w.heap.size, 0, none⟩)), (.pointer (some ⟨w.heap.size + 1, 0, none⟩)), (.slice va bs.length vc), u4, u5, undef, u7, u8, u9, u10, u11, u12, u13, (.pointer (some ⟨CB, 0, none⟩)), (.pointer (some ⟨CB, 0, none⟩)), (.pointer (some ⟨CB, 0, none⟩)), (.agg #[.string nm, .int .i64 f.params, .int .i64 f.regs, .slice ba bs.length bc]), (.slice va bs.length vc), (.pointer (some ⟨CB, 0, none⟩)), (.pointer (some ⟨CB, 0, none⟩)), (.pointer (some ⟨CB, 0, none⟩)), (.pointer (some ⟨CB, 3, none⟩)), (.slice ba bs.length bc), (.int .i64 (bs.length : Int)), (.int .i64 (i : Int)), u26, u27, u28, u29, u30, u31, u32, u33, u34, u35, u36, u37, u38, u39, u40, u41, u42, u43, u44, u45, u46, u47, u48, u49, u50, u51, u52, u53, u54, u55, u56, u57, u58, u59, u60, u61, u62, u63, u64, u65, u66, u67, u68, u69, u70, u71, u72, u73, u74, u75, u76, u77, u78, u79, u80, u81, u82, u83, u84, u85, u86, u87, u88, u89, u90, u91, u92, u93, u94, u95, u96, u97], defers := ds } ∧ i ≤ bs.length ∧ (∀ j, j < i → PU j = true) ∧ Below w1.heap.size w1 W ∧ Marks w1.heap.size W.heap.size ds W)
    (fun a _ => bs.length - (intOf (a.tmps.getD 25 undef)).toNat) ?h0 ?round
  case h0 => exact ⟨0, [], undef, undef, undef, undef, undef, undef, undef, undef, undef, undef, undef, undef, undef, undef, undef, undef, undef, undef, undef, undef, undef, undef, undef, undef, undef, undef, undef, undef, undef, undef, undef, undef, undef, undef, undef, undef, undef, undef, undef, undef, undef, undef, undef, undef, undef, undef, undef, undef, undef, undef, undef, undef, undef, undef, undef, undef, undef, undef, undef, undef, undef, undef, undef, undef, undef, undef, undef, undef, undef, undef, undef, undef, undef, undef, undef, undef, undef, undef, undef, undef, undef, rfl, Nat.zero_le _, fun j hj => by omega, Below.refl _ _, Marks.nil _ _ _⟩
  case round =>
    intro _ wo hinv
    obtain ⟨i, ds, hinv⟩ := hinv
    obtain ⟨u4, hinv⟩ := hinv
    obtain ⟨u5, hinv⟩ := hinv
    obtain ⟨u7, hinv⟩ := hinv
    obtain ⟨u8, hinv⟩ := hinv
    obtain ⟨u9, hinv⟩ := hinv
    obtain ⟨u10, hinv⟩ := hinv
    obtain ⟨u11, hinv⟩ := hinv
    obtain ⟨u12, hinv⟩ := hinv
    obtain ⟨u13, hinv⟩ := hinv
    obtain ⟨u26, hinv⟩ := hinv
    obtain ⟨u27, hinv⟩ := hinv
    obtain ⟨u28, hinv⟩ := hinv
    obtain ⟨u29, hinv⟩ := hinv
    obtain ⟨u30, hinv⟩ := hinv
    obtain ⟨u31, hinv⟩ := hinv
    obtain ⟨u32, hinv⟩ := hinv
    obtain ⟨u33, hinv⟩ := hinv
    obtain ⟨u34, hinv⟩ := hinv
    obtain ⟨u35, hinv⟩ := hinv
    obtain ⟨u36, hinv⟩ := hinv
    obtain ⟨u37, hinv⟩ := hinv
    obtain ⟨u38, hinv⟩ := hinv
    obtain ⟨u39, hinv⟩ := hinv
    obtain ⟨u40, hinv⟩ := hinv
    obtain ⟨u41, hinv⟩ := hinv
    obtain ⟨u42, hinv⟩ := hinv
    obtain ⟨u43, hinv⟩ := hinv
    obtain ⟨u44, hinv⟩ := hinv
    obtain ⟨u45, hinv⟩ := hinv
    obtain ⟨u46, hinv⟩ := hinv
    obtain ⟨u47, hinv⟩ := hinv
    obtain ⟨u48, hinv⟩ := hinv
    obtain ⟨u49, hinv⟩ := hinv
    obtain ⟨u50, hinv⟩ := hinv
    obtain ⟨u51, hinv⟩ := hinv
    obtain ⟨u52, hinv⟩ := hinv
    obtain ⟨u53, hinv⟩ := hinv
    obtain ⟨u54, hinv⟩ := hinv
    obtain ⟨u55, hinv⟩ := hinv
    obtain ⟨u56, hinv⟩ := hinv
    obtain ⟨u57, hinv⟩ := hinv
    obtain ⟨u58, hinv⟩ := hinv
    obtain ⟨u59, hinv⟩ := hinv
    obtain ⟨u60, hinv⟩ := hinv
    obtain ⟨u61, hinv⟩ := hinv
    obtain ⟨u62, hinv⟩ := hinv
    obtain ⟨u63, hinv⟩ := hinv
    obtain ⟨u64, hinv⟩ := hinv
    obtain ⟨u65, hinv⟩ := hinv
    obtain ⟨u66, hinv⟩ := hinv
    obtain ⟨u67, hinv⟩ := hinv
    obtain ⟨u68, hinv⟩ := hinv
    obtain ⟨u69, hinv⟩ := hinv
    obtain ⟨u70, hinv⟩ := hinv
    obtain ⟨u71, hinv⟩ := hinv
    obtain ⟨u72, hinv⟩ := hinv
    obtain ⟨u73, hinv⟩ := hinv
    obtain ⟨u74, hinv⟩ := hinv
    obtain ⟨u75, hinv⟩ := hinv
    obtain ⟨u76, hinv⟩ := hinv
    obtain ⟨u77, hinv⟩ := hinv
    obtain ⟨u78, hinv⟩ := hinv
    obtain ⟨u79, hinv⟩ := hinv
    obtain ⟨u80, hinv⟩ := hinv
    obtain ⟨u81, hinv⟩ := hinv
    obtain ⟨u82, hinv⟩ := hinv
    obtain ⟨u83, hinv⟩ := hinv
    obtain ⟨u84, hinv⟩ := hinv
    obtain ⟨u85, hinv⟩ := hinv
    obtain ⟨u86, hinv⟩ := hinv
    obtain ⟨u87, hinv⟩ := hinv
    obtain ⟨u88, hinv⟩ := hinv
    obtain ⟨u89, hinv⟩ := hinv
    obtain ⟨u90, hinv⟩ := hinv
    obtain ⟨u91, hinv⟩ := hinv
    obtain ⟨u92, hinv⟩ := hinv
    obtain ⟨u93, hinv⟩ := hinv
    obtain ⟨u94, hinv⟩ := hinv
    obtain ⟨u95, hinv⟩ := hinv
    obtain ⟨u96, hinv⟩ := hinv
    obtain ⟨u97, hinv⟩ := hinv
    obtain ⟨ha, hi, hall, hbr, hmk⟩ := hinv
    subst ha
    have Hall := hid hall
    have Hbr := hid hbr
    have Hmk := hid hmk
    have r0 := cell_later' R0.out hbr
    have r1 := cell_later' R1.out hbr
    have r2 := (hbr.frozen (p := ⟨w.heap.size + 1, 0, none⟩) z1).trans R2.out
    have Hkr := hid (Hk1.out.later hbr)
    obtain ⟨zc0, zc1, zc2, c3, zc4, zc5⟩ := Hkr.out.box.get6
    rw [← Hbs.out] at c3
    have zC2 : CB < wo.heap.size := cell_lt c3
    have z2 : w.heap.size < wo.heap.size := cell_lt r0
    have z3 : w.heap.size + 1 < wo.heap.size := cell_lt r1
    have z4 := hbr.size
    clear hall hbr hmk zc0 zc1 zc2 zc4 zc5
    by_cases hib : i < bs.length
    · have hbs2 := Hkr.out.bs
      rw [← Hbs.out] at hbs2
      obtain ⟨xb, xoff, cs, hxa, -, hx, -, hcs⟩ := hbs2.get hib
      subst hxa
      obtain ⟨pa, pc, la, lc, ta, tc, rfl, hph, hli, -, hpm, hlm, -, -, -⟩ := hx.opens
      obtain ⟨d0, d1, d2, d3, d4, d5⟩ := hcs.get6
      have zx : xb < wo.heap.size := cell_lt d0
      obtain ⟨x, hxe⟩ : ∃ x, x = bs[i] := ⟨_, rfl⟩
      rw [← hxe] at hph hli hpm hlm d0 d1 d2 d3 d4 d5
      have hxi : f.blocks[i]? = some x := by rw [← Hbs.out, hxe, List.getElem?_eq_getElem hib]
      have Hxi := hid hxi
      have HPi : Hid (PU i = useBlock bs t i x) := by
        show _ = _
        rw [HPU.out]
        dsimp only
        rw [List.getD_eq_getElem?_getD, List.getElem?_eq_getElem hib, ← hxe]; rfl
      obtain ⟨W1, hW1⟩ : ∃ W1, W1 = (wo.alloc (.cells #[.int .i64 (i : Int)] 3)).alloc (.cells #[.slice pa x.phis.length pc, .slice la x.list.length lc, .int .i64 x.fin.kind, .bool x.fin.on.reg, .int .i64 x.fin.on.n, .slice ta x.fin.to.length tc] 47) := ⟨_, rfl⟩
      have hb1 : Below wo.heap.size wo W1 := by rw [hW1]; (repeat (first | exact Below.refl _ _ | refine Below.alloc ?_ (by first | omega | (simp <;> omega)) _ | refine Below.setCell ?_ (by first | omega | (simp <;> omega)) _ | refine below_drewN ?_ _ | refine Below.drew ?_))
      have hsz1 : W1.heap.size = wo.heap.size + 2 := by rw [hW1]; simp
      have e0 : W1.cell? ⟨wo.heap.size, 0, none⟩ = some (.int .i64 (i : Int)) := by rw [hW1]; simp
      have e1 : CellsAt W1 (wo.heap.size + 1) 0 [.slice pa x.phis.length pc, .slice la x.list.length lc, .int .i64 x.fin.kind, .bool x.fin.on.reg, .int .i64 x.fin.on.n, .slice ta x.fin.to.length tc] := by
        rw [hW1]; exact .cons (by simp) (.cons (by simp) (.cons (by simp) (.cons (by simp) (.cons (by simp) (.cons (by simp) (.nil _ _ _))))))
      have HW1 := hid hW1
      have Hph := hid (hph.later rPhi_mono hb1)
      have Hli := hid (hli.later rIns_mono hb1)
      have E0 := hid e0
      have E1 := hid e1
      have Hb1 := hid hb1
      have Hz1 := hid hsz1
      clear hph hli hx hcs hxi hxe hW1 e0 e1 hb1 hbs2 hsz1
      gi_wp2
      clear d0 d1 d2 d3 d4 d5
      rw [← HW1.out]
      have R0w := hid (cell_later' r0 Hb1.out)
      have R1w := hid (cell_later' r1 Hb1.out)
      have R2w := hid ((Hb1.out.frozen (p := ⟨w.heap.size + 1, 0, none⟩) z3).trans r2)
      have Hkw := hid (Hkr.out.later Hb1.out)
      clear r0 r1 r2 c3
      obtain ⟨IB, hIB⟩ : ∃ IB, IB = wo.heap.size := ⟨_, rfl⟩
      rw [← hIB] at E0 E1 ⊢
      have HIB := hid hIB
      have zI : IB + 1 < W1.heap.size := by rw [Hz1.out]; omega
      clear hIB HW1
      obtain ⟨PH, hPH⟩ : ∃ PH : Nat → Bool, PH = fun k => (List.range (x.phis.getD k noPhi).src.length).all fun j => phiKnown bs t (predsOf bs 0 i) (x.phis.getD k noPhi).src j := ⟨_, rfl⟩
      obtain ⟨IN, hIN⟩ : ∃ IN : Nat → Bool, IN = fun j => insKnown bs t i j (x.list.getD j noIns) := ⟨_, rfl⟩
      have HPi2 : Hid (PU i = ((List.range x.phis.length).all PH && ((List.range x.list.length).all IN && knownV bs t x.fin.on i x.list.length))) := by
        show _ = _
        rw [HPi.out, hPH, hIN]; rfl
      have HPH := hid hPH
      have HIN := hid hIN
      clear hPH hIN HPi
      gi_loopw [33] (fun s33 wi => ∃ (k : Nat), k ≤ x.phis.length ∧ s33 = .int .i64 k ∧ (∀ k', k' < k → PH k' = true) ∧ Below W1.heap.size W1 wi) (fun s33 _ => x.phis.length - (intOf s33).toNat)
      case atStart => exact ⟨0, Nat.zero_le _, rfl, fun k' hk' => by omega, Below.refl _ _⟩
      case round =>
        obtain ⟨k, hk, rfl, hpall, hbk⟩ := hrel
        have Hpall := hid hpall
        have Hbk := hid hbk
        clear hpall hbk
        by_cases hkl : k < x.phis.length
        · obtain ⟨pb, poff, cs, rfl, -, hp, -, hcs⟩ := (Hph.out.later rPhi_mono Hbk.out).get hkl
          obtain ⟨sa, sc, rfl, hsrc, hsm, -⟩ := hp.opens
          obtain ⟨d0, d1⟩ := hcs.get2
          have zp : pb < wr.heap.size := cell_lt d0
          obtain ⟨y, hy⟩ : ∃ y, y = x.phis[k] := ⟨_, rfl⟩
          rw [← hy] at d0 d1 hsrc hsm
          have hym : y ∈ x.phis := by rw [hy]; exact List.getElem_mem _
          have Hyf := hid (Hf.out.phi i x Hxi.out y hym)
          have HPk : Hid (PH k = (List.range y.src.length).all fun j => phiKnown bs t (predsOf bs 0 i) y.src j) := by
            show _ = _
            rw [HPH.out]
            dsimp only
            rw [List.getD_eq_getElem?_getD, List.getElem?_eq_getElem hkl, ← hy]; rfl
          obtain ⟨W2, hW2⟩ : ∃ W2, W2 = wr.alloc (.cells #[.int .i64 y.dst, .slice sa y.src.length sc] 72) := ⟨_, rfl⟩
          have hb2 : Below wr.heap.size wr W2 := by rw [hW2]; (repeat (first | exact Below.refl _ _ | refine Below.alloc ?_ (by first | omega | (simp <;> omega)) _ | refine Below.setCell ?_ (by first | omega | (simp <;> omega)) _ | refine below_drewN ?_ _ | refine Below.drew ?_))
          have e1 : W2.cell? ⟨wr.heap.size, 1, none⟩ = some (.slice sa y.src.length sc) := by rw [hW2]; simp
          have Hb2 := hid (Hbk.out.trans (hb2.mono Hbk.out.size))
          have Hsrc := hid (hsrc.later rVal_mono hb2)
          have HW2 := hid hW2
          have zw : wr.heap.size < W2.heap.size := cell_lt e1
          clear hp hcs hy hym hsrc hW2 hb2
          gi_wp2
          clear d0 d1
          rw [← HW2.out]
          clear HW2
          obtain ⟨PB, hPB⟩ : ∃ PB, PB = wr.heap.size := ⟨_, rfl⟩
          rw [← hPB] at e1 zw ⊢
          clear hPB
          gi_loopw [40] (fun s40 wj => ∃ (j : Nat), j ≤ y.src.length ∧ s40 = .int .i64 j ∧ (∀ j', j' < j → phiKnown bs t (predsOf bs 0 i) y.src j' = true) ∧ Below W2.heap.size W2 wj) (fun s40 _ => y.src.length - (intOf s40).toNat)
          case atStart => exact ⟨0, Nat.zero_le _, rfl, fun k' hk' => by omega, Below.refl _ _⟩
          case round =>
            obtain ⟨j, hj, rfl, hjall, hbj⟩ := hrel
            have Hjall := hid hjall
            have Hbj := hid hbj
            have Hbj1 : Hid (Below W1.heap.size W1 wr) := Hb2.out.trans (hbj.mono Hb2.out.size)
            clear hjall hbj
            by_cases hjl : j < y.src.length
            · obtain ⟨vb, voff, cs, rfl, -, hvv, -, hcs⟩ := (Hsrc.out.later rVal_mono Hbj.out).get hjl
              obtain ⟨rfl, -⟩ := hvv
              obtain ⟨d0, d1⟩ := hcs.get2
              have zv : vb < wr.heap.size := cell_lt d0
              obtain ⟨v, hv⟩ : ∃ v, v = y.src[j] := ⟨_, rfl⟩
              rw [← hv] at d0 d1
              have hvok : VOk f.regs v := Hyf.out.2.2 v (by rw [hv]; exact List.getElem_mem _)
              have hjp : j < (predsOf bs 0 i).length := by rw [Hbs.out, ← Hyf.out.2.1]; exact hjl
              have hia : i < (aheadF bs).length := by unfold aheadF; simpa using hib
              have hbA : Below w1.heap.size w1 wr := Hbr.out.trans (((Hb1.out.mono (Nat.le_refl _)).trans (Hbj1.out.mono (by rw [Hz1.out]; omega))).mono Hbr.out.size)
              obtain ⟨rb, roff, cs2, rfl, -, ⟨rv, rfl, hrow⟩, -, hcs2⟩ := (Hv2.out.later rRow_mono hbA).get hia
              have hrq : (aheadF bs)[i] = predsOf bs 0 i := by
                have h := aheadF_getD hib
                rw [List.getD_eq_getElem?_getD, List.getElem?_eq_getElem hia] at h
                exact h
              rw [hrq] at hrow
              obtain ⟨ra, rc, hrv, hRm⟩ := hrow.val
              subst hrv
              have g0 := hcs2.get1
              rw [Nat.mul_one] at g0
              obtain ⟨R, hR⟩ : ∃ R, R = (predsOf bs 0 i).length := ⟨_, rfl⟩
              have hjR : j < R := by rw [hR]; exact hjp
              rw [← hR] at g0 hrow hRm
              obtain ⟨ib, ioff, hra, g1⟩ := int_at hrow hjp
              subst hra
              have hmem := predsOf_mem (List.getElem_mem hjp)
              obtain ⟨q, hq⟩ := Int.eq_ofNat_of_zero_le hmem.1
              rw [hq] at g1
              have hqn : q < bs.length := by omega
              have e0 := cell_later' E0.out Hbj1.out
              have zr : rb < wr.heap.size := cell_lt g0
              have zi : ib < wr.heap.size := cell_lt g1
              have zI2 : IB < wr.heap.size := cell_lt e0
              obtain ⟨W3, hW3⟩ : ∃ W3, W3 = wr.alloc (.cells #[.bool v.reg, .int .i64 v.n] 41) := ⟨_, rfl⟩
              have hb3 : Below wr.heap.size wr W3 := by rw [hW3]; (repeat (first | exact Below.refl _ _ | refine Below.alloc ?_ (by first | omega | (simp <;> omega)) _ | refine Below.setCell ?_ (by first | omega | (simp <;> omega)) _ | refine below_drewN ?_ _ | refine Below.drew ?_))
              have HbW : Hid (Below W1.heap.size W1 W3) := Hbj1.out.trans (hb3.mono Hbj1.out.size)
              have hk3 := Hkw.out.later HbW.out
              have hbs3 := hk3.bs
              rw [← Hbs.out] at hbs3
              obtain ⟨xb2, xoff2, cs3, hxa2, -, hx3, -, hcs3⟩ := hbs3.get hqn
              cases hxa2
              obtain ⟨pa3, pc3, la3, lc3, ta3, tc3, rfl, -, -, -, -, -, -, -, -⟩ := hx3.opens
              have m1 : W3.cell? ⟨xb, xoff + q * 6 + 1, none⟩ = some (.slice la3 bs[q].list.length lc3) := hcs3 1 _ rfl
              have hla : ((bs[q].list.length : Nat) : Int) = lenAt f.blocks (q : Int) := by
                unfold lenAt
                rw [Int.toNat_natCast, List.getD_eq_getElem?_getD, ← Hbs.out, List.getElem?_eq_getElem hqn, Option.getD_some]
              obtain ⟨ln, hln⟩ : ∃ ln, ln = bs[q].list.length := ⟨_, rfl⟩
              rw [← hln] at m1 hla
              have m0 := cell_later' R0w.out HbW.out
              obtain ⟨-, -, -, m3, -, -⟩ := hk3.box.get6
              rw [← Hbs.out] at m3
              have mv0 : W3.cell? ⟨wr.heap.size, 0, none⟩ = some (.bool v.reg) := by rw [hW3]; simp
              have mv1 : W3.cell? ⟨wr.heap.size, 1, none⟩ = some (.int .i64 v.n) := by rw [hW3]; simp
              have mr := cell_later' R1w.out HbW.out
              have mf := (HbW.out.frozen (p := ⟨w.heap.size + 1, 0, none⟩) (cell_lt R1w.out)).trans R2w.out
              have MR := hid mr
              have MF := hid mf
              obtain ⟨kv, hkv⟩ : ∃ kv, kv = phiKnown bs t (predsOf bs 0 i) y.src j := ⟨_, rfl⟩
              have hkv2 : knownV f.blocks t v (q : Int) (ln : Int) = kv := by
                rw [hkv, hla, ← Hbs.out]
                unfold phiKnown
                rw [List.getD_eq_getElem?_getD, List.getElem?_eq_getElem hjl, List.getD_eq_getElem?_getD, List.getElem?_eq_getElem hjp, ← hv]
                show knownV bs t v (q : Int) (lenAt bs (q : Int)) = knownV bs t v ((predsOf bs 0 i)[j]) (lenAt bs ((predsOf bs 0 i)[j]))
                rw [hq]
              have cW : ∀ m d os, CallsIn Fence.wide m Tryd.prog 142 #[.pointer (some ⟨CB, 0, none⟩), .agg #[.bool v.reg, .int .i64 v.n], .int .i64 (q : Int), .int .i64 (ln : Int)] (grow (redrawn W3 d) os) fun e w'' => e = .returned (.bool kv) ∧ ∃ p : Regrown, w'' = grow (redrawn W3 p.d) p.os := fun m d os => by
                have h := callsIn_wide (n := m).2 (known_st (hk3.later (below_regrown W3 d os)) Hf.out hvok (by rw [← Hbs.out]; exact hqn) (ln : Int))
                rw [hkv2] at h
                exact CallsIn.regrown_of h
              have HcW := hid cW
              have Hkv := hid hkv
              have HW3 := hid hW3
              have mpos : (0 : Int) ≤ (q : Int) := by omega
              have Hb3 := hid hb3
              clear hcs hv hvok hrow hcs2 hrq hR hRm hmem hq hW3 hb3 hk3 hbs3 hx3 hcs3 hla hln hkv hkv2 cW mr mf hjp hia hbA
              gi_wp2
              rw [← HW3.out]
              clear d0 d1 g0 g1 e0
              have k0 := cell_regrown m0
              have k1 := cell_regrown m1
              have k3 := cell_regrown m3
              have kv0 := cell_regrown mv0
              have kv1 := cell_regrown mv1
              obtain ⟨VB, hVB⟩ : ∃ VB, VB = wr.heap.size := ⟨_, rfl⟩
              rw [← hVB] at mv0 mv1 kv0 kv1 ⊢
              have zq : (q : Int) < (bs.length : Int) := by omega
              clear hVB HW3
              cases kv with
              | true =>
                refine wpIn_region_quiet_open rfl (by kernel_rfl) (by kernel_rfl) ?_
                repeat (gi_big_quiet_step (fail))
                refine wpQuietIn_step (fun _ _ _ _ => trivial) (fun K hK => ?_)
                go_simp
                refine ⟨_, fun _ => HcW.out _ _ _, hK _ ?_⟩
                clear hK K
                repeat (gi_big_quiet_step (fail))
                refine wpQuietIn_nil ?_
                intro W' hw'
                obtain ⟨rg, hrg⟩ := hw'
                have hbg : Below W3.heap.size W3 W' := by rw [hrg]; exact below_regrown _ _ _
                clear hrg k0 k1 k3 kv0 kv1 m0 m1 m3 mv0 mv1
                have Hbg := hid (Hbj.out.trans ((Hb3.out.trans (hbg.mono Hb3.out.size)).mono Hbj.out.size))
                clear hbg
                gi_wp2
                go_roundw
                case rel => exact ⟨j + 1, by omega, by go_num, ext_lt Hjall.out Hkv.out.symm, Hbg.out⟩
                case measure => simp [intOf]; omega
              | false =>
                refine wpIn_region_quiet_open rfl (by kernel_rfl) (by kernel_rfl) ?_
                repeat (gi_big_quiet_step (fail))
                refine wpQuietIn_step (fun _ _ _ _ => trivial) (fun K hK => ?_)
                go_simp
                refine ⟨_, fun _ => HcW.out _ _ _, hK _ ?_⟩
                clear hK K
                repeat (gi_big_quiet_step (fail))
                refine wpQuietIn_nil ?_
                intro W' hw'
                obtain ⟨rg, hrg⟩ := hw'
                have hbg : Below W3.heap.size W3 W' := by rw [hrg]; exact below_regrown _ _ _
                clear hrg k0 k1 k3 kv0 kv1 m0 m1 m3 mv0 mv1
                have hbw2 : Below W1.heap.size W1 W' := HbW.out.trans (hbg.mono HbW.out.size)
                have mr := cell_later' MR.out hbg
                have mf := (hbg.frozen (p := ⟨w.heap.size + 1, 0, none⟩) (cell_lt MR.out)).trans MF.out
                have zR : w.heap.size + 1 < W'.heap.size := cell_lt mr
                have Hbw2 := hid hbw2
                have Hmr := hid mr
                clear hbg hbw2
                gi_wp2
                have hfl : usesF f t = false := by
                  rw [Huse.out]
                  refine all_no hib ?_
                  rw [HPi2.out, all_no hkl (by rw [HPk.out]; exact all_no hjl Hkv.out.symm)]; rfl
                have hsz : (W'.setCell ⟨w.heap.size + 1, 0, none⟩ (.bool false)).heap.size = W'.heap.size := by simp [World.setCell]
                have hzz := Hbw2.out.size
                have hz9 := Hz1.out
                have hz8 := Hbw.out.size
                have hbb : RowKit.Below w.heap.size w W' := Hbw.out.trans ((Hbr.out.trans ((Hb1.out.trans (Hbw2.out.mono (by omega))).mono (by omega))).mono (by omega))
                refine uses_leave w w1 _ ds _ rfl ?_ (c := false) (by rw [cell_set Hmr.out, if_pos rfl]) hfl.symm (hbb.setCell (by dsimp only; omega) _) z1 (by rw [hsz]; omega)
                rw [hsz]
                exact (Hmk.out.keep (by omega) (fun b h1 h2 h3 => by rw [Hbw2.out.block b (by omega), Hb1.out.block b h2]; exact h3)).set _ (by omega)
            · have hjn : j = y.src.length := by omega
              have Hnx : Hid (∀ k', k' < k + 1 → PH k' = true) := ext_lt Hpall.out (by
                rw [HPk.out]
                exact List.all_eq_true.2 fun j' hj' => Hjall.out j' (by rw [hjn]; exact List.mem_range.1 hj'))
              clear hjn
              gi_wp2
              go_roundw
              case rel => exact ⟨k + 1, by omega, by go_num, Hnx.out, Hbj1.out⟩
              case measure => simp [intOf]; omega
        · have hkn : k = x.phis.length := by omega
          have Hpa : Hid ((List.range x.phis.length).all PH = true) := List.all_eq_true.2 fun k' hk' => Hpall.out k' (by rw [hkn]; exact List.mem_range.1 hk')
          have e1 := E1.out.later Hbk.out
          obtain ⟨zz0, l1, zz2, zz3, zz4, zz5⟩ := e1.get6
          have zI3 : IB + 1 < wr.heap.size := cell_lt l1
          clear hkn Hpall e1 zz0 zz2 zz3 zz4 zz5
          gi_wp2
          clear l1
          refine wpIn_loop (fun a W => ∃ (j : Nat) (ds : List Deferred) (v11 v12 v13 v73 v74 v75 v76 v77 v78 v79 v80 v81 v82 v83 v84 v85 v86 : Value), a = { tmps := #[(.pointer (some ⟨CB, 0, none⟩)), (.pointer (some ⟨w.heap.size, 0, none⟩)), (.pointer (some ⟨w.heap.size + 1, 0, none⟩)), (.slice va bs.length vc), (.pointer (some ⟨IB, 0, none⟩)), (.pointer (some ⟨IB + 1, 0, none⟩)), undef, (u7), (u8), (u9), (u10), v11, v12, v13, (.pointer (some ⟨CB, 0, none⟩)), (.pointer (some ⟨CB, 0, none⟩)), (.pointer (some ⟨CB, 0, none⟩)), (.agg #[.string nm, .int .i64 f.params, .int .i64 f.regs, .slice (some ⟨xb, xoff, none⟩) bs.length bc]), (.slice va bs.length vc), (.pointer (some ⟨CB, 0, none⟩)), (.pointer (some ⟨CB, 0, none⟩)), (.pointer (some ⟨CB, 0, none⟩)), (.pointer (some ⟨CB, 3, none⟩)), (.slice (some ⟨xb, xoff, none⟩) bs.length bc), (.int .i64 (bs.length : Int)), (.int .i64 (i : Int)), (.bool true), (.int .i64 (i : Int)), (.pointer (some ⟨xb, xoff + i * 6, none⟩)), (.agg #[.slice pa x.phis.length pc, .slice la x.list.length lc, .int .i64 x.fin.kind, .bool x.fin.on.reg, .int .i64 x.fin.on.n, .slice ta x.fin.to.length tc]), (.pointer (some ⟨IB + 1, 0, none⟩)), (.slice pa x.phis.length pc), (.int .i64 (x.phis.length : Int)), (.int .i64 (k : Int)), (.bool false), (u35), (u36), (u37), (u38), (u39), (u40), (u41), (u42), (u43), (u44), (u45), (u46), (u47), (u48), (u49), (u50), (u51), (u52), (u53), (u54), (u55), (u56), (u57), (u58), (u59), (u60), (u61), (u62), (u63), (u64), (u65), (u66), (u67), (u68), (.pointer (some ⟨IB + 1, 1, none⟩)), (.slice la x.list.length lc), (.int .i64 (x.list.length : Int)), (.int .i64 (j : Int)), v73, v74, v75, v76, v77, v78, v79, v80, v81, v82, v83, v84, v85, v86, (u87), (u88), (u89), (u90), (u91), (u92), (u93), (u94), (u95), (u96), (u97)], defers := ds } ∧ j ≤ x.list.length ∧ (∀ j', j' < j → IN j' = true) ∧ Below W1.heap.size W1 W ∧ Marks w1.heap.size W.heap.size ds W)
            (fun a _ => x.list.length - (intOf (a.tmps.getD 72 undef)).toNat) ?h1 ?round4
          case h1 =>
            have hzw := Hz1.out
            exact ⟨0, ds, u11, u12, u13, u73, u74, u75, u76, u77, u78, u79, u80, u81, u82, u83, u84, u85, u86, rfl, Nat.zero_le _, fun j hj => by omega, Hbk.out, (Hmk.out.keep (by have := Hbk.out.size; omega) (fun b h1 h2 h3 => by rw [Hbk.out.block b (by omega), Hb1.out.block b h2]; exact h3))⟩
          case round4 =>
            clear Hbk Hmk
            intro _ wr hinv
            obtain ⟨j, ds, hinv⟩ := hinv
            obtain ⟨v11, hinv⟩ := hinv
            obtain ⟨v12, hinv⟩ := hinv
            obtain ⟨v13, hinv⟩ := hinv
            obtain ⟨v73, hinv⟩ := hinv
            obtain ⟨v74, hinv⟩ := hinv
            obtain ⟨v75, hinv⟩ := hinv
            obtain ⟨v76, hinv⟩ := hinv
            obtain ⟨v77, hinv⟩ := hinv
            obtain ⟨v78, hinv⟩ := hinv
            obtain ⟨v79, hinv⟩ := hinv
            obtain ⟨v80, hinv⟩ := hinv
            obtain ⟨v81, hinv⟩ := hinv
            obtain ⟨v82, hinv⟩ := hinv
            obtain ⟨v83, hinv⟩ := hinv
            obtain ⟨v84, hinv⟩ := hinv
            obtain ⟨v85, hinv⟩ := hinv
            obtain ⟨v86, hinv⟩ := hinv
            obtain ⟨ha, hj, hiall, hbj, hmj⟩ := hinv
            subst ha
            have Hiall := hid hiall
            have Hbj := hid hbj
            have Hmj := hid hmj
            clear hiall hbj hmj
            by_cases hjl : j < x.list.length
            · obtain ⟨pb, poff, cs, rfl, -, hp, -, hcs⟩ := (Hli.out.later rIns_mono Hbj.out).get hjl
              obtain ⟨fa, fc, rfl, hargs, ham, -⟩ := hp.opens
              obtain ⟨d0, d1, d2, d3, d4, d5, d6, d7⟩ := hcs.get8
              have zp : pb < wr.heap.size := cell_lt d0
              obtain ⟨y, hy⟩ : ∃ y, y = x.list[j] := ⟨_, rfl⟩
              rw [← hy] at d0 d1 d2 d3 d4 d5 d6 d7 hargs ham
              have hym : y ∈ x.list := by rw [hy]; exact List.getElem_mem _
              have HINj : Hid (IN j = insKnown bs t i j y) := by
                show _ = _
                rw [HIN.out]
                dsimp only
                rw [List.getD_eq_getElem?_getD, List.getElem?_eq_getElem hjl, ← hy]; rfl
              have hyok : ∀ v ∈ valsF y, VOk f.regs v := fun v hv => by
                have h := Hf.out.ins i x Hxi.out y hym
                unfold valsF at hv
                rcases List.mem_append.1 hv with hv | hv
                · split at hv
                  · rw [List.mem_singleton] at hv; rw [hv]; exact h.a
                  · cases hv
                · rcases List.mem_append.1 hv with hv | hv
                  · split at hv
                    · rw [List.mem_singleton] at hv; rw [hv]; exact h.b
                    · cases hv
                  · exact h.args v hv
              have hyargs : y.args.length ≤ 1048576 := Hf.out.args i x Hxi.out y hym
              have hvi := fun w => vals_in 5 y fa fc w
              simp only [insCells] at hvi
              obtain ⟨W2, hW2⟩ : ∃ W2, W2 = (wr.alloc (.cells #[.int .i64 (j : Int)] 3)).alloc (.cells #[.int .i64 y.op, .int .i64 y.dst, .bool y.a.reg, .int .i64 y.a.n, .bool y.b.reg, .int .i64 y.b.n, .int .i64 y.fn, .slice fa y.args.length fc] 70) := ⟨_, rfl⟩
              have Hyok := hid hyok
              have Hargs := hid hargs
              clear hp hcs hy hym hyok hargs
              gi_wp2_with (first | (refine ⟨trivial, ?_⟩; gi_at_call 143; refine (hvi _).mono ?_; rintro e w' ⟨rfl, rfl⟩))
              obtain ⟨Wk, hWk⟩ : ∃ Wk, Wk = ((wr.alloc (.cells #[.int .i64 (j : Int)] 3)).alloc (.cells #[.int .i64 y.op, .int .i64 y.dst, .bool y.a.reg, .int .i64 y.a.n, .bool y.b.reg, .int .i64 y.b.n, .int .i64 y.fn, .slice fa y.args.length fc] 70)).alloc (.cells #[.int .i64 y.op, .int .i64 y.dst, .bool y.a.reg, .int .i64 y.a.n, .bool y.b.reg, .int .i64 y.b.n, .int .i64 y.fn, .slice fa y.args.length fc] 70) := ⟨_, rfl⟩
              rw [← hWk]
              have hbk : Below wr.heap.size wr Wk := by rw [hWk]; (repeat (first | exact Below.refl _ _ | refine Below.alloc ?_ (by first | omega | (simp <;> omega)) _ | refine Below.setCell ?_ (by first | omega | (simp <;> omega)) _ | refine below_drewN ?_ _ | refine Below.drew ?_))
              have hszk : Wk.heap.size = wr.heap.size + 3 := by rw [hWk]; simp
              have hs2 : W2.heap.size = wr.heap.size + 1 + 1 := by rw [hW2]; simp
              have hWk2 : Wk = W2.alloc (.cells #[.int .i64 y.op, .int .i64 y.dst, .bool y.a.reg, .int .i64 y.a.n, .bool y.b.reg, .int .i64 y.b.n, .int .i64 y.fn, .slice fa y.args.length fc] 70) := by rw [hWk, hW2]
              have kj2 : W2.cell? ⟨wr.heap.size, 0, none⟩ = some (.int .i64 (j : Int)) := by rw [hW2]; simp
              have kj : Wk.cell? ⟨wr.heap.size, 0, none⟩ = some (.int .i64 (j : Int)) := cell_later' kj2 (by rw [hWk2]; (repeat (first | exact Below.refl _ _ | refine Below.alloc ?_ (by first | omega | (simp <;> omega)) _ | refine Below.setCell ?_ (by first | omega | (simp <;> omega)) _ | refine below_drewN ?_ _ | refine Below.drew ?_)))
              have kb : CellsAt Wk (wr.heap.size + 1 + 1) 0 (insCells y fa fc) := by
                rw [hWk2, ← hs2]; unfold insCells
                exact .cons (by simp) (.cons (by simp) (.cons (by simp) (.cons (by simp) (.cons (by simp) (.cons (by simp) (.cons (by simp) (.cons (by simp) (.nil _ _ _))))))))
              clear hWk2 kj2 hs2
              obtain ⟨JB, hJB⟩ : ∃ JB, JB = wr.heap.size := ⟨_, rfl⟩
              have HbK : Hid (Below W1.heap.size W1 Wk) := Hbj.out.trans (hbk.mono Hbj.out.size)
              have HKn := hid (Hkw.out.later HbK.out)
              have R0k := hid (cell_later' R0w.out HbK.out)
              have R1k := hid (cell_later' R1w.out HbK.out)
              have R2k := hid ((HbK.out.frozen (p := ⟨w.heap.size + 1, 0, none⟩) (cell_lt R1w.out)).trans R2w.out)
              have E0k := hid (cell_later' E0.out HbK.out)
              have HargsK := Hargs.out.later rVal_mono hbk
              have Hmk := hid (Hmj.out.keep (C' := Wk.heap.size) (by omega) (fun b h1 h2 h3 => by rw [hbk.block b h2]; exact h3))
              have Hszk : Hid (Wk.heap.size = JB + 3 ∧ w1.heap.size ≤ JB ∧ w.heap.size + 1 < w1.heap.size) := by
                have q1 := Hbj.out.size
                have q2 := Hz1.out
                have q3 := Hbr.out.size
                exact ⟨by omega, by omega, z1⟩
              have HbwK : Hid (RowKit.Below w.heap.size w Wk) := by
                have q2 := Hz1.out
                have q3 := Hbr.out.size
                have q4 := Hbw.out.size
                exact Hbw.out.trans ((Hbr.out.trans ((Hb1.out.trans (HbK.out.mono (by omega))).mono (by omega))).mono (by omega))
              rw [← hJB] at kj kb ⊢
              clear hWk hbk hszk hW2 hJB hvi d0 d1 d2 d3 d4 d5 d6 d7
              refine wpIn_rangeFunc_boxed (α := ValP y) rfl (by decide) (gf := 157) (lb := #[.pointer (some ⟨JB + 1 + 1, 0, none⟩)]) rfl trivial (enters_of Tryd.func157 (by kernel_rfl) rfl)
                (vals_stops (6 - 1) (by decide) (JB + 1 + 1) (fun _ => True) y fa fc Wk hyargs HargsK kb)
                (fun h k => keepC_t h k) (fun W l o o' h1 h2 h3 h4 => keepC_b (n := Wk.heap.size) W l o o' h1 h2 h3 h4) (Below.refl _ _) (fun _ => rfl)
                (fun pre W => (∀ v ∈ pre.map valOf, knownV bs t v i j = true) ∧ RowKit.Below Wk.heap.size Wk W)
                (fun c pre W => (c = .ret ∧ ∃ v ∈ pre.map valOf, knownV bs t v i j = false) ∧ RowKit.Below w.heap.size w W ∧ W.cell? ⟨w.heap.size + 1, 0, none⟩ = some (.bool false) ∧ Marks w1.heap.size Wk.heap.size ds W)
                ?hI ?hIx ?h0r (fun v => .cells #[.bool (valOf v).reg, .int .i64 (valOf v).n] 41) (fun v m => { tmps := #[(.pointer (some ⟨CB, 0, none⟩)), (.pointer (some ⟨w.heap.size, 0, none⟩)), (.pointer (some ⟨w.heap.size + 1, 0, none⟩)), (.slice va bs.length vc), (.pointer (some ⟨IB, 0, none⟩)), (.pointer (some ⟨IB + 1, 0, none⟩)), undef, (u7), (u8), (u9), (u10), (.pointer (some ⟨JB, 0, none⟩)), (.pointer (some ⟨JB + 1, 0, none⟩)), (.pointer (some ⟨m, 0, none⟩)), (.pointer (some ⟨CB, 0, none⟩)), (.pointer (some ⟨CB, 0, none⟩)), (.pointer (some ⟨CB, 0, none⟩)), (.agg #[.string nm, .int .i64 f.params, .int .i64 f.regs, .slice (some ⟨xb, xoff, none⟩) bs.length bc]), (.slice va bs.length vc), (.pointer (some ⟨CB, 0, none⟩)), (.pointer (some ⟨CB, 0, none⟩)), (.pointer (some ⟨CB, 0, none⟩)), (.pointer (some ⟨CB, 3, none⟩)), (.slice (some ⟨xb, xoff, none⟩) bs.length bc), (.int .i64 (bs.length : Int)), (.int .i64 (i : Int)), (.bool true), (.int .i64 (i : Int)), (.pointer (some ⟨xb, xoff + i * 6, none⟩)), (.agg #[.slice pa x.phis.length pc, .slice (some ⟨pb, poff, none⟩) x.list.length lc, .int .i64 x.fin.kind, .bool x.fin.on.reg, .int .i64 x.fin.on.n, .slice ta x.fin.to.length tc]), (.pointer (some ⟨IB + 1, 0, none⟩)), (.slice pa x.phis.length pc), (.int .i64 (x.phis.length : Int)), (.int .i64 (k : Int)), (.bool false), (u35), (u36), (u37), (u38), (u39), (u40), (u41), (u42), (u43), (u44), (u45), (u46), (u47), (u48), (u49), (u50), (u51), (u52), (u53), (u54), (u55), (u56), (u57), (u58), (u59), (u60), (u61), (u62), (u63), (u64), (u65), (u66), (u67), (u68), (.pointer (some ⟨IB + 1, 1, none⟩)), (.slice (some ⟨pb, poff, none⟩) x.list.length lc), (.int .i64 (x.list.length : Int)), (.int .i64 (j : Int)), (.bool true), (.int .i64 (j : Int)), (.pointer (some ⟨pb, poff + j * 8, none⟩)), (.agg #[.int .i64 y.op, .int .i64 y.dst, .bool y.a.reg, .int .i64 y.a.n, .bool y.b.reg, .int .i64 y.b.n, .int .i64 y.fn, .slice fa y.args.length fc]), (.agg #[.int .i64 y.op, .int .i64 y.dst, .bool y.a.reg, .int .i64 y.a.n, .bool y.b.reg, .int .i64 y.b.n, .int .i64 y.fn, .slice fa y.args.length fc]), (.func (.func 157) #[] #[.pointer (some ⟨JB + 1 + 1, 0, none⟩)]), (.agg #[.bool (valOf v).reg, .int .i64 (valOf v).n]), (v80), (v81), (v82), (v83), (v84), (v85), (v86), (u87), (u88), (u89), (u90), (u91), (u92), (u93), (u94), (u95), (u96), (u97)], defers := [] }) ?assign ?body ?done ?stop
              case hI =>
                rintro pre A B row ⟨h1, h2⟩ hg hr
                exact ⟨h1, h2.grown hg h2.size (fun r e => (hr r e).1)⟩
              case hIx =>
                rintro c pre A B row ⟨hp, hb, hc, hm⟩ hg hr
                have q := HbwK.out.size
                refine ⟨hp, hb.grown hg hb.size (fun r e => by have := (hr r e).1; omega), cell_kept hc hg (fun r e => (hr r e).2), hm.keep (Nat.le_refl _) (fun b k1 k2 k3 => ?_)⟩
                rw [hg.block b (Array.getElem?_eq_some_iff.1 k3).1 (fun e => by have := (hr b e.symm).1; omega)]
                exact k3
              case h0r => exact ⟨fun v hv => (by cases hv), Below.refl _ _⟩
              case assign =>
                intro l v W K hK
                unfold encP
                gi_wp2
                exact hK
              case body =>
                rintro l pre v W ⟨h1, h2⟩ _
                have Hp1 := hid h1
                have Hp2 := hid h2
                obtain ⟨dv, hdv⟩ : ∃ dv, dv = valOf v := ⟨_, rfl⟩
                have hok : VOk f.regs dv := Hyok.out dv (by rw [hdv]; exact v.2)
                have hmem : (pre ++ [v]).map valOf = pre.map valOf ++ [dv] := by rw [List.map_append, hdv]; rfl
                rw [← hdv]
                obtain ⟨V, hV⟩ : ∃ V, V = W.alloc (.cells #[.bool dv.reg, .int .i64 dv.n] 41) := ⟨_, rfl⟩
                have hbV : Below W.heap.size W V := by rw [hV]; (repeat (first | exact Below.refl _ _ | refine Below.alloc ?_ (by first | omega | (simp <;> omega)) _ | refine Below.setCell ?_ (by first | omega | (simp <;> omega)) _ | refine below_drewN ?_ _ | refine Below.drew ?_))
                have hbKV : Below Wk.heap.size Wk V := h2.trans (hbV.mono h2.size)
                have v0 : V.cell? ⟨W.heap.size, 0, none⟩ = some (.bool dv.reg) := by rw [hV]; simp
                have v1 : V.cell? ⟨W.heap.size, 1, none⟩ = some (.int .i64 dv.n) := by rw [hV]; simp
                have q0 := cell_later' R0k.out hbKV
                have q1 := cell_later' E0k.out hbKV
                have q2 := cell_later' kj hbKV
                have q3 := cell_later' R1k.out hbKV
                have q4 := (hbKV.frozen (p := ⟨w.heap.size + 1, 0, none⟩) (cell_lt R1k.out)).trans R2k.out
                have Q3 := hid q3
                have Q4 := hid q4
                have hc := known_st (HKn.out.later hbKV) Hf.out hok (by rw [← Hbs.out]; exact hib) (j : Int)
                rw [← Hbs.out] at hc
                have hbVW := hbV
                rw [← hV]
                obtain ⟨kv, hkv⟩ : ∃ kv, kv = knownV bs t dv i j := ⟨_, rfl⟩
                rw [← hkv] at hc
                have Hc := hid hc
                have Hkv := hid hkv
                have HbV := hid hbV
                have HbKV := hid hbKV
                have Hmem := hid hmem
                have Hdv := hid hdv
                have zz0 : w.heap.size < V.heap.size := cell_lt q0
                have zz1 : IB < V.heap.size := cell_lt q1
                have zz2 : JB < V.heap.size := cell_lt q2
                have zz3 : w.heap.size + 1 < V.heap.size := cell_lt q3
                have zz4 : W.heap.size < V.heap.size := cell_lt v0
                clear h1 h2 hok hmem hV hbV hbKV hc hkv hbVW q3 q4 hdv
                cases kv with
                | true =>
                  gi_wp2_with (first | (refine ⟨trivial, ?_⟩; gi_at_call 142; refine (CallsIn.inRound l (callsIn_wide.2 Hc.out)).mono ?_; rintro e V' ⟨rfl, hb9⟩; have Hb9 := hid hb9; clear hb9))
                  have hbb := HbV.out.trans (Hb9.out.mono HbV.out.size)
                  refine ⟨keepsOthers_below hbb, keepC_below hbb, fun u hu => ?_, Hp2.out.trans (hbb.mono Hp2.out.size)⟩
                  rw [Hmem.out] at hu
                  rcases List.mem_append.1 hu with hu | hu
                  · exact Hp1.out u hu
                  · rw [List.mem_singleton] at hu
                    rw [hu]; exact Hkv.out.symm
                | false =>
                  gi_wp2_with (first
                    | (refine ⟨trivial, ?_⟩; gi_at_call 142; refine (CallsIn.inRound l (callsIn_wide.2 Hc.out)).mono ?_; rintro e V' ⟨rfl, hb9⟩
                       have Hb9 := hid hb9
                       have q3 := cell_later' Q3.out hb9
                       have q4 := (hb9.frozen (p := ⟨w.heap.size + 1, 0, none⟩) (cell_lt Q3.out)).trans Q4.out
                       have Q5 := hid q3
                       have zz5 : w.heap.size + 1 < V'.heap.size := cell_lt q3
                       clear hb9))
                  have hbb := HbV.out.trans (Hb9.out.mono HbV.out.size)
                  have hbbK := Hp2.out.trans (hbb.mono Hp2.out.size)
                  have hzk := HbwK.out.size
                  refine ⟨(keepsOthers_below hbb).trans (KeepsOthers.setCell _ _ _), ⟨rfl, dv, by rw [Hmem.out]; simp, Hkv.out.symm⟩, (HbwK.out.trans (hbbK.mono hzk)).setCell (by dsimp only; omega) _, by rw [cell_set Q5.out, if_pos rfl], ?_⟩
                  exact (Hmk.out.keep (Nat.le_refl _) (fun b k1 k2 k3 => by rw [hbbK.block b k2]; exact k3)).set _ Hszk.out.2.2
              case done =>
                rintro D xs W hD hxs ⟨h1, h2⟩ hd
                have hDl : D < W.heap.size := (Array.getElem?_eq_some_iff.1 hd).1
                have q := Hszk.out
                have hm2 : Marks w1.heap.size W.heap.size ({ target := .collected D, args := #[] } :: ds) W := (Hmk.out.keep (Nat.le_refl _) (fun b k1 k2 k3 => by rw [h2.block b k2]; exact k3)).cons hD (by omega) hDl hd
                have hij : IN j = true := by
                  rw [HINj.out]
                  unfold insKnown
                  rw [← hxs]
                  exact List.all_eq_true.2 h1
                have Hin2 := hid (ext_lt Hiall.out hij)
                have Hm2 := hid hm2
                have Hb2 := hid (HbK.out.trans (h2.mono HbK.out.size))
                clear h1 h2 hm2 hij hd hxs
                gi_wp2
                refine ⟨⟨j + 1, { target := .collected D, args := #[] } :: ds, _, _, _, _, _, _, _, _, _, _, _, _, _, _, _, _, _, rfl, by omega, Hin2.out, Hb2.out, Hm2.out⟩, ?_⟩
                show x.list.length - (j + 1) < x.list.length - j
                omega
              case stop =>
                rintro D c pre W hD hpre ⟨⟨rfl, v, hv, hkv⟩, hb, hc, hm⟩ hd
                have hDl : D < W.heap.size := (Array.getElem?_eq_some_iff.1 hd).1
                have q := Hszk.out
                have hm2 : Marks w1.heap.size W.heap.size ({ target := .collected D, args := #[] } :: ds) W := hm.cons hD (by omega) hDl hd
                have hfl : usesF f t = false := by
                  rw [Huse.out]
                  refine all_no hib ?_
                  have h9 : IN j = false := by
                    rw [HINj.out]
                    unfold insKnown
                    rw [List.all_eq_false]
                    exact ⟨v, hpre.subset hv, by rw [hkv]; simp⟩
                  rw [HPi2.out, all_no hjl h9]; simp
                gi_wp2
                exact uses_leave w w1 _ _ _ rfl hm2 hc hfl.symm hb z1 (by omega)
            · have hjn : j = x.list.length := by omega
              have Hia : Hid ((List.range x.list.length).all IN = true) := List.all_eq_true.2 fun k' hk' => Hiall.out k' (by rw [hjn]; exact List.mem_range.1 hk')
              obtain ⟨-, q1, -, q3, q4, -⟩ := (E1.out.later Hbj.out).get6
              have q0 := cell_later' R0w.out Hbj.out
              have q2 := cell_later' E0.out Hbj.out
              have q5 := cell_later' R1w.out Hbj.out
              have q6 := (Hbj.out.frozen (p := ⟨w.heap.size + 1, 0, none⟩) (cell_lt R1w.out)).trans R2w.out
              have Q5 := hid q5
              have Q6 := hid q6
              have hc := known_st (Hkw.out.later Hbj.out) Hf.out (Hf.out.on i x Hxi.out) (by rw [← Hbs.out]; exact hib) (x.list.length : Int)
              rw [← Hbs.out] at hc
              obtain ⟨kv, hkv⟩ : ∃ kv, kv = knownV bs t x.fin.on i x.list.length := ⟨_, rfl⟩
              rw [← hkv] at hc
              have Hc := hid hc
              have Hkv := hid hkv
              have zz0 : w.heap.size < wr.heap.size := cell_lt q0
              have zz1 : IB + 1 < wr.heap.size := cell_lt q1
              have zz2 : IB < wr.heap.size := cell_lt q2
              have zz3 : w.heap.size + 1 < wr.heap.size := cell_lt q5
              have hz9 := Hz1.out
              have hz8 := Hbw.out.size
              have hz7 := Hbj.out.size
              have HbW : Hid (RowKit.Below w1.heap.size w1 wr) := Hbr.out.trans ((Hb1.out.trans (Hbj.out.mono (by omega))).mono (by omega))
              have HPiv : Hid (PU i = kv) := by show _ = _; rw [HPi2.out, Hpa.out, Hia.out, ← hkv]; simp
              clear hjn hc hkv q5 q6 hz9 hz8 hz7
              cases kv with
              | true =>
                gi_wp2_with (first
                  | (refine ⟨trivial, ?_⟩; gi_at_call 142; refine (callsIn_wide.2 Hc.out).mono ?_; rintro e V' ⟨rfl, hb9⟩
                     have Hb9 := hid hb9
                     clear hb9))
                refine ⟨⟨i + 1, ds, _, _, _, _, _, _, _, _, _, _, _, _, _, _, _, _, _, _, _, _, _, _, _, _, _, _, _, _, _, _, _, _, _, _, _, _, _, _, _, _, _, _, _, _, _, _, _, _, _, _, _, _, _, _, _, _, _, _, _, _, _, _, _, _, _, _, _, _, _, _, _, _, _, _, _, _, _, _, _, _, _, rfl, by omega, ext_lt Hall.out HPiv.out, HbW.out.trans (Hb9.out.mono HbW.out.size), Hmj.out.keep Hb9.out.size (fun b h1 h2 h3 => by rw [Hb9.out.block b h2]; exact h3)⟩, ?_⟩
                show bs.length - (i + 1) < bs.length - i
                omega
              | false =>
                gi_wp2_with (first
                  | (refine ⟨trivial, ?_⟩; gi_at_call 142; refine (callsIn_wide.2 Hc.out).mono ?_; rintro e V' ⟨rfl, hb9⟩
                     have Hb9 := hid hb9
                     have q5 := cell_later' Q5.out hb9
                     have q6 := (hb9.frozen (p := ⟨w.heap.size + 1, 0, none⟩) (cell_lt Q5.out)).trans Q6.out
                     have Q7 := hid q5
                     have zz5 : w.heap.size + 1 < V'.heap.size := cell_lt q5
                     clear hb9))
                have hfl : usesF f t = false := by
                  rw [Huse.out]
                  exact all_no hib HPiv.out
                have hsz : (V'.setCell ⟨w.heap.size + 1, 0, none⟩ (.bool false)).heap.size = V'.heap.size := by simp [World.setCell]
                have hz4 := Hb9.out.size
                have hz5 := HbW.out.size
                have hz6 := Hbw.out.size
                have hbb : RowKit.Below w.heap.size w V' := Hbw.out.trans ((HbW.out.trans (Hb9.out.mono HbW.out.size)).mono hz6)
                refine uses_leave w w1 _ ds _ rfl ?_ (c := false) (by rw [cell_set Q7.out, if_pos rfl]) hfl.symm (hbb.setCell (by dsimp only; omega) _) z1 (by rw [hsz]; omega)
                rw [hsz]
                exact (Hmj.out.keep hz4 (fun b h1 h2 h3 => by rw [Hb9.out.block b h2]; exact h3)).set _ z1
    · have hin : i = bs.length := by omega
      have Hfl : Hid (usesF f t = true) := by
        show _ = _
        rw [Huse.out]
        exact List.all_eq_true.2 fun k' hk' => Hall.out k' (by rw [hin]; exact List.mem_range.1 hk')
      have R1x := hid r1
      clear hin
      gi_wp2
      have hsz : (wo.setCell ⟨w.heap.size + 1, 0, none⟩ (.bool true)).heap.size = wo.heap.size := by simp [World.setCell]
      have hz6 := Hbw.out.size
      refine uses_leave w w1 _ ds _ rfl ?_ (c := true) (by rw [cell_set R1x.out, if_pos rfl]) Hfl.out.symm ((Hbw.out.trans (Hbr.out.mono hz6)).setCell (by dsimp only; omega) _) z1 (by rw [hsz]; exact z4)
      rw [hsz]
      exact Hmk.out.set _ z1

end Go.Proofs.YtaehkcnankijfaaDoor
