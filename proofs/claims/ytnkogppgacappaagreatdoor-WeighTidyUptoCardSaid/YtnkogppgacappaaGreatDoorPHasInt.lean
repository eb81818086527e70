/- The contract of code.Check. The contract of weigh.Lay. turnerysame.Fault, turnerysame.Ints, turneryref6.weighIn. slices.Index and slices.Contains of ints. -/
import Derived.Test.YtnkogppgacappaaGreatDoorPHeap4
import Derived.Test.YtnkogppgacappaaGreatDoorPLay
import Derived.RegionTactic
import Derived.BigRegion
import Derived.Deep.LoopGhost
namespace Go.Proofs.YtnkogppgacappaaGreatDoor
open Go.RowKit

theorem infoStr : (Tryz.prog.info? 9).map (fun i => (i.zero, i.size, i.bytes)) = some (some (.string ByteArray.empty), 1, 16) := by kernel_rfl

set_option maxRecDepth 100000 in
set_option maxHeartbeats 4000000 in
theorem check_any {S : Nat → Prop} (ga : Option Addr) (gc : Nat) (fa : Option Addr) (fc : Nat) (gs : List DGlobal) (fs : List DFunc) (w : World)
 (hg : SlAt S w 3 rGlobal (.slice ga gs.length gc) gs) (hf : SlAt S w 4 rFunc (.slice fa fs.length fc) fs) (hw : Ways w)
 (hgl : gs.length ≤ 1048576) (hfl : fs.length ≤ 1048576) (hsm : ∀ (k : Nat) (f : DFunc), fs[k]? = some f → manyOf f.blocks ≤ 1048576 ∧ f.blocks.length ≤ 1048576) :
 Calls Tryz.prog 8 #[.agg #[.slice ga gs.length gc, .slice fa fs.length fc]] w fun e w' =>
  e = .returned (.agg #[.int .i64 (checkF ⟨gs, fs⟩).1, .int .i64 (checkF ⟨gs, fs⟩).2]) ∧ Below w.heap.size w w' := by
 have Hg := hid hg
 have Hf := hid hf
 have Hw := hid hw
 have Hsm := hid hsm
 obtain ⟨_, _, hg1, hg2⟩ := hg.val
 obtain ⟨_, _, hf1, hf2⟩ := hf.val
 cases hg1
 cases hf1
 clear hg hf hw hsm
 obtain ⟨i0, hi, hz0, hz1, hz2⟩ := info_parts infoStr
 by_cases hlen : 10 < gs.length ∨ 10 < fs.length
 · have Hr : Hid (checkF ⟨gs, fs⟩ = (2, 0)) := by show checkF ⟨gs, fs⟩ = _; unfold checkF; rw [if_pos hlen]
   by_cases hgl' : 10 < gs.length
   all_goals
    go_enter Tryz.func8, Tryz.ntmps8
    go_wp2_with (go_at_call 19; ((with_reducible refine (fault_any _ _ _).mono ?_); rintro e w2 ⟨rfl, hb2⟩; obtain ⟨hc2, hf2⟩ := below_cells hb2))
    refine bodyPost_ret (v := _) ?_ rfl ⟨rfl, ?_⟩
    · rw [Hr.out]
      simp [results, Tryz.results8, go_sem, hc2]
    · (have hz0 := (hb2).size; have hy0 := hz0; (try simp at hy0); repeat (first | exact Below.refl _ _ | refine Below.trans ?_ ((hb2).mono (by first|omega|(simp<;>omega))) | refine Below.alloc ?_ (by first|omega|(simp<;>omega)) _ | refine Below.setCell ?_ (by first|omega|(simp<;>omega)) _ | refine below_drewN ?_ _ | refine Below.drew ?_))
 have hgl10 : gs.length ≤ 10 := by omega
 have hfl10 : fs.length ≤ 10 := by omega
 have Hlen := hid hlen
 clear hlen hgl hfl
 have HW0 : Hid (∀ a b : Obj, Below w.heap.size w ((w.alloc a).alloc b)) := fun a b => by (repeat (first | exact Below.refl _ _ | refine Below.alloc ?_ (by first|omega|(simp<;>omega)) _ | refine Below.setCell ?_ (by first|omega|(simp<;>omega)) _ | refine below_drewN ?_ _ | refine Below.drew ?_))
 go_enter Tryz.func8, Tryz.ntmps8
 go_wp2_with fail
 go_loopw [3, 4, 31] (fun v3 wd i wr => ∃ (k : Nat) (nv : Value), k ≤ gs.length ∧ i = .int .i64 k ∧ nv = v3 ∧ wd = .int .i64 (wordsUp gs k) ∧ (∀ j, j < k → globE gs j = 0) ∧ wr.ownsRow (w.heap.size + 2) 9 1 nv (gNames gs k).length ((gNames gs k).map Value.string) ∧ Below (w.heap.size + 2) ((w.alloc (.cells #[.slice ga gs.length gc, .slice fa fs.length fc] 25)).alloc (.cells #[.int .i64 0, .int .i64 0] 27)) wr) (fun _ _ i _ => gs.length - (intOf i).toNat)
 case atStart => exact ⟨0, _, Nat.zero_le _, rfl, rfl, rfl, fun j hj => by omega, World.ownsRow_nil _ _ _ _, Below.refl _ _⟩
 case round =>
  obtain ⟨k, nv, hk, rfl, rfl, rfl, hall, hown, hbw⟩ := hrel
  have Hall := hid hall
  have Hown := hid hown
  have Hbw := hid hbw
  have Hwr : Hid (Below w.heap.size w wr) := (HW0.out _ _).trans (hbw.mono (by omega))
  have Hnm : Hid (SlAt (fun b => w.heap.size + 2 ≤ b) wr 1 rStr nv (gNames gs k)) := own_strs hown
  obtain ⟨na, nc, rfl, hnl⟩ := Hnm.out.val
  obtain ⟨hc1, hf1⟩ := below_cells hbw
  have hz3 : w.heap.size + 1 < wr.heap.size := by have := hbw.size; simp at this; omega
  have hz4 : w.heap.size < wr.heap.size := by omega
  have R0 : Hid (wr.cell? ⟨w.heap.size + 1, 0, none⟩ = some (.int .i64 0)) := by show _ = _; rw [hc1 _ _ (by omega)]; simp
  have R1 : Hid (wr.cell? ⟨w.heap.size + 1, 1, none⟩ = some (.int .i64 0)) := by show _ = _; rw [hc1 _ _ (by omega)]; simp
  have hwb := words_bound hk hall
  clear hall hown hbw
  by_cases hlt : k < gs.length
  · obtain ⟨b, off, cs, rfl, -, hx, -, hcs⟩ := Hg.out.get hlt
    obtain ⟨xa, xc, rfl, -, hxl, hsz⟩ := hx.opens
    obtain ⟨c0, c1, c2⟩ := (hcs.later Hwr.out).get3
    unfold I64 at hsz
    have hgk : globE gs k = globErr (gNames gs k) (wordsUp gs k) gs[k] := by unfold globE; rw [List.getElem?_eq_getElem hlt]
    have Hgk := hid hgk
    have HrK : Hid (∀ c : Int, globErr (gNames gs k) (wordsUp gs k) gs[k] = c → c ≠ 0 → checkF ⟨gs, fs⟩ = (c, (k : Int))) := fun c hc hne => by
     have h := posF_at Hall.out hlt (by rw [Hgk.out, hc]; exact hne)
     unfold checkF
     dsimp only
     rw [if_neg Hlen.out, h, if_pos hlt, Hgk.out, hc]
    obtain ⟨names, hnames⟩ : ∃ names, names = gNames gs k := ⟨_, rfl⟩
    obtain ⟨words, hwords⟩ : ∃ words, words = wordsUp gs k := ⟨_, rfl⟩
    rw [← hnames, ← hwords] at HrK
    rw [← hnames] at Hnm Hown hnl
    rw [← hwords] at hwb
    rw [← hnames]
    rw [← hwords]
    have Hnames := hid hnames
    have Hwords := hid hwords
    clear hcs hx hgk hnames hwords
    obtain ⟨g, hge⟩ : ∃ g, g = gs[k] := ⟨_, rfl⟩
    rw [← hge] at HrK c0 c1 c2 hsz hxl
    have Hge := hid hge
    clear hge
    by_cases h1 : nameOk g.name = true
    case neg =>
     have h1' : nameOk g.name = false := by simpa using h1
     have Hr : Hid (checkF ⟨gs, fs⟩ = (12, (k : Int))) := HrK.out _ (by simp [globErr, h1']) (by omega)
     clear h1 hwb
     go_wp2_with (first | (go_at_call 19; ((with_reducible refine (fault_any _ _ _).mono ?_); rintro e w2 ⟨rfl, hb2⟩; obtain ⟨hc2, hf2⟩ := below_cells hb2)) | (go_at_call 20; ((with_reducible refine (name_any _ _).mono ?_); rintro e w' ⟨rfl, rfl⟩)) | (go_at_call 21; ((with_reducible refine (containsStr_any (S := fun b => w.heap.size + 2 ≤ b) _ names _ _ ?_).mono ?_); refine Hnm.out.later rStr_mono ?_; (repeat (first | exact Below.refl _ _ | refine Below.alloc ?_ (by first|omega|(simp<;>omega)) _ | refine Below.setCell ?_ (by first|omega|(simp<;>omega)) _ | refine below_drewN ?_ _ | refine Below.drew ?_)); rintro e w' ⟨rfl, rfl⟩)) | (go_at_call 22; ((with_reducible refine (within_any _ _ _ _).mono ?_); rintro e w' ⟨rfl, rfl⟩)))
     have hq : Below wr.heap.size wr w2 := by (have hz0 := (hb2).size; have hy0 := hz0; (try simp at hy0); repeat (first | exact Below.refl _ _ | refine Below.trans ?_ ((hb2).mono (by first|omega|(simp<;>omega))) | refine Below.alloc ?_ (by first|omega|(simp<;>omega)) _ | refine Below.setCell ?_ (by first|omega|(simp<;>omega)) _ | refine below_drewN ?_ _ | refine Below.drew ?_))
     have q := set_two (u := .int .i64 (checkF ⟨gs, fs⟩).1) (v := .int .i64 (checkF ⟨gs, fs⟩).2) (cell_later' R0.out hq) (cell_later' R1.out hq)
     rw [Hr.out] at q ⊢
     refine bodyPost_ret (res_two rfl rfl q.1 q.2) rfl ⟨rfl, ?_⟩
     have h := Hwr.out; (have hz0 := (hb2).size; have hy0 := hz0; (try simp at hy0); have hz1 := (h).size; have hy1 := hz1; (try simp at hy1); repeat (first | exact Below.refl _ _ | refine Below.trans ?_ ((hb2).mono (by first|omega|(simp<;>omega))) | refine Below.trans ?_ ((h).mono (by first|omega|(simp<;>omega))) | refine Below.alloc ?_ (by first|omega|(simp<;>omega)) _ | refine Below.setCell ?_ (by first|omega|(simp<;>omega)) _ | refine below_drewN ?_ _ | refine Below.drew ?_))
    by_cases h2 : hasStr names g.name = true
    · have Hr : Hid (checkF ⟨gs, fs⟩ = (7, (k : Int))) := HrK.out _ (by simp [globErr, h1, h2]) (by omega)
      clear hwb
      go_wp2_with (first | (go_at_call 19; ((with_reducible refine (fault_any _ _ _).mono ?_); rintro e w2 ⟨rfl, hb2⟩; obtain ⟨hc2, hf2⟩ := below_cells hb2)) | (go_at_call 20; ((with_reducible refine (name_any _ _).mono ?_); rintro e w' ⟨rfl, rfl⟩)) | (go_at_call 21; ((with_reducible refine (containsStr_any (S := fun b => w.heap.size + 2 ≤ b) _ names _ _ ?_).mono ?_); refine Hnm.out.later rStr_mono ?_; (repeat (first | exact Below.refl _ _ | refine Below.alloc ?_ (by first|omega|(simp<;>omega)) _ | refine Below.setCell ?_ (by first|omega|(simp<;>omega)) _ | refine below_drewN ?_ _ | refine Below.drew ?_)); rintro e w' ⟨rfl, rfl⟩)) | (go_at_call 22; ((with_reducible refine (within_any _ _ _ _).mono ?_); rintro e w' ⟨rfl, rfl⟩)))
      have hq : Below wr.heap.size wr w2 := by (have hz0 := (hb2).size; have hy0 := hz0; (try simp at hy0); repeat (first | exact Below.refl _ _ | refine Below.trans ?_ ((hb2).mono (by first|omega|(simp<;>omega))) | refine Below.alloc ?_ (by first|omega|(simp<;>omega)) _ | refine Below.setCell ?_ (by first|omega|(simp<;>omega)) _ | refine below_drewN ?_ _ | refine Below.drew ?_))
      have q := set_two (u := .int .i64 (checkF ⟨gs, fs⟩).1) (v := .int .i64 (checkF ⟨gs, fs⟩).2) (cell_later' R0.out hq) (cell_later' R1.out hq)
      rw [Hr.out] at q ⊢
      refine bodyPost_ret (res_two rfl rfl q.1 q.2) rfl ⟨rfl, ?_⟩
      have h := Hwr.out; (have hz0 := (hb2).size; have hy0 := hz0; (try simp at hy0); have hz1 := (h).size; have hy1 := hz1; (try simp at hy1); repeat (first | exact Below.refl _ _ | refine Below.trans ?_ ((hb2).mono (by first|omega|(simp<;>omega))) | refine Below.trans ?_ ((h).mono (by first|omega|(simp<;>omega))) | refine Below.alloc ?_ (by first|omega|(simp<;>omega)) _ | refine Below.setCell ?_ (by first|omega|(simp<;>omega)) _ | refine below_drewN ?_ _ | refine Below.drew ?_))
    have h2' : hasStr names g.name = false := by simpa using h2
    clear h2
    by_cases h3 : 1 ≤ g.size ∧ g.size ≤ 200
    case neg =>
     have Hr : Hid (checkF ⟨gs, fs⟩ = (3, (k : Int))) := HrK.out _ (by simp only [globErr, h1, h2', h3]; simp) (by omega)
     clear hwb
     go_wp2_with (first | (go_at_call 19; ((with_reducible refine (fault_any _ _ _).mono ?_); rintro e w2 ⟨rfl, hb2⟩; obtain ⟨hc2, hf2⟩ := below_cells hb2)) | (go_at_call 20; ((with_reducible refine (name_any _ _).mono ?_); rintro e w' ⟨rfl, rfl⟩)) | (go_at_call 21; ((with_reducible refine (containsStr_any (S := fun b => w.heap.size + 2 ≤ b) _ names _ _ ?_).mono ?_); refine Hnm.out.later rStr_mono ?_; (repeat (first | exact Below.refl _ _ | refine Below.alloc ?_ (by first|omega|(simp<;>omega)) _ | refine Below.setCell ?_ (by first|omega|(simp<;>omega)) _ | refine below_drewN ?_ _ | refine Below.drew ?_)); rintro e w' ⟨rfl, rfl⟩)) | (go_at_call 22; ((with_reducible refine (within_any _ _ _ _).mono ?_); rintro e w' ⟨rfl, rfl⟩)))
     have hq : Below wr.heap.size wr w2 := by (have hz0 := (hb2).size; have hy0 := hz0; (try simp at hy0); repeat (first | exact Below.refl _ _ | refine Below.trans ?_ ((hb2).mono (by first|omega|(simp<;>omega))) | refine Below.alloc ?_ (by first|omega|(simp<;>omega)) _ | refine Below.setCell ?_ (by first|omega|(simp<;>omega)) _ | refine below_drewN ?_ _ | refine Below.drew ?_))
     have q := set_two (u := .int .i64 (checkF ⟨gs, fs⟩).1) (v := .int .i64 (checkF ⟨gs, fs⟩).2) (cell_later' R0.out hq) (cell_later' R1.out hq)
     rw [Hr.out] at q ⊢
     refine bodyPost_ret (res_two rfl rfl q.1 q.2) rfl ⟨rfl, ?_⟩
     have h := Hwr.out; (have hz0 := (hb2).size; have hy0 := hz0; (try simp at hy0); have hz1 := (h).size; have hy1 := hz1; (try simp at hy1); repeat (first | exact Below.refl _ _ | refine Below.trans ?_ ((hb2).mono (by first|omega|(simp<;>omega))) | refine Below.trans ?_ ((h).mono (by first|omega|(simp<;>omega))) | refine Below.alloc ?_ (by first|omega|(simp<;>omega)) _ | refine Below.setCell ?_ (by first|omega|(simp<;>omega)) _ | refine below_drewN ?_ _ | refine Below.drew ?_))
    by_cases h4 : g.size < (g.init.length : Int)
    · have Hr : Hid (checkF ⟨gs, fs⟩ = (9, (k : Int))) := HrK.out _ (by simp only [globErr, h1, h2', h3, h4]; simp) (by omega)
      clear hwb
      go_wp2_with (first | (go_at_call 19; ((with_reducible refine (fault_any _ _ _).mono ?_); rintro e w2 ⟨rfl, hb2⟩; obtain ⟨hc2, hf2⟩ := below_cells hb2)) | (go_at_call 20; ((with_reducible refine (name_any _ _).mono ?_); rintro e w' ⟨rfl, rfl⟩)) | (go_at_call 21; ((with_reducible refine (containsStr_any (S := fun b => w.heap.size + 2 ≤ b) _ names _ _ ?_).mono ?_); refine Hnm.out.later rStr_mono ?_; (repeat (first | exact Below.refl _ _ | refine Below.alloc ?_ (by first|omega|(simp<;>omega)) _ | refine Below.setCell ?_ (by first|omega|(simp<;>omega)) _ | refine below_drewN ?_ _ | refine Below.drew ?_)); rintro e w' ⟨rfl, rfl⟩)) | (go_at_call 22; ((with_reducible refine (within_any _ _ _ _).mono ?_); rintro e w' ⟨rfl, rfl⟩)))
      have hq : Below wr.heap.size wr w2 := by (have hz0 := (hb2).size; have hy0 := hz0; (try simp at hy0); repeat (first | exact Below.refl _ _ | refine Below.trans ?_ ((hb2).mono (by first|omega|(simp<;>omega))) | refine Below.alloc ?_ (by first|omega|(simp<;>omega)) _ | refine Below.setCell ?_ (by first|omega|(simp<;>omega)) _ | refine below_drewN ?_ _ | refine Below.drew ?_))
      have q := set_two (u := .int .i64 (checkF ⟨gs, fs⟩).1) (v := .int .i64 (checkF ⟨gs, fs⟩).2) (cell_later' R0.out hq) (cell_later' R1.out hq)
      rw [Hr.out] at q ⊢
      refine bodyPost_ret (res_two rfl rfl q.1 q.2) rfl ⟨rfl, ?_⟩
      have h := Hwr.out; (have hz0 := (hb2).size; have hy0 := hz0; (try simp at hy0); have hz1 := (h).size; have hy1 := hz1; (try simp at hy1); repeat (first | exact Below.refl _ _ | refine Below.trans ?_ ((hb2).mono (by first|omega|(simp<;>omega))) | refine Below.trans ?_ ((h).mono (by first|omega|(simp<;>omega))) | refine Below.alloc ?_ (by first|omega|(simp<;>omega)) _ | refine Below.setCell ?_ (by first|omega|(simp<;>omega)) _ | refine below_drewN ?_ _ | refine Below.drew ?_))
    by_cases h5 : 200 < words + g.size
    · have Hr : Hid (checkF ⟨gs, fs⟩ = (10, (k : Int))) := HrK.out _ (by simp only [globErr, h1, h2', h3, h4, h5]; simp) (by omega)
      go_wp2_with (first | (go_at_call 19; ((with_reducible refine (fault_any _ _ _).mono ?_); rintro e w2 ⟨rfl, hb2⟩; obtain ⟨hc2, hf2⟩ := below_cells hb2)) | (go_at_call 20; ((with_reducible refine (name_any _ _).mono ?_); rintro e w' ⟨rfl, rfl⟩)) | (go_at_call 21; ((with_reducible refine (containsStr_any (S := fun b => w.heap.size + 2 ≤ b) _ names _ _ ?_).mono ?_); refine Hnm.out.later rStr_mono ?_; (repeat (first | exact Below.refl _ _ | refine Below.alloc ?_ (by first|omega|(simp<;>omega)) _ | refine Below.setCell ?_ (by first|omega|(simp<;>omega)) _ | refine below_drewN ?_ _ | refine Below.drew ?_)); rintro e w' ⟨rfl, rfl⟩)) | (go_at_call 22; ((with_reducible refine (within_any _ _ _ _).mono ?_); rintro e w' ⟨rfl, rfl⟩)))
      have hq : Below wr.heap.size wr w2 := by (have hz0 := (hb2).size; have hy0 := hz0; (try simp at hy0); repeat (first | exact Below.refl _ _ | refine Below.trans ?_ ((hb2).mono (by first|omega|(simp<;>omega))) | refine Below.alloc ?_ (by first|omega|(simp<;>omega)) _ | refine Below.setCell ?_ (by first|omega|(simp<;>omega)) _ | refine below_drewN ?_ _ | refine Below.drew ?_))
      have q := set_two (u := .int .i64 (checkF ⟨gs, fs⟩).1) (v := .int .i64 (checkF ⟨gs, fs⟩).2) (cell_later' R0.out hq) (cell_later' R1.out hq)
      rw [Hr.out] at q ⊢
      refine bodyPost_ret (res_two rfl rfl q.1 q.2) rfl ⟨rfl, ?_⟩
      have h := Hwr.out; (have hz0 := (hb2).size; have hy0 := hz0; (try simp at hy0); have hz1 := (h).size; have hy1 := hz1; (try simp at hy1); repeat (first | exact Below.refl _ _ | refine Below.trans ?_ ((hb2).mono (by first|omega|(simp<;>omega))) | refine Below.trans ?_ ((h).mono (by first|omega|(simp<;>omega))) | refine Below.alloc ?_ (by first|omega|(simp<;>omega)) _ | refine Below.setCell ?_ (by first|omega|(simp<;>omega)) _ | refine below_drewN ?_ _ | refine Below.drew ?_))
    have He0 : Hid (globE gs k = 0) := by
     show globE gs k = 0
     rw [Hgk.out, ← Hge.out, ← Hnames.out, ← Hwords.out]
     simp only [globErr, h1, h2', h3, h4, h5]; simp
    have hnn : names.length ≤ 10 := by rw [Hnames.out]; simp [gNames]; omega
    have Hnn := hid hnn
    clear hnn
    go_wp2_with (first | (at_builtin; refine wpList_append_own _ rfl _ _ 46 rfl (w.heap.size + 2) 9 i0 (.string ByteArray.empty) 1 16 Tryz.underlying46 hi hz0 hz1 hz2 rfl (by decide) _ _ _ rfl ((Hown.out.alloc _).alloc _) ⟨wr.heap.size + 1, 0, none⟩ 1 1 [.string g.name] rfl rfl ?_ ?_ ?_ ?_ ?_ ?_) | (go_at_call 19; ((with_reducible refine (fault_any _ _ _).mono ?_); rintro e w2 ⟨rfl, hb2⟩; obtain ⟨hc2, hf2⟩ := below_cells hb2)) | (go_at_call 20; ((with_reducible refine (name_any _ _).mono ?_); rintro e w' ⟨rfl, rfl⟩)) | (go_at_call 21; ((with_reducible refine (containsStr_any (S := fun b => w.heap.size + 2 ≤ b) _ names _ _ ?_).mono ?_); refine Hnm.out.later rStr_mono ?_; (repeat (first | exact Below.refl _ _ | refine Below.alloc ?_ (by first|omega|(simp<;>omega)) _ | refine Below.setCell ?_ (by first|omega|(simp<;>omega)) _ | refine below_drewN ?_ _ | refine Below.drew ?_)); rintro e w' ⟨rfl, rfl⟩)) | (go_at_call 22; ((with_reducible refine (within_any _ _ _ _).mono ?_); rintro e w' ⟨rfl, rfl⟩)))
    · have h := cell_one_new (wr.alloc (.cells #[.string g.name, .int .i64 g.size, .slice xa g.init.length xc] 48)) (.string g.name) 9
      simpa using h
    · intro u hu; simp at hu; subst hu; rfl
    · have := Hnn.out; simp; unfold maxLen; omega
    · have := Hnn.out; simp; omega
    · simp; omega
    · intro v' w2 hown hgrow hnil
      have Hown2 := hid hown
      have Hbw2 : Hid (Below (w.heap.size + 2) ((w.alloc (.cells #[.slice (some ⟨b, off, none⟩) gs.length gc, .slice fa fs.length fc] 25)).alloc (.cells #[.int .i64 0, .int .i64 0] 27)) w2) := by
       refine ((Hbw.out.alloc (by omega) _).alloc (by simp; omega) _).grown hgrow (by simp; omega) (fun q hq => ?_)
       exact ((Hown.out.lt q hq).1)
      have hsz2 := Hbw2.out.size
      have hgs := hgrow.size
      have e1 : w2.cell? ⟨wr.heap.size, 1, none⟩ = some (.int .i64 g.size) := hgrow.cell (by simp) (fun h => absurd (Hown.out.lt _ h.symm).2 (Nat.lt_irrefl _))
      have Hwr2 : Hid (Below w.heap.size w w2) := (HW0.out _ _).trans (Hbw2.out.mono (by omega))
      clear hown hgrow hnil hsz2 hgs
      go_wp2_with fail
      go_roundw
      case rel =>
       refine ⟨k + 1, _, by omega, by go_num, rfl, ?_, ext_lt Hall.out He0.out, ?_, Hbw2.out⟩
       · rw [wordsUp_succ hlt, ← Hwords.out, ← Hge.out]
       · rw [gNames_succ hlt, ← Hnames.out, ← Hge.out]
         simpa using Hown2.out
      case measure => simp [intOf]; omega
  · obtain rfl : k = gs.length := by omega
    have Hp1 : Hid (posF (globE gs) gs.length = gs.length) := posF_all Hall.out
    have Hown1 : Hid (wr.ownsRow (w.heap.size + 2) 9 1 (.slice na (gNames gs gs.length).length nc) (fNames gs fs 0).length ((fNames gs fs 0).map Value.string)) := by
     have : fNames gs fs 0 = gNames gs gs.length := by simp [fNames]
     rw [this]; exact Hown.out
    go_wp2_with fail
    obtain ⟨wl, rfl⟩ : ∃ wl : World, wl = wr := ⟨_, rfl⟩
    have Hbl := hid Hbw.out
    clear hc1 hf1 R0 R1 Hnm hnl hwb Hown
    go_loopw [3, 82] (fun v3 i wr => ∃ (k : Nat) (nv : Value), k ≤ fs.length ∧ i = .int .i64 k ∧ nv = v3 ∧ (∀ j, j < k → headsE gs fs j = 0) ∧ wr.ownsRow (w.heap.size + 2) 9 1 nv (fNames gs fs k).length ((fNames gs fs k).map Value.string) ∧ Below (w.heap.size + 2) ((w.alloc (.cells #[.slice ga gs.length gc, .slice fa fs.length fc] 25)).alloc (.cells #[.int .i64 0, .int .i64 0] 27)) wr) (fun _ i _ => fs.length - (intOf i).toNat)
    case atStart => exact ⟨0, _, Nat.zero_le _, rfl, rfl, fun j hj => by omega, Hown1.out, Hbl.out⟩
    case round =>
     obtain ⟨k, nv, hk, rfl, rfl, hall, hown, hbw⟩ := hrel
     have Hall2 := hid hall
     have Hown := hid hown
     have Hbw := hid hbw
     have Hwr : Hid (Below w.heap.size w wr) := (HW0.out _ _).trans (hbw.mono (by omega))
     have Hnm : Hid (SlAt (fun b => w.heap.size + 2 ≤ b) wr 1 rStr nv (fNames gs fs k)) := own_strs hown
     obtain ⟨na, nc, rfl, hnl⟩ := Hnm.out.val
     obtain ⟨hc1, hf1⟩ := below_cells hbw
     have hz3 : w.heap.size + 1 < wr.heap.size := by have := hbw.size; simp at this; omega
     have hz4 : w.heap.size < wr.heap.size := by omega
     have R0 : Hid (wr.cell? ⟨w.heap.size + 1, 0, none⟩ = some (.int .i64 0)) := by show _ = _; rw [hc1 _ _ (by omega)]; simp
     have R1 : Hid (wr.cell? ⟨w.heap.size + 1, 1, none⟩ = some (.int .i64 0)) := by show _ = _; rw [hc1 _ _ (by omega)]; simp
     have F0 : Hid (wr.frozen? ⟨w.heap.size + 1, 0, none⟩ = false) := by show _ = _; rw [hf1 _ _ (by omega)]; simp
     have F1 : Hid (wr.frozen? ⟨w.heap.size + 1, 1, none⟩ = false) := by show _ = _; rw [hf1 _ _ (by omega)]; simp
     clear hall hown hbw
     by_cases hlt : k < fs.length
     · obtain ⟨b, off, cs, rfl, -, hx, -, hcs⟩ := Hf.out.get hlt
       obtain ⟨xa, xc, rfl, hbs, hxl, hp64, hr64⟩ := hx.opens
       obtain ⟨c0, c1, c2, c3⟩ := (hcs.later Hwr.out).get4
       have Hbs := hid hbs
       have Hp64 := hid hp64
       have Hr64 := hid hr64
       have Hmm : Hid (manyOf fs[k].blocks ≤ 1048576) := (Hsm.out k _ (List.getElem?_eq_getElem hlt)).1
       have Hgk : Hid (headsE gs fs k = headE (fNames gs fs k) fs[k]) := by show headsE gs fs k = _; unfold headsE; rw [List.getElem?_eq_getElem hlt]
       obtain ⟨names, hnames⟩ : ∃ names, names = fNames gs fs k := ⟨_, rfl⟩
       obtain ⟨f, hfe⟩ : ∃ f, f = fs[k] := ⟨_, rfl⟩
       rw [← hnames] at Hnm Hown hnl Hgk ⊢
       rw [← hfe] at c0 c1 c2 c3 hxl Hbs Hp64 Hr64 Hmm Hgk
       have Hnames := hid hnames
       have Hfe := hid hfe
       clear hcs hx hbs hp64 hr64 hnames hfe
       by_cases hz : headE names f = 0
       case neg =>
        have hz' := ne_yes hz
        have Hr : Hid (checkF ⟨gs, fs⟩ = (headE names f, (k : Int))) := by
         have h := posF_at Hall2.out hlt (by rw [Hgk.out]; exact hz)
         show checkF ⟨gs, fs⟩ = _
         unfold checkF
         dsimp only
         rw [if_neg Hlen.out, Hp1.out, if_neg (Nat.lt_irrefl _), h, if_pos hlt, Hgk.out]
        clear hz
        go_wp2_with (first | (go_at_call 19; ((with_reducible refine (fault_any _ _ _).mono ?_); rintro e w2 ⟨rfl, hb2⟩; have hq : Below wr.heap.size wr w2 := (by (have hz0 := (hb2).size; have hy0 := hz0; (try simp at hy0); have hz1 := (hb5).size; have hy1 := hz1; (try simp at hy1); repeat (first | exact Below.refl _ _ | refine Below.trans ?_ ((hb2).mono (by first|omega|(simp<;>omega))) | refine Below.trans ?_ ((hb5).mono (by first|omega|(simp<;>omega))) | refine Below.alloc ?_ (by first|omega|(simp<;>omega)) _ | refine Below.setCell ?_ (by first|omega|(simp<;>omega)) _ | refine below_drewN ?_ _ | refine Below.drew ?_))); have g0 := cell_later' R0.out hq; have g1 := cell_later' R1.out hq; have f0 := (hq.frozen (p := ⟨w.heap.size + 1, 0, none⟩) hz3).trans F0.out; have f1 := (hq.frozen (p := ⟨w.heap.size + 1, 1, none⟩) hz3).trans F1.out)) | (go_at_call 23; ((with_reducible refine (head_any (S := S) (S' := fun b => w.heap.size + 2 ≤ b) _ _ f _ _ _ names _ ?_ ?_ Hmm.out Hp64.out Hr64.out).mono ?_); refine Hbs.out.later rBlock_mono ?_; have h := Hwr.out; (have hz0 := (h).size; have hy0 := hz0; (try simp at hy0); repeat (first | exact Below.refl _ _ | refine Below.trans ?_ ((h).mono (by first|omega|(simp<;>omega))) | refine Below.alloc ?_ (by first|omega|(simp<;>omega)) _ | refine Below.setCell ?_ (by first|omega|(simp<;>omega)) _ | refine below_drewN ?_ _ | refine Below.drew ?_)); refine Hnm.out.later rStr_mono ?_; (repeat (first | exact Below.refl _ _ | refine Below.alloc ?_ (by first|omega|(simp<;>omega)) _ | refine Below.setCell ?_ (by first|omega|(simp<;>omega)) _ | refine below_drewN ?_ _ | refine Below.drew ?_)); rintro e w5 ⟨rfl, hb5⟩; have hz5 : wr.heap.size + 1 < w5.heap.size := (by have := hb5.size; simp at this; omega); obtain ⟨hc5, hf5⟩ := below_cells hb5; have Hown5 := hid (ownsRow_later Hown.out (by (have hz0 := (hb5).size; have hy0 := hz0; (try simp at hy0); repeat (first | exact Below.refl _ _ | refine Below.trans ?_ ((hb5).mono (by first|omega|(simp<;>omega))) | refine Below.alloc ?_ (by first|omega|(simp<;>omega)) _ | refine Below.setCell ?_ (by first|omega|(simp<;>omega)) _ | refine below_drewN ?_ _ | refine Below.drew ?_)) : Below wr.heap.size wr w5)))))
        have q := set_two (u := .int .i64 (checkF ⟨gs, fs⟩).1) (v := .int .i64 (checkF ⟨gs, fs⟩).2) (cell_later' R0.out hq) (cell_later' R1.out hq)
        rw [Hr.out] at q ⊢
        refine bodyPost_ret (res_two rfl rfl q.1 q.2) rfl ⟨rfl, ?_⟩
        have h := Hwr.out; (have hz0 := (hb2).size; have hy0 := hz0; (try simp at hy0); have hz1 := (hb5).size; have hy1 := hz1; (try simp at hy1); have hz2 := (h).size; have hy2 := hz2; (try simp at hy2); repeat (first | exact Below.refl _ _ | refine Below.trans ?_ ((hb2).mono (by first|omega|(simp<;>omega))) | refine Below.trans ?_ ((hb5).mono (by first|omega|(simp<;>omega))) | refine Below.trans ?_ ((h).mono (by first|omega|(simp<;>omega))) | refine Below.alloc ?_ (by first|omega|(simp<;>omega)) _ | refine Below.setCell ?_ (by first|omega|(simp<;>omega)) _ | refine below_drewN ?_ _ | refine Below.drew ?_))
       have He0 : Hid (headsE gs fs k = 0) := Hgk.out.trans hz
       have hnn : names.length ≤ 20 := by rw [Hnames.out]; simp [fNames, gNames]; omega
       have Hnn := hid hnn
       clear hnn
       go_wp2_with (first | (at_builtin; refine wpList_append_own _ rfl _ _ 46 rfl (w.heap.size + 2) 9 i0 (.string ByteArray.empty) 1 16 Tryz.underlying46 hi hz0 hz1 hz2 rfl (by decide) _ _ _ rfl (Hown5.out.alloc _) ⟨w5.heap.size, 0, none⟩ 1 1 [.string f.name] rfl rfl (cell_one_new _ _ _) ?_ ?_ ?_ ?_ ?_) | (go_at_call 23; ((with_reducible refine (head_any (S := S) (S' := fun b => w.heap.size + 2 ≤ b) _ _ f _ _ _ names _ ?_ ?_ Hmm.out Hp64.out Hr64.out).mono ?_); refine Hbs.out.later rBlock_mono ?_; have h := Hwr.out; (have hz0 := (h).size; have hy0 := hz0; (try simp at hy0); repeat (first | exact Below.refl _ _ | refine Below.trans ?_ ((h).mono (by first|omega|(simp<;>omega))) | refine Below.alloc ?_ (by first|omega|(simp<;>omega)) _ | refine Below.setCell ?_ (by first|omega|(simp<;>omega)) _ | refine below_drewN ?_ _ | refine Below.drew ?_)); refine Hnm.out.later rStr_mono ?_; (repeat (first | exact Below.refl _ _ | refine Below.alloc ?_ (by first|omega|(simp<;>omega)) _ | refine Below.setCell ?_ (by first|omega|(simp<;>omega)) _ | refine below_drewN ?_ _ | refine Below.drew ?_)); rintro e w5 ⟨rfl, hb5⟩; have hz5 : wr.heap.size + 1 < w5.heap.size := (by have := hb5.size; simp at this; omega); obtain ⟨hc5, hf5⟩ := below_cells hb5; have Hown5 := hid (ownsRow_later Hown.out (by (have hz0 := (hb5).size; have hy0 := hz0; (try simp at hy0); repeat (first | exact Below.refl _ _ | refine Below.trans ?_ ((hb5).mono (by first|omega|(simp<;>omega))) | refine Below.alloc ?_ (by first|omega|(simp<;>omega)) _ | refine Below.setCell ?_ (by first|omega|(simp<;>omega)) _ | refine below_drewN ?_ _ | refine Below.drew ?_)) : Below wr.heap.size wr w5)))))
       · intro u hu; simp at hu; subst hu; rfl
       · have := Hnn.out; simp; unfold maxLen; omega
       · have := Hnn.out; simp; omega
       · have := Hbw.out.size; simp at this; simp; omega
       · intro v' w6 hown hgrow hnil
         have Hown6 := hid hown
         have Hbw6 : Hid (Below (w.heap.size + 2) ((w.alloc (.cells #[.slice ga gs.length gc, .slice (some ⟨b, off, none⟩) fs.length fc] 25)).alloc (.cells #[.int .i64 0, .int .i64 0] 27)) w6) := by
          have hq : Below wr.heap.size wr w5 := by (have hz0 := (hb5).size; have hy0 := hz0; (try simp at hy0); repeat (first | exact Below.refl _ _ | refine Below.trans ?_ ((hb5).mono (by first|omega|(simp<;>omega))) | refine Below.alloc ?_ (by first|omega|(simp<;>omega)) _ | refine Below.setCell ?_ (by first|omega|(simp<;>omega)) _ | refine below_drewN ?_ _ | refine Below.drew ?_))
          refine (((Hbw.out.trans (hq.mono (by omega))).alloc (by omega) _)).grown hgrow (by simp; omega) (fun q hq => ?_)
          exact ((Hown.out.lt q hq).1)
         clear hown hgrow hnil
         go_wp2_with fail
         go_roundw
         case rel =>
          refine ⟨k + 1, _, by omega, by go_num, rfl, ext_lt Hall2.out He0.out, ?_, Hbw6.out⟩
          rw [fNames_succ hlt, ← Hnames.out, ← Hfe.out]
          simpa using Hown6.out
         case measure => simp [intOf]; omega
     · obtain rfl : k = fs.length := by omega
       have Hp2 : Hid (posF (headsE gs fs) fs.length = fs.length) := posF_all Hall2.out
       have Hok : Hid (∀ (j : Nat) (x : DFunc), fs[j]? = some x → 0 ≤ x.regs ∧ x.regs ≤ 100) := fun j x hx => by
        have hj := (List.getElem?_eq_some_iff.1 hx).1
        have := Hall2.out j hj
        unfold headsE at this
        rw [hx] at this
        have h := headE_ok this
        omega
       go_wp2_with fail
       obtain ⟨wl2, rfl⟩ : ∃ wl2 : World, wl2 = wr := ⟨_, rfl⟩
       have Hbl2 := hid Hbw.out
       clear hc1 hf1 R0 R1 F0 F1 Hnm hnl Hown
       go_loopw [107] (fun i wr => ∃ k : Nat, k ≤ fs.length ∧ i = .int .i64 k ∧ (∀ j, j < k → bodiesE fs j = 0) ∧ Below (w.heap.size + 2) ((w.alloc (.cells #[.slice ga gs.length gc, .slice fa fs.length fc] 25)).alloc (.cells #[.int .i64 0, .int .i64 0] 27)) wr) (fun i _ => fs.length - (intOf i).toNat)
       case atStart => exact ⟨0, Nat.zero_le _, rfl, fun j hj => by omega, Hbl2.out⟩
       case round =>
        obtain ⟨k, hk, rfl, hall, hbw⟩ := hrel
        have Hall3 := hid hall
        have Hbw := hid hbw
        have Hwr : Hid (Below w.heap.size w wr) := (HW0.out _ _).trans (hbw.mono (by omega))
        obtain ⟨hc1, hf1⟩ := below_cells hbw
        have hz3 : w.heap.size + 1 < wr.heap.size := by have := hbw.size; simp at this; omega
        have hz4 : w.heap.size < wr.heap.size := by omega
        have R0 : Hid (wr.cell? ⟨w.heap.size + 1, 0, none⟩ = some (.int .i64 0)) := by show _ = _; rw [hc1 _ _ (by omega)]; simp
        have R1 : Hid (wr.cell? ⟨w.heap.size + 1, 1, none⟩ = some (.int .i64 0)) := by show _ = _; rw [hc1 _ _ (by omega)]; simp
        have F0 : Hid (wr.frozen? ⟨w.heap.size + 1, 0, none⟩ = false) := by show _ = _; rw [hf1 _ _ (by omega)]; simp
        have F1 : Hid (wr.frozen? ⟨w.heap.size + 1, 1, none⟩ = false) := by show _ = _; rw [hf1 _ _ (by omega)]; simp
        clear hall hbw
        by_cases hlt : k < fs.length
        · obtain ⟨b, off, cs, rfl, -, hx, -, hcs⟩ := Hf.out.get hlt
          obtain ⟨xa, xc, rfl, hbs, hxl, hp64, hr64⟩ := hx.opens
          obtain ⟨c0, c1, c2, c3⟩ := (hcs.later Hwr.out).get4
          have Hbs := hid hbs
          have Hbb : Hid (fs[k].blocks.length ≤ 1048576) := (Hsm.out k _ (List.getElem?_eq_getElem hlt)).2
          have Hr0 : Hid (0 ≤ fs[k].regs) := (Hok.out k _ (List.getElem?_eq_getElem hlt)).1
          have Hr1 : Hid (fs[k].regs ≤ 100) := (Hok.out k _ (List.getElem?_eq_getElem hlt)).2
          have Hgk : Hid (bodiesE fs k = bodyE fs fs[k]) := by show bodiesE fs k = _; unfold bodiesE; rw [List.getElem?_eq_getElem hlt]
          obtain ⟨f, hfe⟩ : ∃ f, f = fs[k] := ⟨_, rfl⟩
          rw [← hfe] at c0 c1 c2 c3 hxl Hbs Hbb Hr0 Hr1 Hgk
          have Hfe := hid hfe
          have Hfl := hid hfl10
          clear hcs hx hbs hp64 hr64 hfe
          by_cases hz : bodyE fs f = 0
          · go_wp2_with (go_at_call 24; go_must ((with_reducible refine (body_any (S := S) (S' := S) _ _ _ fs _ _ f _ _ _ _ _ _ Hr0.out Hr1.out ?_ ?_ (Nat.le_trans Hfl.out (by omega)) Hbb.out ?_).mono ?_); refine Hf.out.later rFunc_mono ?_; have h := Hwr.out; (have hz0 := (h).size; have hy0 := hz0; (try simp at hy0); repeat (first | exact Below.refl _ _ | refine Below.trans ?_ ((h).mono (by first|omega|(simp<;>omega))) | refine Below.alloc ?_ (by first|omega|(simp<;>omega)) _ | refine Below.setCell ?_ (by first|omega|(simp<;>omega)) _ | refine below_drewN ?_ _ | refine Below.drew ?_)); refine Hbs.out.later rBlock_mono ?_; have h := Hwr.out; (have hz0 := (h).size; have hy0 := hz0; (try simp at hy0); repeat (first | exact Below.refl _ _ | refine Below.trans ?_ ((h).mono (by first|omega|(simp<;>omega))) | refine Below.alloc ?_ (by first|omega|(simp<;>omega)) _ | refine Below.setCell ?_ (by first|omega|(simp<;>omega)) _ | refine below_drewN ?_ _ | refine Below.drew ?_)); refine Ways.below Hw.out ?_; have h := Hwr.out; (have hz0 := (h).size; have hy0 := hz0; (try simp at hy0); repeat (first | exact Below.refl _ _ | refine Below.trans ?_ ((h).mono (by first|omega|(simp<;>omega))) | refine Below.alloc ?_ (by first|omega|(simp<;>omega)) _ | refine Below.setCell ?_ (by first|omega|(simp<;>omega)) _ | refine below_drewN ?_ _ | refine Below.drew ?_)); rintro e w5 ⟨rfl, hb5⟩; have hz5 : wr.heap.size + 1 < w5.heap.size := (by have := hb5.size; simp at this; omega); obtain ⟨hc5, hf5⟩ := below_cells hb5))
            go_roundw
            case rel => exact ⟨k + 1, by omega, by go_num, ext_lt Hall3.out (Hgk.out.trans hz), by have h := Hbw.out; (have hz0 := (hb5).size; have hy0 := hz0; (try simp at hy0); have hz1 := (h).size; have hy1 := hz1; (try simp at hy1); repeat (first | exact Below.refl _ _ | refine Below.trans ?_ ((hb5).mono (by first|omega|(simp<;>omega))) | refine Below.trans ?_ ((h).mono (by first|omega|(simp<;>omega))) | refine Below.alloc ?_ (by first|omega|(simp<;>omega)) _ | refine Below.setCell ?_ (by first|omega|(simp<;>omega)) _ | refine below_drewN ?_ _ | refine Below.drew ?_))⟩
            case measure => simp [intOf]; omega
          · have hz' := ne_yes hz
            have Hr : Hid (checkF ⟨gs, fs⟩ = (bodyE fs f, (k : Int))) := by
             have h := posF_at Hall3.out hlt (by rw [Hgk.out]; exact hz)
             show checkF ⟨gs, fs⟩ = _
             unfold checkF
             dsimp only
             rw [if_neg Hlen.out, Hp1.out, if_neg (Nat.lt_irrefl _), Hp2.out, if_neg (Nat.lt_irrefl _), h, if_pos hlt, Hgk.out]
            clear hz
            go_wp2_with (first | (go_at_call 19; ((with_reducible refine (fault_any _ _ _).mono ?_); rintro e w2 ⟨rfl, hb2⟩; have hq : Below wr.heap.size wr w2 := (by (have hz0 := (hb2).size; have hy0 := hz0; (try simp at hy0); have hz1 := (hb5).size; have hy1 := hz1; (try simp at hy1); repeat (first | exact Below.refl _ _ | refine Below.trans ?_ ((hb2).mono (by first|omega|(simp<;>omega))) | refine Below.trans ?_ ((hb5).mono (by first|omega|(simp<;>omega))) | refine Below.alloc ?_ (by first|omega|(simp<;>omega)) _ | refine Below.setCell ?_ (by first|omega|(simp<;>omega)) _ | refine below_drewN ?_ _ | refine Below.drew ?_))); have g0 := cell_later' R0.out hq; have g1 := cell_later' R1.out hq; have f0 := (hq.frozen (p := ⟨w.heap.size + 1, 0, none⟩) hz3).trans F0.out; have f1 := (hq.frozen (p := ⟨w.heap.size + 1, 1, none⟩) hz3).trans F1.out)) | (go_at_call 24; go_must ((with_reducible refine (body_any (S := S) (S' := S) _ _ _ fs _ _ f _ _ _ _ _ _ Hr0.out Hr1.out ?_ ?_ (Nat.le_trans Hfl.out (by omega)) Hbb.out ?_).mono ?_); refine Hf.out.later rFunc_mono ?_; have h := Hwr.out; (have hz0 := (h).size; have hy0 := hz0; (try simp at hy0); repeat (first | exact Below.refl _ _ | refine Below.trans ?_ ((h).mono (by first|omega|(simp<;>omega))) | refine Below.alloc ?_ (by first|omega|(simp<;>omega)) _ | refine Below.setCell ?_ (by first|omega|(simp<;>omega)) _ | refine below_drewN ?_ _ | refine Below.drew ?_)); refine Hbs.out.later rBlock_mono ?_; have h := Hwr.out; (have hz0 := (h).size; have hy0 := hz0; (try simp at hy0); repeat (first | exact Below.refl _ _ | refine Below.trans ?_ ((h).mono (by first|omega|(simp<;>omega))) | refine Below.alloc ?_ (by first|omega|(simp<;>omega)) _ | refine Below.setCell ?_ (by first|omega|(simp<;>omega)) _ | refine below_drewN ?_ _ | refine Below.drew ?_)); refine Ways.below Hw.out ?_; have h := Hwr.out; (have hz0 := (h).size; have hy0 := hz0; (try simp at hy0); repeat (first | exact Below.refl _ _ | refine Below.trans ?_ ((h).mono (by first|omega|(simp<;>omega))) | refine Below.alloc ?_ (by first|omega|(simp<;>omega)) _ | refine Below.setCell ?_ (by first|omega|(simp<;>omega)) _ | refine below_drewN ?_ _ | refine Below.drew ?_)); rintro e w5 ⟨rfl, hb5⟩; have hz5 : wr.heap.size + 1 < w5.heap.size := (by have := hb5.size; simp at this; omega); obtain ⟨hc5, hf5⟩ := below_cells hb5)))
            have q := set_two (u := .int .i64 (checkF ⟨gs, fs⟩).1) (v := .int .i64 (checkF ⟨gs, fs⟩).2) (cell_later' R0.out hq) (cell_later' R1.out hq)
            rw [Hr.out] at q ⊢
            refine bodyPost_ret (res_two rfl rfl q.1 q.2) rfl ⟨rfl, ?_⟩
            have h := Hwr.out; (have hz0 := (hb2).size; have hy0 := hz0; (try simp at hy0); have hz1 := (hb5).size; have hy1 := hz1; (try simp at hy1); have hz2 := (h).size; have hy2 := hz2; (try simp at hy2); repeat (first | exact Below.refl _ _ | refine Below.trans ?_ ((hb2).mono (by first|omega|(simp<;>omega))) | refine Below.trans ?_ ((hb5).mono (by first|omega|(simp<;>omega))) | refine Below.trans ?_ ((h).mono (by first|omega|(simp<;>omega))) | refine Below.alloc ?_ (by first|omega|(simp<;>omega)) _ | refine Below.setCell ?_ (by first|omega|(simp<;>omega)) _ | refine below_drewN ?_ _ | refine Below.drew ?_))
        · obtain rfl : k = fs.length := by omega
          have Hp3 : Hid (posF (bodiesE fs) fs.length = fs.length) := posF_all Hall3.out
          have hck : checkF ⟨gs, fs⟩ = lastE fs := by
           unfold checkF
           dsimp only
           rw [if_neg Hlen.out, Hp1.out, if_neg (Nat.lt_irrefl _), Hp2.out, if_neg (Nat.lt_irrefl _), Hp3.out, if_neg (Nat.lt_irrefl _)]
          have Hck := hid hck
          have Hfl := hid hfl10
          clear hck
          by_cases hm : idxMain fs < 0
          · have Hr : Hid (checkF ⟨gs, fs⟩ = (6, 0)) := by show checkF ⟨gs, fs⟩ = _; rw [Hck.out]; unfold lastE; rw [if_pos hm]
            go_wp2_with (first | (go_at_call 19; ((with_reducible refine (fault_any _ _ _).mono ?_); rintro e w2 ⟨rfl, hb2⟩; have hq : Below wr.heap.size wr w2 := (by (have hz0 := (hb2).size; have hy0 := hz0; (try simp at hy0); have hz1 := (hb5).size; have hy1 := hz1; (try simp at hy1); repeat (first | exact Below.refl _ _ | refine Below.trans ?_ ((hb2).mono (by first|omega|(simp<;>omega))) | refine Below.trans ?_ ((hb5).mono (by first|omega|(simp<;>omega))) | refine Below.alloc ?_ (by first|omega|(simp<;>omega)) _ | refine Below.setCell ?_ (by first|omega|(simp<;>omega)) _ | refine below_drewN ?_ _ | refine Below.drew ?_))); have g0 := cell_later' R0.out hq; have g1 := cell_later' R1.out hq; have f0 := (hq.frozen (p := ⟨w.heap.size + 1, 0, none⟩) hz3).trans F0.out; have f1 := (hq.frozen (p := ⟨w.heap.size + 1, 1, none⟩) hz3).trans F1.out)) | (go_at_call 25; ((with_reducible refine (indexMain_any (S := S) _ _ fs _ ?_ (Nat.le_trans Hfl.out (by omega))).mono ?_); refine Hf.out.later rFunc_mono ?_; have h := Hwr.out; (have hz0 := (h).size; have hy0 := hz0; (try simp at hy0); repeat (first | exact Below.refl _ _ | refine Below.trans ?_ ((h).mono (by first|omega|(simp<;>omega))) | refine Below.alloc ?_ (by first|omega|(simp<;>omega)) _ | refine Below.setCell ?_ (by first|omega|(simp<;>omega)) _ | refine below_drewN ?_ _ | refine Below.drew ?_)); rintro e w5 ⟨rfl, hb5⟩; have hz5 : w.heap.size + 1 < w5.heap.size := (by have := hb5.size; omega); have hz6 : w.heap.size < w5.heap.size := (by omega); obtain ⟨hc5, hf5⟩ := below_cells hb5; have g0 := cell_later' R0.out hb5; have g1 := cell_later' R1.out hb5; have f0 := (hb5.frozen (p := ⟨w.heap.size + 1, 0, none⟩) hz3).trans F0.out; have f1 := (hb5.frozen (p := ⟨w.heap.size + 1, 1, none⟩) hz3).trans F1.out)))
            have q := set_two (u := .int .i64 (checkF ⟨gs, fs⟩).1) (v := .int .i64 (checkF ⟨gs, fs⟩).2) (cell_later' R0.out hq) (cell_later' R1.out hq)
            rw [Hr.out] at q ⊢
            refine bodyPost_ret (res_two rfl rfl q.1 q.2) rfl ⟨rfl, ?_⟩
            have h := Hwr.out; (have hz0 := (hb2).size; have hy0 := hz0; (try simp at hy0); have hz1 := (hb5).size; have hy1 := hz1; (try simp at hy1); have hz2 := (h).size; have hy2 := hz2; (try simp at hy2); repeat (first | exact Below.refl _ _ | refine Below.trans ?_ ((hb2).mono (by first|omega|(simp<;>omega))) | refine Below.trans ?_ ((hb5).mono (by first|omega|(simp<;>omega))) | refine Below.trans ?_ ((h).mono (by first|omega|(simp<;>omega))) | refine Below.alloc ?_ (by first|omega|(simp<;>omega)) _ | refine Below.setCell ?_ (by first|omega|(simp<;>omega)) _ | refine below_drewN ?_ _ | refine Below.drew ?_))
          · obtain ⟨m, hm1, hm2⟩ := idxMain_lt hm
            obtain ⟨b, off, cs, rfl, -, hx, -, hcs⟩ := Hf.out.get hm1
            obtain ⟨xa, xc, rfl, -, -, hp64, -⟩ := hx.opens
            obtain ⟨c0, c1, c2, c3⟩ := (hcs.later Hwr.out).get4
            have hbb := cell_lt c1
            have Hgd : Hid ((fs.getD (idxMain fs).toNat ⟨ByteArray.empty, 0, 0, []⟩).params = fs[m].params) := by
             show _ = _
             rw [hm2, Int.toNat_natCast, List.getD_eq_getElem?_getD, List.getElem?_eq_getElem hm1]; rfl
            have Hm := hid hm
            unfold I64 at hp64
            clear hcs hx hm
            by_cases hpz : 0 < fs[m].params
            · have Hr : Hid (checkF ⟨gs, fs⟩ = (5, (m : Int))) := by show checkF ⟨gs, fs⟩ = _; rw [Hck.out]; unfold lastE; rw [if_neg Hm.out, Hgd.out, if_pos hpz, hm2]
              go_wp2_with (first | (go_at_call 19; ((with_reducible refine (fault_any _ _ _).mono ?_); rintro e w2 ⟨rfl, hb2⟩; have hq : Below wr.heap.size wr w2 := (by (have hz0 := (hb2).size; have hy0 := hz0; (try simp at hy0); have hz1 := (hb5).size; have hy1 := hz1; (try simp at hy1); repeat (first | exact Below.refl _ _ | refine Below.trans ?_ ((hb2).mono (by first|omega|(simp<;>omega))) | refine Below.trans ?_ ((hb5).mono (by first|omega|(simp<;>omega))) | refine Below.alloc ?_ (by first|omega|(simp<;>omega)) _ | refine Below.setCell ?_ (by first|omega|(simp<;>omega)) _ | refine below_drewN ?_ _ | refine Below.drew ?_))); have g0 := cell_later' R0.out hq; have g1 := cell_later' R1.out hq; have f0 := (hq.frozen (p := ⟨w.heap.size + 1, 0, none⟩) hz3).trans F0.out; have f1 := (hq.frozen (p := ⟨w.heap.size + 1, 1, none⟩) hz3).trans F1.out)) | (go_at_call 25; ((with_reducible refine (indexMain_any (S := S) _ _ fs _ ?_ (Nat.le_trans Hfl.out (by omega))).mono ?_); refine Hf.out.later rFunc_mono ?_; have h := Hwr.out; (have hz0 := (h).size; have hy0 := hz0; (try simp at hy0); repeat (first | exact Below.refl _ _ | refine Below.trans ?_ ((h).mono (by first|omega|(simp<;>omega))) | refine Below.alloc ?_ (by first|omega|(simp<;>omega)) _ | refine Below.setCell ?_ (by first|omega|(simp<;>omega)) _ | refine below_drewN ?_ _ | refine Below.drew ?_)); rintro e w5 ⟨rfl, hb5⟩; have hz5 : w.heap.size + 1 < w5.heap.size := (by have := hb5.size; omega); have hz6 : w.heap.size < w5.heap.size := (by omega); obtain ⟨hc5, hf5⟩ := below_cells hb5; have g0 := cell_later' R0.out hb5; have g1 := cell_later' R1.out hb5; have f0 := (hb5.frozen (p := ⟨w.heap.size + 1, 0, none⟩) hz3).trans F0.out; have f1 := (hb5.frozen (p := ⟨w.heap.size + 1, 1, none⟩) hz3).trans F1.out)))
              have q := set_two (u := .int .i64 (checkF ⟨gs, fs⟩).1) (v := .int .i64 (checkF ⟨gs, fs⟩).2) (cell_later' R0.out hq) (cell_later' R1.out hq)
              rw [Hr.out] at q ⊢
              refine bodyPost_ret (res_two rfl rfl q.1 q.2) rfl ⟨rfl, ?_⟩
              have h := Hwr.out; (have hz0 := (hb2).size; have hy0 := hz0; (try simp at hy0); have hz1 := (hb5).size; have hy1 := hz1; (try simp at hy1); have hz2 := (h).size; have hy2 := hz2; (try simp at hy2); repeat (first | exact Below.refl _ _ | refine Below.trans ?_ ((hb2).mono (by first|omega|(simp<;>omega))) | refine Below.trans ?_ ((hb5).mono (by first|omega|(simp<;>omega))) | refine Below.trans ?_ ((h).mono (by first|omega|(simp<;>omega))) | refine Below.alloc ?_ (by first|omega|(simp<;>omega)) _ | refine Below.setCell ?_ (by first|omega|(simp<;>omega)) _ | refine below_drewN ?_ _ | refine Below.drew ?_))
            · have Hr : Hid (checkF ⟨gs, fs⟩ = (0, 0)) := by show checkF ⟨gs, fs⟩ = _; rw [Hck.out]; unfold lastE; rw [if_neg Hm.out, Hgd.out, if_neg hpz]
              go_wp2_with (go_at_call 25; ((with_reducible refine (indexMain_any (S := S) _ _ fs _ ?_ (Nat.le_trans Hfl.out (by omega))).mono ?_); refine Hf.out.later rFunc_mono ?_; have h := Hwr.out; (have hz0 := (h).size; have hy0 := hz0; (try simp at hy0); repeat (first | exact Below.refl _ _ | refine Below.trans ?_ ((h).mono (by first|omega|(simp<;>omega))) | refine Below.alloc ?_ (by first|omega|(simp<;>omega)) _ | refine Below.setCell ?_ (by first|omega|(simp<;>omega)) _ | refine below_drewN ?_ _ | refine Below.drew ?_)); rintro e w5 ⟨rfl, hb5⟩; have hz5 : w.heap.size + 1 < w5.heap.size := (by have := hb5.size; omega); have hz6 : w.heap.size < w5.heap.size := (by omega); obtain ⟨hc5, hf5⟩ := below_cells hb5; have g0 := cell_later' R0.out hb5; have g1 := cell_later' R1.out hb5; have f0 := (hb5.frozen (p := ⟨w.heap.size + 1, 0, none⟩) hz3).trans F0.out; have f1 := (hb5.frozen (p := ⟨w.heap.size + 1, 1, none⟩) hz3).trans F1.out))
              have q := set_two (u := .int .i64 (checkF ⟨gs, fs⟩).1) (v := .int .i64 (checkF ⟨gs, fs⟩).2) (cell_later' R0.out hb5) (cell_later' R1.out hb5)
              rw [Hr.out] at q ⊢
              refine bodyPost_ret (res_two rfl rfl q.1 q.2) rfl ⟨rfl, ?_⟩
              have h := Hwr.out; (have hz0 := (hb5).size; have hy0 := hz0; (try simp at hy0); have hz1 := (h).size; have hy1 := hz1; (try simp at hy1); repeat (first | exact Below.refl _ _ | refine Below.trans ?_ ((hb5).mono (by first|omega|(simp<;>omega))) | refine Below.trans ?_ ((h).mono (by first|omega|(simp<;>omega))) | refine Below.alloc ?_ (by first|omega|(simp<;>omega)) _ | refine Below.setCell ?_ (by first|omega|(simp<;>omega)) _ | refine below_drewN ?_ _ | refine Below.drew ?_))

end Go.Proofs.YtnkogppgacappaaGreatDoor

namespace Go.Proofs.YtnkogppgacappaaGreatDoor
open Go.RowKit

theorem checkF_ok {u : DUnit} (h : (checkF u).1 = 0) : u.globals.length ≤ 10 ∧ u.funcs.length ≤ 10 ∧ (∀ k, globE u.globals k = 0) ∧ (∀ k, headsE u.globals u.funcs k = 0) ∧ (∀ k, bodiesE u.funcs k = 0) := by
 unfold checkF at h
 by_cases h1 : 10 < u.globals.length ∨ 10 < u.funcs.length
 · rw [if_pos h1] at h; simp at h
 rw [if_neg h1] at h
 by_cases h2 : posF (globE u.globals) u.globals.length < u.globals.length
 · rw [if_pos h2] at h; exact absurd h (posF_ne h2)
 rw [if_neg h2] at h
 by_cases h3 : posF (headsE u.globals u.funcs) u.funcs.length < u.funcs.length
 · rw [if_pos h3] at h; exact absurd h (posF_ne h3)
 rw [if_neg h3] at h
 by_cases h4 : posF (bodiesE u.funcs) u.funcs.length < u.funcs.length
 · rw [if_pos h4] at h; exact absurd h (posF_ne h4)
 refine ⟨by omega, by omega, fun k => ?_, fun k => ?_, fun k => ?_⟩
 · by_cases hk : k < u.globals.length
   · exact posF_inv h2 k hk
   · unfold globE; rw [List.getElem?_eq_none (by omega)]
 · by_cases hk : k < u.funcs.length
   · exact posF_inv h3 k hk
   · unfold headsE; rw [List.getElem?_eq_none (by omega)]
 · by_cases hk : k < u.funcs.length
   · exact posF_inv h4 k hk
   · unfold bodiesE; rw [List.getElem?_eq_none (by omega)]
theorem checkF_func {u : DUnit} (h : (checkF u).1 = 0) {k : Nat} {f : DFunc} (hf : u.funcs[k]? = some f) :
 1 ≤ f.blocks.length ∧ f.blocks.length ≤ 40 ∧ (∀ (i : Nat) (x : DBlock), f.blocks[i]? = some x → endE f.blocks.length f.regs x.fin = 0) := by
 obtain ⟨-, -, -, h2, h3⟩ := checkF_ok h
 have g2 := h2 k
 have g3 := h3 k
 unfold headsE at g2
 unfold bodiesE at g3
 rw [hf] at g2 g3
 obtain ⟨-, -, -, -, -, -, e1, e2, -⟩ := headE_ok g2
 refine ⟨e1, e2, fun i x hx => ?_⟩
 dsimp only at g3
 unfold bodyE at g3
 by_cases h4 : firstF (endsE f.regs f.blocks) f.blocks.length = 0
 · have h5 := firstF_inv h4 i (List.getElem?_eq_some_iff.1 hx).1
   unfold endsE at h5
   rw [hx] at h5
   exact h5
 · rw [if_pos h4] at g3; exact absurd g3 h4

theorem stays_set {S : Nat → Prop} {w : World} {p : Addr} (v : Value) (h : ∀ b, S b → b ≠ p.block) : Stays S w (w.setCell p v) := fun b o x hb hc => by
 rw [World.cell?_of_block (w := w) (a := ⟨b, o, none⟩) (Below.heap_setCell _ _ _ _ (h b hb))]; exact hc

theorem lay_any' {S S' : Nat → Prop} (nm : ByteArray) (p r : Int) (ba : Option Addr) (bc : Nat) (bs : List DBlock) (ca : Option Addr) (cc : Nat) (C : List Int) (n : Nat) (w : World) (hb : SlAt S w 6 rBlock (.slice ba bs.length bc) bs) (hC : SlAt S' w 1 rInt (.slice ca C.length cc) C)
 (hn0 : 0 < n) (hn : n ≤ 1048576) (hbn : bs.length = n) (hcn : C.length = n) (hto : ∀ (k : Nat) (x : DBlock), bs[k]? = some x → ∀ t ∈ x.fin.to, 0 ≤ t ∧ t < (bs.length : Int)) :
 Calls Tryz.prog 46 #[.agg #[.string nm, .int .i64 p, .int .i64 r, .slice ba n bc], .slice ca n cc] w fun e w' =>
  ∃ v, e = .returned v ∧ SlAt (fun b => w.heap.size ≤ b) w' 1 rInt v ((layF bs (cntOf C)).map fun b : Nat => (b : Int)) ∧ Below w.heap.size w w' := by
 subst hbn
 have h := lay_any nm p r ba bc bs ca cc C w hb hC hn0 hn hcn hto
 rw [hcn] at h
 exact h

end Go.Proofs.YtnkogppgacappaaGreatDoor

namespace Go.Proofs.YtnkogppgacappaaGreatDoor
open Go.RowKit

theorem int_at {S : Nat → Prop} {w : World} {a : Option Addr} {n c : Nat} {l : List Int} (h : SlAt S w 1 rInt (.slice a n c) l) {t : Nat} (ht : t < l.length) : ∃ b off, a = some ⟨b, off, none⟩ ∧ w.cell? ⟨b, off + t, none⟩ = some (.int .i64 l[t]) := by
 obtain ⟨b, off, cs, ha, -, ⟨rfl, -⟩, -, hcs⟩ := h.get ht
 have d := hcs.get1
 rw [Nat.mul_one] at d
 exact ⟨b, off, ha, d⟩

set_option maxRecDepth 100000 in
set_option maxHeartbeats 1000000 in
theorem ints_any {S S' : Nat → Prop} (a : Option Addr) (c : Nat) (l : List Int) (a' : Option Addr) (c' : Nat) (l' : List Int) (w : World) (h : SlAt S w 1 rInt (.slice a l.length c) l) (h' : SlAt S' w 1 rInt (.slice a' l'.length c') l') (hn : l.length ≤ 1048576) (hn' : l'.length ≤ 1048576) :
 Calls Tryz.prog 58 #[.slice a l.length c, .slice a' l'.length c'] w fun e w' => e = .returned (.bool (decide (l = l'))) ∧ Below w.heap.size w w' := by
 have H := hid h
 have H' := hid h'
 clear h h'
 go_enter Tryz.func58, Tryz.ntmps58
 by_cases hl : l.length = l'.length
 · go_wp2_with fail
   go_loopw [5] (fun i wr => ∃ (k q : Nat), k ≤ l.length ∧ i = .int .i64 k ∧ l.take k = l'.take k ∧ w.drewN q = wr) (fun i _ => l.length - (intOf i).toNat)
   case atStart => exact ⟨0, 0, Nat.zero_le _, rfl, rfl, rfl⟩
   case round =>
    obtain ⟨k, q, hk, rfl, htk, rfl⟩ := hrel
    have Htk := hid htk
    clear htk
    by_cases hkl : k < l.length
    · have hkl' : k < l'.length := by omega
      obtain ⟨b, off, rfl, c0⟩ := int_at H.out hkl
      obtain ⟨b', off', rfl, d0⟩ := int_at H'.out hkl'
      have hb1 : b < w.heap.size := cell_lt c0
      have hb2 : b' < w.heap.size := cell_lt d0
      by_cases he : l[k] = l'[k]
      · go_wp2_with fail
        go_quiet (fail)
        go_wp2_with fail
        go_roundw
        case rel => exact ⟨k + 1, _, by omega, by go_num, by rw [List.take_succ_eq_append_getElem hkl, List.take_succ_eq_append_getElem hkl', Htk.out, he], rfl⟩
        case measure => simp [intOf]; omega
      · go_wp2_with fail
        go_quiet (fail)
        go_wp2_with fail
        have hr : decide (l = l') = false := decide_eq_false (fun e => he (by subst e; rfl))
        rw [hr]
        go_ret
        exact ⟨rfl, by (repeat (first | exact Below.refl _ _ | refine Below.alloc ?_ (by first|omega|(simp<;>omega)) _ | refine Below.setCell ?_ (by first|omega|(simp<;>omega)) _ | refine below_drewN ?_ _ | refine Below.drew ?_))⟩
    · obtain rfl : k = l.length := by omega
      go_wp2_with fail
      have hr : decide (l = l') = true := decide_eq_true (by have h := Htk.out; rw [List.take_length, hl, List.take_length] at h; exact h)
      rw [hr]
      go_ret
      exact ⟨rfl, by (repeat (first | exact Below.refl _ _ | refine Below.alloc ?_ (by first|omega|(simp<;>omega)) _ | refine Below.setCell ?_ (by first|omega|(simp<;>omega)) _ | refine below_drewN ?_ _ | refine Below.drew ?_))⟩
 · go_wp2_with fail
   have hr : decide (l = l') = false := decide_eq_false (fun e => hl (by rw [e]))
   rw [hr]
   go_ret
   exact ⟨rfl, Below.refl _ _⟩

end Go.Proofs.YtnkogppgacappaaGreatDoor

namespace Go.Proofs.YtnkogppgacappaaGreatDoor
open Go.RowKit

def idxInt (l : List Int) (s : Int) : Int := match l.findIdx? (fun x => decide (s = x)) with | some k => k | none => -1
set_option maxHeartbeats 1000000 in
theorem indexInt_any {S : Nat → Prop} (ao : Option Addr) (n c : Nat) (l : List Int) (s : Int) (w : World) (h : SlAt S w 1 rInt (.slice ao n c) l) (hn : l.length = n) (hn2 : n ≤ 1048576) :
 Calls Tryz.prog 95 #[.slice ao n c, .int .i64 s] w fun e w' => e = .returned (.int .i64 (idxInt l s)) ∧ w = w' := by
 have Hh := hid h
 have Hn := hid hn
 clear h hn
 go_enter Tryz.func95, Tryz.ntmps95
 go_wp2_with fail
 go_loop [8] (fun i => ∃ k : Nat, k ≤ n ∧ i = .int .i64 k ∧ ∀ j, j < k → ∀ x, l[j]? = some x → decide (s = x) = false) (fun i => n - (intOf i).toNat)
 case atStart => exact ⟨0, Nat.zero_le _, rfl, fun j hj => by omega⟩
 case round =>
  obtain ⟨k, hk, rfl, hall⟩ := hrel
  have H := hid hall
  clear hall
  by_cases hlt : k < n
  · have hlt' : k < l.length := by rw [Hn.out]; exact hlt
    obtain ⟨b, off, rfl, hcell⟩ := int_at Hh.out hlt'
    obtain ⟨x, hx⟩ : ∃ x, l[k] = x := ⟨_, rfl⟩
    rw [hx] at hcell
    have Hx : Hid (l[k]? = some x) := by show _ = _; rw [List.getElem?_eq_getElem hlt', hx]
    have zb : b < w.heap.size := cell_lt hcell
    clear hx hlt'
    by_cases he : s = x
    · have Hi : Hid (idxInt l s = k) := by show _ = _; unfold idxInt; rw [idx_some Hx.out (decide_eq_true he) H.out]
      have q0 : (decide (s ≤ x) && decide (x ≤ s)) = true := eq_yes he
      clear he
      go_wp2_with fail
      go_ret
      exact ⟨ret_int Hi.out.symm, rfl⟩
    · have He : Hid (decide (s = x) = false) := decide_eq_false he
      have q0 : (decide (s ≤ x) && decide (x ≤ s)) = false := eq_no he
      clear he
      go_wp2_with fail
      go_round
      case rel => exact ⟨k + 1, by omega, by go_num, ext_lt H.out (fun y hy => by rw [Hx.out] at hy; cases hy; exact He.out)⟩
      case measure => simp [intOf]; omega
  · have Hi : Hid (idxInt l s = -1) := by
     show _ = _
     unfold idxInt
     rw [idx_none (fun j x hx => H.out j (by have := (List.getElem?_eq_some_iff.1 hx).1; have := Hn.out; omega) x hx)]
    go_wp2_with fail
    go_ret
    exact ⟨ret_int Hi.out.symm, rfl⟩
end Go.Proofs.YtnkogppgacappaaGreatDoor
