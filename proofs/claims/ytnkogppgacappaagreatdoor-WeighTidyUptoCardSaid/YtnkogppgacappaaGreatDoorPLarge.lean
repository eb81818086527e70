/- ssa.Check, in plain Lean; and what code.Check says of a function, gathered. tidy, plain: a checked unit stays checked. tidy, plain: the unit. graph.Large of a function that is not too large. -/
import Derived.Test.YtnkogppgacappaaGreatDoorPTid0
import Derived.Test.YtnkogppgacappaaGreatDoorPBy
import Derived.Test.YtnkogppgacappaaGreatDoorPHotW
import Derived.Test.YtnkogppgacappaaGreatDoorPKnown
import Derived.Test.YtnkogppgacappaaGreatDoorPTid2
namespace Go.Proofs.YtnkogppgacappaaGreatDoor
open Go.RowKit

theorem dstE_ok {regs n : Int} (h : dstE regs n = 0) : 0 ≤ n ∧ n < regs := by
 unfold dstE at h
 by_cases h1 : ¬ (0 ≤ n ∧ n ≤ regs - 1)
 · rw [if_pos h1] at h; omega
 · omega
end Go.Proofs.YtnkogppgacappaaGreatDoor

namespace Go.Proofs.YtnkogppgacappaaGreatDoor

structure InsF (fs : List DFunc) (y : DIns) : Prop where
 op : 1 ≤ y.op ∧ y.op ≤ 22
 form : formBad y = false
 dst : shpD y.op = true → ¬ (y.op = 20 ∧ y.dst = -1) → 0 ≤ y.dst
 call : y.op = 20 → (0 ≤ y.fn ∧ y.fn ≤ (fs.length : Int) - 1) ∧ (y.args.length : Int) = (fs.getD y.fn.toNat ⟨ByteArray.empty, 0, 0, []⟩).params
structure CkOk (fs : List DFunc) (bs : List DBlock) : Prop where
 kind : ∀ x ∈ bs, (1 ≤ x.fin.kind ∧ x.fin.kind ≤ 3) ∧ (x.fin.to.length : Int) = x.fin.kind - 1 ∧ (∀ t ∈ x.fin.to, 1 ≤ t) ∧ (x.fin.kind = 2 → x.fin.on = ⟨false, 0⟩)
 phi0 : (blkOf bs 0).phis = []
 ins : ∀ x ∈ bs, ∀ y ∈ x.list, InsF fs y
 len : bs.length ≤ 40
 many : manyOf bs ≤ 300
theorem valE_in {n : Nat} {v : DVal} : valE (n : Int) v = 0 ↔ InV n v := by
 unfold valE InV
 constructor
 · intro h hr
   by_cases h1 : v.reg = true ∧ ¬ (0 ≤ v.n ∧ v.n ≤ (n : Int) - 1)
   · rw [if_pos h1] at h; omega
   · have : ¬ ¬ (0 ≤ v.n ∧ v.n ≤ (n : Int) - 1) := fun h3 => h1 ⟨hr, h3⟩
     omega
 · intro h
   rw [if_neg]
   rintro ⟨h1, h2⟩
   have := h h1
   omega
theorem insE_of {fs : List DFunc} {n : Nat} {y : DIns} (h : InsF fs y) (hr : InI n y) : insE fs (n : Int) y = 0 := by
 unfold insE
 rw [if_neg (by have := h.op; omega), if_neg (by rw [h.form]; simp)]
 rw [if_neg]
 · unfold firstE
   rw [valE_in.2 hr.1, valE_in.2 hr.2.1, if_neg (by omega), if_neg (by omega)]
   unfold callE
   by_cases e : y.op = 20
   · rw [if_neg (by omega)]
     have hc := h.call e
     rw [if_neg (by omega), if_neg (by omega)]
     exact argsE_iff.2 fun v hv => valE_in.2 (hr.2.2.1 v hv)
   · rw [if_pos e]
 · rintro ⟨⟨h1, h2⟩, h3⟩
   apply h3
   unfold dstE
   have := h.dst h1 h2
   have := hr.2.2.2
   rw [if_neg (by omega)]
theorem insF_of {fs : List DFunc} {n : Nat} {y : DIns} (h : insE fs (n : Int) y = 0) : InsF fs y ∧ InI n y := by
 unfold insE at h
 by_cases h1 : ¬ (1 ≤ y.op ∧ y.op ≤ 22)
 · rw [if_pos h1] at h; omega
 rw [if_neg h1] at h
 by_cases h2 : formBad y = true
 · rw [if_pos h2] at h; omega
 rw [if_neg h2] at h
 by_cases h3 : (shpD y.op = true ∧ ¬ (y.op = 20 ∧ y.dst = -1)) ∧ dstE n y.dst ≠ 0
 · rw [if_pos h3] at h; omega
 rw [if_neg h3] at h
 unfold firstE at h
 by_cases a1 : valE n y.a ≠ 0
 · rw [if_pos a1] at h; exact absurd h a1
 rw [if_neg a1] at h
 by_cases a2 : valE n y.b ≠ 0
 · rw [if_pos a2] at h; exact absurd h a2
 rw [if_neg a2] at h
 have hf : formBad y = false := by simpa using h2
 have hd : shpD y.op = true → ¬ (y.op = 20 ∧ y.dst = -1) → 0 ≤ y.dst ∧ y.dst < n := fun g1 g2 => by
  by_cases hz : dstE n y.dst = 0
  · exact dstE_ok hz
  · exact absurd ⟨⟨g1, g2⟩, hz⟩ h3
 have hf2 := hf
 unfold formBad at hf2
 simp only [Bool.or_eq_false_iff, Bool.and_eq_false_iff, decide_eq_false_iff_not, Bool.not_eq_false'] at hf2
 obtain ⟨⟨⟨g1, -⟩, -⟩, g4⟩ := hf2
 have hdn : y.dst < n := by
  rcases g1 with g1 | g1
  · by_cases e : y.op = 20 ∧ y.dst = -1
    · omega
    · exact (hd g1 e).2
  · have e : y.dst = -1 := Classical.not_not.1 g1
    omega
 have hcall : y.op = 20 → (0 ≤ y.fn ∧ y.fn ≤ (fs.length : Int) - 1) ∧ (y.args.length : Int) = (fs.getD y.fn.toNat ⟨ByteArray.empty, 0, 0, []⟩).params ∧ ∀ v ∈ y.args, InV n v := fun e => by
  unfold callE at h
  rw [if_neg (by omega)] at h
  by_cases b1 : ¬ (0 ≤ y.fn ∧ y.fn ≤ (fs.length : Int) - 1)
  · rw [if_pos b1] at h; omega
  rw [if_neg b1] at h
  by_cases b2 : (y.args.length : Int) ≠ (fs.getD y.fn.toNat ⟨ByteArray.empty, 0, 0, []⟩).params
  · rw [if_pos b2] at h; omega
  rw [if_neg b2] at h
  exact ⟨by omega, by omega, fun v hv => valE_in.1 (argsE_iff.1 h v hv)⟩
 refine ⟨⟨by omega, hf, fun a b => (hd a b).1, fun e => ⟨(hcall e).1, (hcall e).2.1⟩⟩, valE_in.1 (by omega), valE_in.1 (by omega), fun v hv => ?_, hdn⟩
 by_cases e : y.op = 20
 · exact (hcall e).2.2 v hv
 · rcases g4 with g4 | g4
   · exact absurd e g4
   · have h0 : y.args.length = 0 := by
      have := g4.2
      omega
     rw [List.eq_nil_of_length_eq_zero h0] at hv
     cases hv
section
variable {fs : List DFunc} {n : Nat} {bs : List DBlock}
theorem body_of (h : TdOk n bs) (hc : CkOk fs bs) (nm : ByteArray) (p : Int) : bodyE fs ⟨nm, p, (n : Int), bs⟩ = 0 := by
 refine bodyE_zero.2 ⟨fun k hk => ?_, fun k hk => ?_⟩
 · have hk' : k < bs.length := hk
   have hm := blkOf_mem hk'
   obtain ⟨k1, k2, k3, k4⟩ := hc.kind _ hm
   unfold endsE
   show (match bs[k]? with | some b => endE bs.length (n : Int) b.fin | none => 0) = 0
   rw [blkOf_self bs hk']
   refine endE_iff.2 ⟨k1, k2, fun t ht => ⟨k3 t ht, by have := h.ok.toIn _ hm t ht; omega⟩, ?_, valE_in.2 (h.reg _ hm).on⟩
   rintro (⟨e1, e2⟩ | ⟨e1, e2⟩)
   · have hn := h.ok.toNd _ hm
     have hl : (blkOf bs k).fin.to.length = 2 := by omega
     match hh : (blkOf bs k).fin.to, hl with
     | [a, b], _ =>
       rw [hh] at hn e2
       have e3 : a = b := e2
       rw [e3] at hn
       exact absurd (List.mem_singleton.2 rfl) (List.nodup_cons.1 hn).1
   · exact e2 (k4 e1)
 · have hk' : k < bs.length := hk
   have hm := blkOf_mem hk'
   refine (blockE_zero (blkOf_self bs hk')).2 ⟨fun p hp => ?_, fun y hy => insE_of (hc.ins _ hm y hy) ((h.reg _ hm).ins y hy)⟩
   refine phiE_iff.2 ⟨fun e => ?_, ?_, ?_, argsE_iff.2 fun v hv => valE_in.2 (((h.reg _ hm).phi p hp).2 v hv)⟩
   · subst e
     rw [hc.phi0] at hp
     cases hp
   · have := ((h.reg _ hm).phi p hp).1
     unfold dstE
     rw [if_neg (by show ¬ ¬ (0 ≤ p.dst ∧ p.dst ≤ (n : Int) - 1); omega)]
   · show p.src.length = ((aheadF bs).getD k []).length
     rw [aheadF_getD hk']
     exact h.ok.src k hk' p hp
theorem of_body {f : DFunc} (hnum : ∀ x ∈ f.blocks, NumB x) (hr : f.regs = (n : Int)) (hb : bodyE fs f = 0) (h1 : 1 ≤ f.blocks.length) (h2 : f.blocks.length ≤ 40) (hm : manyOf f.blocks ≤ 300) (hargs : ∀ x ∈ f.blocks, ∀ y ∈ x.list, y.args.length ≤ 1048576) : TdOk n f.blocks ∧ CkOk fs f.blocks := by
 obtain ⟨e1, e2⟩ := bodyE_zero.1 hb
 have he : ∀ k, k < f.blocks.length → _ := fun k hk => by
  have h := e1 k hk
  unfold endsE at h
  rw [blkOf_self f.blocks hk, hr] at h
  exact endE_iff.1 h
 have hbk : ∀ k, k < f.blocks.length → _ := fun k hk => (blockE_zero (blkOf_self f.blocks hk)).1 (by have h := e2 k hk; rw [hr] at h; exact h)
 have hall : ∀ x ∈ f.blocks, ∃ k, k < f.blocks.length ∧ x = blkOf f.blocks k := fun x hx => mem_blkOf hx
 have hph : ∀ k, k < f.blocks.length → ∀ p ∈ (blkOf f.blocks k).phis, k ≠ 0 ∧ InP n p ∧ p.src.length = (predsOf f.blocks 0 k).length := fun k hk p hp => by
  obtain ⟨a1, a2, a3, a4⟩ := phiE_iff.1 ((hbk k hk).1 p hp)
  rw [aheadF_getD hk] at a3
  exact ⟨a1, ⟨dstE_ok a2, fun v hv => valE_in.1 (argsE_iff.1 a4 v hv)⟩, a3⟩
 have hto2 : ∀ x ∈ f.blocks, x.fin.to.length ≤ 2 := fun x hx => by
  obtain ⟨k, hk, rfl⟩ := hall x hx
  have := he k hk
  omega
 have hok : FunOk f.blocks := by
  refine ⟨by omega, hnum, fun x hx => ?_, hto2, fun x hx t ht => ?_, fun x hx => ?_, fun k hk p hp => (hph k hk p hp).2.2⟩
  · have := manyOf_mem hx
    refine ⟨by omega, by omega, by have := hto2 x hx; omega, fun p hp => ?_, hargs x hx⟩
    obtain ⟨k, hk, rfl⟩ := hall x hx
    rw [(hph k hk p hp).2.2]
    have := predsOf_len k f.blocks 0 hto2
    omega
  · obtain ⟨k, hk, rfl⟩ := hall x hx
    have := (he k hk).2.2.1 t ht
    omega
  · obtain ⟨k, hk, rfl⟩ := hall x hx
    obtain ⟨g1, g2, g3, g4, -⟩ := he k hk
    match hh : (blkOf f.blocks k).fin.to with
    | [] => simp
    | [a] => simp
    | [a, b] =>
      rw [hh] at g2 g4
      have hk3 : (blkOf f.blocks k).fin.kind = 3 := by simp at g2; omega
      have : ¬ a = b := fun e => g4 (.inl ⟨hk3, e⟩)
      simp [this]
    | a :: b :: c :: l => rw [hh] at g2; simp at g2; omega
 refine ⟨⟨hok, toOk_of hok (by omega), fun x hx hj => ?_, ?_, fun x hx => ?_⟩, ⟨fun x hx => ?_, ?_, fun x hx y hy => ?_, h2, hm⟩⟩
 · obtain ⟨k, hk, rfl⟩ := hall x hx
   have := he k hk
   omega
 · have : (f.blocks.map fun x => x.list.length).sum ≤ manyOf f.blocks := by
    unfold manyOf
    generalize f.blocks = l
    induction l with
    | nil => exact Nat.le_refl _
    | cons a l ih => simp only [List.map_cons, List.sum_cons]; omega
   omega
 · obtain ⟨k, hk, rfl⟩ := hall x hx
   exact ⟨fun p hp => (hph k hk p hp).2.1, fun y hy => (insF_of ((hbk k hk).2 y hy)).2, valE_in.1 (he k hk).2.2.2.2⟩
 · obtain ⟨k, hk, rfl⟩ := hall x hx
   obtain ⟨g1, g2, g3, g4, -⟩ := he k hk
   exact ⟨g1, g2, fun t ht => (g3 t ht).1, fun e => Classical.not_not.1 fun h => g4 (.inr ⟨e, h⟩)⟩
 · cases hp : (blkOf f.blocks 0).phis with
   | nil => rfl
   | cons p l => exact absurd rfl (hph 0 (by omega) p (by rw [hp]; exact List.mem_cons_self ..)).1
 · obtain ⟨k, hk, rfl⟩ := hall x hx
   exact (insF_of ((hbk k hk).2 y hy)).1

theorem CkOk.keep (h : TdOk n bs) (hc : CkOk fs bs) : CkOk fs (keepF bs (ordL bs)) := by
 have ho := ordL_ok h.tok
 have hin : ∀ b ∈ ordL bs, b.toNat < bs.length := fun b hb => by have := ho.inn b hb; omega
 refine ⟨fun x hx => ?_, ?_, fun x hx y hy => ?_, ?_, ?_⟩
 · obtain ⟨b, hb, rfl⟩ := keepF_mem hx
   obtain ⟨k1, k2, k3, k4⟩ := hc.kind _ (blkOf_mem (hin b hb))
   refine ⟨k1, by show ((List.map _ _).length : Int) = _; rw [List.length_map]; exact k2, fun t ht => ?_, k4⟩
   obtain ⟨t0, h0, rfl⟩ := List.mem_map.1 (show t ∈ List.map _ _ from ht)
   obtain ⟨i, h1, h2, -⟩ := keep_to ho hb h0
   have := k3 t0 h0
   rw [h2]
   by_cases e : i = 0
   · subst e
     rw [ho.head] at h1
     have := Option.some.inj h1
     omega
   · omega
 · rw [keepF_at2 ho.head]
   show List.map _ (blkOf bs 0).phis = []
   rw [hc.phi0]; rfl
 · obtain ⟨b, hb, rfl⟩ := keepF_mem hx
   exact hc.ins _ (blkOf_mem (hin b hb)) y hy
 · rw [keepF_len]
   exact Nat.le_trans (ord_len ho) hc.len
 · exact Nat.le_trans (keep_sum (fun b => b.phis.length + b.list.length) (fun _ _ _ => by show (List.map _ _).length + _ = _; rw [List.length_map]; rfl) ho) hc.many
theorem many_merge {b : Nat} (hok : ChOk bs) (hb : b < bs.length) (h : mayM bs b = true) : manyOf (mergeF bs b) = manyOf bs := by
 obtain ⟨h1, h2, h3, -, h5, -⟩ := mayM_facts hok hb h
 have hbr : b < (renA bs (toJ bs b) b).length := by rw [renA_len]; exact hb
 have htr : toJ bs b < ((renA bs (toJ bs b) b).set b (mrgB bs (toJ bs b) b)).length := by rw [List.length_set, renA_len]; exact h5
 have hr : (renA bs (toJ bs b) b).map (fun x => x.phis.length + x.list.length) = bs.map (fun x => x.phis.length + x.list.length) := by
  apply List.ext_getElem?
  intro i
  rw [List.getElem?_map, List.getElem?_map]
  by_cases hi : i < bs.length
  · rw [blkOf_self bs hi, blkOf_self (renA bs (toJ bs b) b) (by rw [renA_len]; exact hi), Option.map_some, Option.map_some, (renA_fin hok.ok h5 i).2.1, (renA_fin hok.ok h5 i).2.2]
  · rw [List.getElem?_eq_none (by rw [renA_len]; omega), List.getElem?_eq_none (by omega)]
 have s1 := sum_map_set (fun x : DBlock => x.phis.length + x.list.length) (renA bs (toJ bs b) b) b (mrgB bs (toJ bs b) b) hbr
 have s2 := sum_map_set (fun x : DBlock => x.phis.length + x.list.length) ((renA bs (toJ bs b) b).set b (mrgB bs (toJ bs b) b)) (toJ bs b) emptyB htr
 rw [blkOf_get hbr, (renA_fin hok.ok h5 b).2.1, (renA_fin hok.ok h5 b).2.2, hr] at s1
 rw [blkOf_get htr, blkOf_set hbr, if_neg h2, (renA_fin hok.ok h5 _).2.1, (renA_fin hok.ok h5 _).2.2, h3] at s2
 have s3 : (mrgB bs (toJ bs b) b).list.length = (blkOf bs b).list.length + (blkOf bs (toJ bs b)).list.length := by simp [mrgB]
 have s5 : (mrgB bs (toJ bs b) b).phis.length = (blkOf bs b).phis.length := by
  show (blkOf (renA bs (toJ bs b) b) b).phis.length = _
  rw [(renA_fin hok.ok h5 b).2.2]
 have s4 : emptyB.phis.length + emptyB.list.length = 0 := rfl
 have s6 : ([] : List DPhi).length = 0 := rfl
 unfold manyOf mergeF
 omega
theorem CkOk.merge {b : Nat} (hok : ChOk bs) (hb : b < bs.length) (h : mayM bs b = true) (hc : CkOk fs bs) : CkOk fs (mergeF bs b) := by
 obtain ⟨h1, h2, h3, h4, h5, h6⟩ := mayM_facts hok hb h
 refine ⟨fun x hx => ?_, ?_, fun x hx y hy => ?_, by rw [mergeF_len]; exact hc.len, by rw [many_merge hok hb h]; exact hc.many⟩
 · obtain ⟨c, hcl, rfl⟩ := mem_blkOf hx
   rw [mergeF_len] at hcl
   rcases merge_cases hb h5 c with ⟨-, e⟩ | ⟨-, rfl, e⟩ | ⟨-, -, e⟩
   · rw [e]
     refine ⟨⟨by decide, by decide⟩, by decide, fun t ht => ?_, fun h => ?_⟩
     · cases ht
     · exact absurd h (by decide)
   · rw [e]; exact hc.kind (blkOf bs (toJ bs c)) (blkOf_mem h5)
   · rw [e, (renA_fin hok.ok h5 c).1]; exact hc.kind _ (blkOf_mem hcl)
 · have hlen : (blkOf (renA bs (toJ bs b) b) 0).phis.length = 0 := by rw [(renA_fin hok.ok h5 0).2.2, hc.phi0]; rfl
   rcases merge_cases hb h5 0 with ⟨-, e⟩ | ⟨-, e0, e⟩ | ⟨-, -, e⟩
   · rw [e]; rfl
   · subst e0
     rw [e]; exact List.eq_nil_of_length_eq_zero hlen
   · rw [e]; exact List.eq_nil_of_length_eq_zero hlen
 · obtain ⟨c, hcl, rfl⟩ := mem_blkOf hx
   rw [mergeF_len] at hcl
   rcases merge_cases hb h5 c with ⟨-, e⟩ | ⟨-, rfl, e⟩ | ⟨-, -, e⟩
   · rw [e] at hy; cases hy
   · rw [e] at hy
     rcases List.mem_append.1 (show y ∈ _ ++ _ from hy) with hy | hy
     · exact hc.ins _ (blkOf_mem hcl) y hy
     · exact hc.ins _ (blkOf_mem h5) y hy
   · rw [e, (renA_fin hok.ok h5 c).2.1] at hy; exact hc.ins _ (blkOf_mem hcl) y hy
theorem CkOk.chains (h : TdOk n bs) (hc : CkOk fs bs) : CkOk fs (chainsF bs) :=
 chainsTo_keeps (P := CkOk fs) (fun _bs _b hok hb hm h => CkOk.merge hok hb hm h) h.ch hc _ (Nat.le_refl _)
theorem renV_const {f : Int → Int} {v : DVal} (h : v = ⟨false, 0⟩) : renV f v = ⟨false, 0⟩ := by subst h; rfl
theorem CkOk.ren {f : Int → Int} (hc : CkOk fs bs) (hd : ∀ x ∈ bs, ∀ y ∈ x.list, 0 ≤ y.dst → 0 ≤ f y.dst) : CkOk fs (bs.map (renK f)) := by
 refine ⟨fun x hx => ?_, ?_, fun x hx y hy => ?_, by rw [List.length_map]; exact hc.len, ?_⟩
 · obtain ⟨x0, h0, rfl⟩ := List.mem_map.1 hx
   obtain ⟨k1, k2, k3, k4⟩ := hc.kind x0 h0
   exact ⟨k1, k2, k3, fun e => renV_const (k4 e)⟩
 · have h0 := hc.phi0
   cases bs with
   | nil => rfl
   | cons x l => show List.map _ x.phis = []; rw [show x.phis = [] from h0]; rfl
 · obtain ⟨x0, h0, rfl⟩ := List.mem_map.1 hx
   obtain ⟨y0, h1, rfl⟩ := List.mem_map.1 (show y ∈ List.map _ _ from hy)
   have hi := hc.ins x0 h0 y0 h1
   have hdn := hd x0 h0 y0 h1
   have hfb := hi.form
   unfold formBad at hfb
   simp only [Bool.or_eq_false_iff, Bool.and_eq_false_iff, decide_eq_false_iff_not, Bool.not_eq_false'] at hfb
   obtain ⟨⟨⟨g1, g2⟩, g3⟩, g4⟩ := hfb
   have hds : y0.dst = -1 → (renI f y0).dst = -1 := fun e => by
    show renD f y0.dst = -1
    unfold renD
    rw [if_neg (by omega)]; exact e
   refine ⟨hi.op, ?_, fun a b => ?_, fun e => ?_⟩
   · unfold formBad
     simp only [Bool.or_eq_false_iff, Bool.and_eq_false_iff, decide_eq_false_iff_not, Bool.not_eq_false']
     refine ⟨⟨⟨?_, ?_⟩, ?_⟩, ?_⟩
     · rcases g1 with g | g
       · exact .inl g
       · exact .inr fun h => h (hds (Classical.not_not.1 g))
     · rcases g2 with g | g
       · exact .inl g
       · exact .inr fun h => h (renV_const (Classical.not_not.1 g))
     · rcases g3 with g | g
       · exact .inl g
       · exact .inr fun h => h (renV_const (Classical.not_not.1 g))
     · rcases g4 with g | g
       · exact .inl g
       · refine .inr ⟨g.1, ?_⟩
         show ¬ 0 < (List.map _ _).length
         rw [List.length_map]; exact g.2
   · show 0 ≤ renD f y0.dst
     have h2 := hi.dst a fun ⟨e1, e2⟩ => b ⟨e1, hds e2⟩
     unfold renD
     rw [if_pos h2]
     exact hdn h2
   · have hcl := hi.call e
     refine ⟨hcl.1, ?_⟩
     show ((List.map _ _).length : Int) = _
     rw [List.length_map]; exact hcl.2
 · have hm := hc.many
   unfold manyOf at hm ⊢
   rw [List.map_map, show ((fun b : DBlock => b.phis.length + b.list.length) ∘ renK f) = fun b : DBlock => b.phis.length + b.list.length by funext x; show (List.map _ _).length + (List.map _ _).length = _; rw [List.length_map, List.length_map]]
   exact hm
theorem CkOk.do {p : Nat} (h : TdOk n bs) (hc : CkOk fs bs) (hp : p ≤ n) : CkOk fs (doB p n bs) := by
 have h1 := CkOk.keep h hc
 have h2 : CkOk fs (preB bs) := CkOk.chains h.keep h1
 have h3 : CkOk fs (keptB bs) := CkOk.keep h.pre h2
 obtain ⟨e, -, e2⟩ := namesB_ext hp h.kept.reg
 unfold doB
 rw [e]
 exact h3.ren e2
end

end Go.Proofs.YtnkogppgacappaaGreatDoor

namespace Go.Proofs.YtnkogppgacappaaGreatDoor

def tidyFn (f : DFunc) : DFunc := ⟨f.name, f.params, doN f.params.toNat f.regs.toNat f.blocks, doB f.params.toNat f.regs.toNat f.blocks⟩
def tidyU (u : DUnit) : DUnit := ⟨u.globals, u.funcs.map tidyFn⟩
def NumU (u : DUnit) : Prop := ∀ f ∈ u.funcs, ∀ x ∈ f.blocks, NumB x

theorem insF_alike {fs fs' : List DFunc} (h : Alike' fs fs') {y : DIns} (hi : InsF fs y) : InsF fs' y := by
 refine ⟨hi.op, hi.form, hi.dst, fun e => ?_⟩
 obtain ⟨h1, h2⟩ := hi.call e
 refine ⟨by rw [h.len]; exact h1, ?_⟩
 have hk : y.fn.toNat < fs.length := by omega
 obtain ⟨f', e1, -, e3⟩ := h.at_ _ _ (List.getElem?_eq_getElem hk)
 rw [List.getD_eq_getElem?_getD, e1, Option.getD_some, e3]
 rw [List.getD_eq_getElem?_getD, List.getElem?_eq_getElem hk, Option.getD_some] at h2
 exact h2
theorem ckOk_alike {fs fs' : List DFunc} (h : Alike' fs fs') {bs : List DBlock} (hc : CkOk fs bs) : CkOk fs' bs := ⟨hc.kind, hc.phi0, fun x hx y hy => insF_alike h (hc.ins x hx y hy), hc.len, hc.many⟩
theorem checkF_like {gs : List DGlobal} {fs fs' : List DFunc} (h : checkF ⟨gs, fs⟩ = (0, 0)) (hl : fs'.length = fs.length)
 (ht : ∀ (k : Nat) (f : DFunc), fs[k]? = some f → ∃ (n : Nat) (bs : List DBlock), fs'[k]? = some ⟨f.name, f.params, (n : Int), bs⟩ ∧ TdOk n bs ∧ CkOk fs bs ∧ f.params ≤ n ∧ n ≤ 100 ∧ 1 ≤ bs.length) : checkF ⟨gs, fs'⟩ = (0, 0) := by
 have hal : Alike' fs fs' := ⟨hl, fun k f hf => by obtain ⟨n, bs, h1, -⟩ := ht k f hf; exact ⟨_, h1, rfl, rfl⟩⟩
 obtain ⟨h1, h2, h3, h4, h5⟩ := checkF_ok (by rw [h])
 have hnames : ∀ k, (fs'.take k).map (·.name) = (fs.take k).map (·.name) := fun k => by
  refine List.ext_getElem? fun i => ?_
  rw [List.getElem?_map, List.getElem?_map, List.getElem?_take, List.getElem?_take]
  by_cases hik : i < k
  · rw [if_pos hik, if_pos hik]
    cases hf : fs[i]? with
    | none =>
      have : fs'[i]? = none := by rw [List.getElem?_eq_none_iff] at hf ⊢; omega
      rw [this]
    | some f =>
      obtain ⟨f', h1, h2, -⟩ := hal.at_ i f hf
      rw [h1, Option.map_some, Option.map_some, h2]
  · rw [if_neg hik, if_neg hik]
 have hheads : ∀ k, headsE gs fs' k = 0 := fun k => by
  have h6 := h4 k
  unfold headsE fNames at h6 ⊢
  rw [hnames]
  cases hf : fs[k]? with
  | none =>
    have : fs'[k]? = none := by rw [List.getElem?_eq_none_iff] at hf ⊢; omega
    rw [this]
  | some f =>
    obtain ⟨n, bs, e1, htd, hck, hp, hn, h1b⟩ := ht k f hf
    rw [hf] at h6
    rw [e1]
    obtain ⟨q1, q2, q3, q4, -, -, -, -, -⟩ := headE_ok h6
    show headE _ ⟨f.name, f.params, (n : Int), bs⟩ = 0
    unfold headE
    rw [if_neg (by rw [q1]; simp), if_neg (by simp only [Bool.not_eq_true]; exact q2), if_neg (by show ¬ (¬ (0 ≤ f.params ∧ f.params ≤ 6) ∨ ¬ (f.params ≤ (n : Int) ∧ (n : Int) ≤ 100)); omega), if_neg]
    have := hck.len
    have := hck.many
    show ¬ (¬ (1 ≤ bs.length ∧ bs.length ≤ 40) ∨ 300 < manyOf bs)
    omega
 have hbody : ∀ k, bodiesE fs' k = 0 := fun k => by
  unfold bodiesE
  cases hf : fs[k]? with
  | none =>
    have : fs'[k]? = none := by rw [List.getElem?_eq_none_iff] at hf ⊢; omega
    rw [this]
  | some f =>
    obtain ⟨n, bs, e1, htd, hck, -⟩ := ht k f hf
    rw [e1]
    exact body_of htd (ckOk_alike hal hck) _ _
 have hmain : idxMain fs' = idxMain fs := by
  unfold idxMain
  have : fs'.findIdx? isMain = fs.findIdx? isMain := by
   have e1 : ∀ l : List DFunc, l.findIdx? isMain = (l.map (·.name)).findIdx? (fun s => s.toList == [109, 97, 105, 110]) := fun l => by
    rw [List.findIdx?_map]; rfl
   have e2 := hnames fs.length
   rw [List.take_of_length_le (by omega), List.take_of_length_le (by omega)] at e2
   rw [e1, e1, e2]
  rw [this]
 have hlast : lastE fs' = lastE fs := by
  unfold lastE
  rw [hmain]
  by_cases hm : idxMain fs < 0
  · rw [if_pos hm, if_pos hm]
  · rw [if_neg hm, if_neg hm]
    obtain ⟨m, hm1, hm2⟩ := idxMain_lt hm
    rw [hm2, Int.toNat_natCast]
    obtain ⟨f', e1, -, e3⟩ := hal.at_ m _ (List.getElem?_eq_getElem hm1)
    rw [List.getD_eq_getElem?_getD, List.getD_eq_getElem?_getD, e1, List.getElem?_eq_getElem hm1, Option.getD_some, Option.getD_some, e3]
 rw [← h]
 unfold checkF
 dsimp only
 rw [hl, hlast]
 have p1 : posF (globE gs) gs.length = gs.length := posF_all fun j _ => h3 j
 have p2 : posF (headsE gs fs') fs.length = fs.length := posF_all fun j _ => hheads j
 have p3 : posF (bodiesE fs') fs.length = fs.length := posF_all fun j _ => hbody j
 have p4 : posF (bodiesE fs) fs.length = fs.length := posF_all fun j _ => h5 j
 have p5 : posF (headsE gs fs) fs.length = fs.length := posF_all fun j _ => h4 j
 rw [p1, p2, p3, p4, p5]
 simp only [Nat.lt_irrefl, if_false]
theorem fn_td {u : DUnit} (h : checkF u = (0, 0)) (hn : NumU u) {k : Nat} {f : DFunc} (hf : u.funcs[k]? = some f) :
 TdOk f.regs.toNat f.blocks ∧ CkOk u.funcs f.blocks ∧ f.params.toNat ≤ f.regs.toNat ∧ f.regs.toNat ≤ 100 ∧ 0 ≤ f.params ∧ 0 ≤ f.regs := by
 obtain ⟨hh, hb⟩ := checkF_at h hf
 obtain ⟨-, -, p1, p2, p3, p4, l1, l2, hm⟩ := headE_ok hh
 have hsm := (checkF_small h).2 f (List.mem_of_getElem? hf)
 have hr : f.regs = ((f.regs.toNat : Nat) : Int) := by omega
 obtain ⟨h1, h2⟩ := of_body (n := f.regs.toNat) (hn f (List.mem_of_getElem? hf)) hr hb l1 l2 hm (fun x hx => (hsm.each x hx).args)
 exact ⟨h1, h2, by omega, by omega, p1, by omega⟩
theorem doB_td {n p : Nat} {bs : List DBlock} (h : TdOk n bs) (hp : p ≤ n) (hn : n ≤ 1048576) : TdOk (doN p n bs).toNat (doB p n bs) := h.kept.names hp hn
theorem doN_le {n p : Nat} {bs : List DBlock} (h : TdOk n bs) (hp : p ≤ n) : (p : Int) ≤ doN p n bs ∧ doN p n bs ≤ n := namesN_le hp h.kept.reg
theorem tidyU_check {u : DUnit} (h : checkF u = (0, 0)) (hn : NumU u) : checkF (tidyU u) = (0, 0) := by
 refine checkF_like (fs := u.funcs) h (by simp) fun k f hf => ?_
 obtain ⟨h1, h2, h3, h4, h5, h6⟩ := fn_td h hn hf
 have h7 := doN_le h1 h3
 refine ⟨(doN f.params.toNat f.regs.toNat f.blocks).toNat, doB f.params.toNat f.regs.toNat f.blocks, ?_, doB_td h1 h3 (by omega), CkOk.do h1 h2 h3, by omega, by omega, (doB_td h1 h3 (by omega)).tok.pos⟩
 rw [List.getElem?_map, hf, Int.toNat_of_nonneg (by omega)]; rfl
end Go.Proofs.YtnkogppgacappaaGreatDoor

namespace Go.Proofs.YtnkogppgacappaaGreatDoor
open Go.RowKit

set_option maxRecDepth 100000 in
set_option maxHeartbeats 1000000 in
theorem large_no {S : Nat → Prop} (nm : ByteArray) (p r : Int) (ba : Option Addr) (n bc : Nat) (bs : List DBlock) (w : World) (hb : SlAt S w 6 rBlock (.slice ba n bc) bs) (hbn : bs.length = n)
 (h1 : n ≤ 40) (h2 : manyOf bs ≤ 300) (h3 : r ≤ 100) (h4 : 0 ≤ r) :
 Calls Tryz.prog 71 #[.agg #[.string nm, .int .i64 p, .int .i64 r, .slice ba n bc]] w fun e w' => e = .returned (.bool false) ∧ Below w.heap.size w w' := by
 have Hb := hid hb
 have Hbn := hid hbn
 clear hb hbn
 go_enter Tryz.func71, Tryz.ntmps71
 go_wp2_with fail
 go_loopw [3, 9] (fun m i wr => ∃ k : Nat, k ≤ n ∧ i = .int .i64 k ∧ m = .int .i64 (manyOf (bs.take k) : Nat) ∧ Below (w.heap.size + 1) (w.alloc (Obj.cells #[.string nm, .int .i64 p, .int .i64 r, .slice ba n bc] 38)) wr)
  (fun _ i _ => n - (intOf i).toNat)
 case atStart => exact ⟨0, Nat.zero_le _, rfl, rfl, Below.refl _ _⟩
 case round =>
  obtain ⟨k, hk, rfl, rfl, hbl⟩ := hrel
  by_cases hlt : k < n
  · have hlt2 : k < bs.length := by rw [Hbn.out]; exact hlt
    have hmt := manyOf_take bs k hlt2
    have hml := manyOf_le bs (k + 1)
    have hbl2 := hid hbl
    have hn2 := ((Below.refl w.heap.size w).alloc (Nat.le_refl _) _).trans (hbl.mono (by simp))
    obtain ⟨b, off, cs, rfl, hS, hx, hcl, hcs⟩ := (Hb.out.later rBlock_mono hn2).get hlt2
    obtain ⟨pa, pc, la, lc, ta, tc, rfl, -, -, -, hpm, hlm2, htm, -, -⟩ := hx.opens
    obtain ⟨c0, c1, c2, c3, c4, c5⟩ := hcs.get6
    have hsz := hbl.size
    simp at hsz
    clear hbl hn2 hcs hcl hx
    go_wp2_with fail
    go_roundw
    case rel => exact ⟨k + 1, by omega, by go_num, by rw [hmt]; go_num, by have h := hbl2.out; (have hz0 := (h).size; have hy0 := hz0; (try simp at hy0); repeat (first | exact Below.refl _ _ | refine Below.trans ?_ ((h).mono (by first|omega|(simp<;>omega))) | refine Below.alloc ?_ (by first|omega|(simp<;>omega)) _ | refine Below.setCell ?_ (by first|omega|(simp<;>omega)) _ | refine below_drewN ?_ _ | refine Below.drew ?_))⟩
    case measure => simp [intOf]; omega
  · obtain ⟨hc, hf⟩ := below_cells hbl
    have hbl2 := hid hbl
    have hsz := hbl.size
    simp at hsz
    clear hbl
    obtain rfl : k = n := by omega
    rw [List.take_of_length_le (by rw [Hbn.out]; exact Nat.le_refl _)]
    generalize hmany : manyOf bs = many at *
    clear hmany
    have hD : (decide (40 < (k : Int)) || decide (300 < (many : Int)) || decide (100 < r)) = false := by
     simp only [Bool.or_eq_false_iff, decide_eq_false_iff_not]; omega
    have HD := hid hD
    clear hD
    go_wp2_with fail
    go_ret
    exact ⟨congrArg (fun b => Ending.returned (Value.bool b)) HD.out, by have h := hbl2.out; (have hz0 := (h).size; have hy0 := hz0; (try simp at hy0); repeat (first | exact Below.refl _ _ | refine Below.trans ?_ ((h).mono (by first|omega|(simp<;>omega))) | refine Below.alloc ?_ (by first|omega|(simp<;>omega)) _ | refine Below.setCell ?_ (by first|omega|(simp<;>omega)) _ | refine below_drewN ?_ _ | refine Below.drew ?_))⟩

end Go.Proofs.YtnkogppgacappaaGreatDoor
