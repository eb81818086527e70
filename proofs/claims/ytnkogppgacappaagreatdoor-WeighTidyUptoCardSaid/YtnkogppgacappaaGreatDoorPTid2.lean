/- tidy, plain: names are given by one table, the last one; what is asked stays. -/
import Derived.Test.YtnkogppgacappaaGreatDoorPDoOf
import Derived.Test.YtnkogppgacappaaGreatDoorPNm3
import Derived.Test.YtnkogppgacappaaGreatDoorPRename
namespace Go.Proofs.YtnkogppgacappaaGreatDoor

structure Ext (s s' : Nm) : Prop where
 many : s.many ≤ s'.many
 at_ : ∀ r : Nat, 0 ≤ s.now.getD r 0 → s.now.length = s'.now.length → s'.now.getD r 0 = s.now.getD r 0
 len : s'.now.length = s.now.length
theorem Ext.refl (s : Nm) : Ext s s := ⟨Int.le_refl _, fun _ _ _ => rfl, rfl⟩
theorem Ext.trans {s s' s'' : Nm} (h : Ext s s') (k : Ext s' s'') : Ext s s'' :=
 ⟨Int.le_trans h.many k.many, fun r h0 _ => by
   have e := h.at_ r h0 h.len.symm
   rw [← e]
   exact k.at_ r (by rw [e]; exact h0) k.len.symm, k.len.trans h.len⟩
theorem ext_nmS {n : Nat} {s : Nm} (_h : NmOk n s) (r : Int) : Ext s (nmS s r) := by
 unfold nmS
 by_cases h0 : s.now.getD r.toNat 0 < 0
 · rw [if_pos h0]
   refine ⟨by show s.many ≤ s.many + 1; omega, fun q hq _ => ?_, by simp⟩
   show (s.now.set r.toNat s.many).getD q 0 = _
   rw [List.getD_eq_getElem?_getD, List.getD_eq_getElem?_getD, List.getElem?_set]
   by_cases e : r.toNat = q
   · subst e; omega
   · rw [if_neg e]
 · rw [if_neg h0]; exact Ext.refl s
structure Stp (n : Nat) (f : Nm → Nm) : Prop where
 ok : ∀ s, NmOk n s → NmOk n (f s)
 ext : ∀ s, NmOk n s → Ext s (f s)
theorem Stp.id (n : Nat) : Stp n (fun s => s) := ⟨fun _ h => h, fun s _ => Ext.refl s⟩
theorem Stp.comp {n : Nat} {f g : Nm → Nm} (h : Stp n f) (k : Stp n g) : Stp n (fun s => g (f s)) := ⟨fun s hs => k.ok _ (h.ok s hs), fun s hs => (h.ext s hs).trans (k.ext _ (h.ok s hs))⟩
theorem Stp.fold {α : Type} {n : Nat} {f : Nm → α → Nm} : ∀ {l : List α}, (∀ x ∈ l, Stp n (fun s => f s x)) → Stp n (fun s => l.foldl f s)
 | [], _ => Stp.id n
 | x :: l, h => (h x (List.mem_cons_self ..)).comp (Stp.fold (l := l) fun y hy => h y (List.mem_cons_of_mem _ hy))
theorem stp_nmS {n : Nat} {r : Int} (hr : 0 ≤ r ∧ r < n) : Stp n (fun s => nmS s r) := ⟨fun _ h => h.step hr, fun _ h => ext_nmS h r⟩
theorem stp_valS {n : Nat} {v : DVal} (hv : InV n v) : Stp n (fun s => valS s v) := by
 unfold valS
 by_cases e : v.reg = true
 · simp only [if_pos e]; exact stp_nmS (hv e)
 · simp only [if_neg e]; exact Stp.id n
theorem stp_args {n : Nat} {l : List DVal} (hl : ∀ v ∈ l, InV n v) : Stp n (fun s => nmArgs s l) := Stp.fold fun v hv => stp_valS (hl v hv)
theorem stp_dst {n : Nat} {d : Int} (hd : d < n) : Stp n (fun s => nmDst s d) := by
 unfold nmDst
 by_cases e : 0 ≤ d
 · simp only [if_pos e]; exact stp_nmS ⟨e, hd⟩
 · simp only [if_neg e]; exact Stp.id n
def InI (n : Nat) (y : DIns) : Prop := InV n y.a ∧ InV n y.b ∧ (∀ v ∈ y.args, InV n v) ∧ y.dst < n
def InP (n : Nat) (p : DPhi) : Prop := (0 ≤ p.dst ∧ p.dst < n) ∧ ∀ v ∈ p.src, InV n v
theorem stp_on {n : Nat} {y : DIns} (h : InI n y) : Stp n (fun s => argsOn s y) := (stp_valS h.1).comp (stp_valS h.2.1)
theorem stp_ins {n : Nat} {y : DIns} (h : InI n y) : Stp n (fun s => nmIns s y) := ((stp_on h).comp (stp_args h.2.2.1)).comp (stp_dst h.2.2.2)
theorem stp_phiS {n : Nat} {p : DPhi} (h : InP n p) : Stp n (fun s => phiS s p) := (stp_nmS h.1).comp (stp_args h.2)
theorem stp_phis {n : Nat} {l : List DPhi} (h : ∀ p ∈ l, InP n p) : Stp n (fun s => l.foldl phiS s) := Stp.fold fun p hp => stp_phiS (h p hp)
theorem stp_list {n : Nat} {l : List DIns} (h : ∀ y ∈ l, InI n y) : Stp n (fun s => l.foldl nmIns s) := Stp.fold fun y hy => stp_ins (h y hy)
theorem stp_onOf {n : Nat} {x : DBlock} (h : RegIn n x) : Stp n (fun s => onOf s x) := (stp_phis (fun p hp => h.phi p hp)).comp (stp_list fun y hy => h.ins y hy)
theorem stp_B2 {n : Nat} {x : DBlock} (h : RegIn n x) : Stp n (fun s => nmB2 s x) := (stp_onOf h).comp (stp_valS h.on)
theorem stp_B1 {n : Nat} {x : DBlock} (h : RegIn n x) : Stp n (fun s => nmB1 s x) :=
 ((Stp.fold (f := nmPhi) fun p hp => stp_nmS (h.phi p hp).1).comp (stp_list fun y hy => h.ins y hy)).comp (stp_valS h.on)
theorem stp_par {n p : Nat} (h : p ≤ n) : Stp n (fun s => nmPar s p) := Stp.fold (f := fun s (r : Nat) => nmS s (r : Int)) fun r hr => stp_nmS (by have := List.mem_range.1 hr; omega)

def rhoS (s : Nm) (r : Int) : Int := s.now.getD r.toNat 0
def renV (f : Int → Int) (v : DVal) : DVal := if v.reg then ⟨true, f v.n⟩ else v
def renD (f : Int → Int) (d : Int) : Int := if 0 ≤ d then f d else d
def renPh (f : Int → Int) (p : DPhi) : DPhi := ⟨f p.dst, p.src.map (renV f)⟩
def renI (f : Int → Int) (y : DIns) : DIns := ⟨y.op, renD f y.dst, renV f y.a, renV f y.b, y.fn, y.args.map (renV f)⟩
def renK (f : Int → Int) (x : DBlock) : DBlock := ⟨x.phis.map (renPh f), x.list.map (renI f), ⟨x.fin.kind, renV f x.fin.on, x.fin.to⟩⟩
section
variable {n : Nat} {s sF : Nm}
theorem nmR_ext (hs : NmOk n s) {r : Int} (hr : 0 ≤ r ∧ r < n) (he : Ext (nmS s r) sF) : nmR s r = rhoS sF r ∧ 0 ≤ nmR s r ∧ nmR s r < sF.many := by
 have h := nmR_at hs hr
 have hm := he.many
 refine ⟨?_, h.1, by omega⟩
 have h3 : (nmS s r).now.getD r.toNat 0 = nmR s r := rfl
 unfold rhoS
 rw [he.at_ r.toNat (by rw [h3]; exact h.1) he.len.symm, h3]
theorem valW_ext (hs : NmOk n s) {v : DVal} (hv : InV n v) (he : Ext (valS s v) sF) : valW s v = renV (rhoS sF) v ∧ InV sF.many.toNat (valW s v) := by
 unfold valS at he
 unfold valW renV
 by_cases e : v.reg = true
 · rw [if_pos e] at he ⊢
   rw [if_pos e]
   have h := nmR_ext hs (hv e) he
   exact ⟨by rw [h.1], fun _ => by show 0 ≤ nmR s v.n ∧ nmR s v.n < _; omega⟩
 · rw [if_neg e, if_neg e]
   exact ⟨rfl, fun h => absurd h e⟩
theorem up_map {α : Type} (f : Nat → α → α) (g : α → α) {l : List α} (h : ∀ i x, l[i]? = some x → f i x = g x) : (l.mapIdx fun i x => if i < l.length then f i x else x) = l.map g := by
 apply List.ext_getElem?
 intro i
 rw [List.getElem?_mapIdx, List.getElem?_map]
 cases hx : l[i]? with
 | none => rfl
 | some x =>
   have hi := (List.getElem?_eq_some_iff.1 hx).1
   simp only [Option.map_some, if_pos hi, h i x hx]
theorem take_fold {α : Type} {f : Nm → α → Nm} {l : List α} (h : ∀ x ∈ l, Stp n (fun s => f s x)) (hs : NmOk n s) {i : Nat} {x : α} (hx : l[i]? = some x) (he : Ext (l.foldl f s) sF) :
 NmOk n ((l.take i).foldl f s) ∧ Ext (f ((l.take i).foldl f s) x) sF := by
 have h1 := (Stp.fold (f := f) (l := l.take i) fun y hy => h y (List.mem_of_mem_take hy)).ok s hs
 refine ⟨h1, ?_⟩
 have e : l = l.take (i + 1) ++ l.drop (i + 1) := (List.take_append_drop _ _).symm
 rw [e, List.foldl_append, foldl_step f s hx] at he
 have hok := (h x (List.mem_of_getElem? hx)).ok _ h1
 exact ((Stp.fold (f := f) (l := l.drop (i + 1)) fun y hy => h y (List.mem_of_mem_drop hy)).ext _ hok).trans he
theorem valsUp_ext (hs : NmOk n s) {l : List DVal} (hl : ∀ v ∈ l, InV n v) (he : Ext (nmArgs s l) sF) : valsUp s l l.length = l.map (renV (rhoS sF)) ∧ ∀ v ∈ l, InV sF.many.toNat (renV (rhoS sF) v) := by
 have hat : ∀ (i : Nat) v, l[i]? = some v → valW (nmArgs s (l.take i)) v = renV (rhoS sF) v ∧ InV sF.many.toNat (valW (nmArgs s (l.take i)) v) := fun i v hv => by
  obtain ⟨h1, h2⟩ := take_fold (f := valS) (fun v hv => stp_valS (hl v hv)) hs hv he
  exact valW_ext h1 (hl v (List.mem_of_getElem? hv)) h2
 refine ⟨up_map _ _ fun i v hv => (hat i v hv).1, fun v hv => ?_⟩
 obtain ⟨i, hi, rfl⟩ := List.getElem_of_mem hv
 have h := hat i _ (List.getElem?_eq_getElem hi)
 rw [← h.1]; exact h.2
theorem phiW_ext (hs : NmOk n s) {p : DPhi} (hp : InP n p) (he : Ext (phiS s p) sF) : phiW s p = renPh (rhoS sF) p ∧ InP sF.many.toNat (renPh (rhoS sF) p) := by
 have h1 := (stp_nmS hp.1).ok s hs
 obtain ⟨h2, h3⟩ := valsUp_ext h1 hp.2 he
 have h4 := nmR_ext hs hp.1 (((stp_args hp.2).ext _ h1).trans he)
 refine ⟨?_, ⟨?_, fun v hv => ?_⟩⟩
 · show DPhi.mk (nmR s p.dst) (valsUp _ _ _) = _
   rw [h2, h4.1]; rfl
 · show 0 ≤ rhoS sF p.dst ∧ rhoS sF p.dst < _; rw [← h4.1]; omega
 · obtain ⟨v0, h0, rfl⟩ := List.mem_map.1 (show v ∈ List.map _ _ from hv)
   exact h3 v0 h0
theorem insW_ext (hs : NmOk n s) {y : DIns} (hy : InI n y) (he : Ext (nmIns s y) sF) : insW s y = renI (rhoS sF) y ∧ InI sF.many.toNat (renI (rhoS sF) y) ∧ (0 ≤ y.dst → 0 ≤ rhoS sF y.dst) := by
 obtain ⟨ha, hb, hl, hd⟩ := hy
 have k1 := (stp_valS ha).ok s hs
 have k2 := (stp_valS hb).ok _ k1
 have k3 := (stp_args hl).ok _ k2
 have x3 : Ext (nmArgs (valS (valS s y.a) y.b) y.args) sF := ((stp_dst hd).ext _ k3).trans he
 have x2 := ((stp_args hl).ext _ k2).trans x3
 have x1 := ((stp_valS hb).ext _ k1).trans x2
 have ea := valW_ext hs ha x1
 have eb := valW_ext k1 hb x2
 obtain ⟨el, el2⟩ := valsUp_ext k2 hl x3
 have ed : dstW (nmArgs (argsOn s y) y.args) y.dst = renD (rhoS sF) y.dst ∧ renD (rhoS sF) y.dst < sF.many.toNat ∧ (0 ≤ y.dst → 0 ≤ rhoS sF y.dst) := by
  unfold dstW renD
  by_cases e : 0 ≤ y.dst
  · rw [if_pos e, if_pos e]
    have h4 := nmR_ext k3 ⟨e, hd⟩ (sF := sF) (by
     have h5 : nmIns s y = nmS (nmArgs (valS (valS s y.a) y.b) y.args) y.dst := if_pos e
     rw [← h5]; exact he)
    have h6 : nmR (nmArgs (argsOn s y) y.args) y.dst = rhoS sF y.dst := h4.1
    exact ⟨h6, by rw [← h6]; have := h4.2; show nmR (nmArgs (valS (valS s y.a) y.b) y.args) y.dst < _; omega, fun _ => by rw [← h6]; exact h4.2.1⟩
  · rw [if_neg e, if_neg e]
    exact ⟨rfl, by omega, fun h => absurd h e⟩
 refine ⟨?_, ⟨?_, ?_, fun v hv => ?_, ed.2.1⟩, ed.2.2⟩
 · unfold insW renI
   rw [ea.1, eb.1, ed.1]
   show DIns.mk _ _ _ _ _ (valsUp (valS (valS s y.a) y.b) y.args y.args.length) = _
   rw [el]
 · show InV _ (renV (rhoS sF) y.a); rw [← ea.1]; exact ea.2
 · show InV _ (renV (rhoS sF) y.b); rw [← eb.1]; exact eb.2
 · obtain ⟨v0, h0, rfl⟩ := List.mem_map.1 (show v ∈ List.map _ _ from hv)
   exact el2 v0 h0
theorem blkW_ext (hs : NmOk n s) {x : DBlock} (hx : RegIn n x) (he : Ext (nmB2 s x) sF) : blkW s x = renK (rhoS sF) x ∧ RegIn sF.many.toNat (renK (rhoS sF) x) ∧ (∀ y ∈ x.list, 0 ≤ y.dst → 0 ≤ rhoS sF y.dst) := by
 have k1 := (stp_phis (fun p hp => hx.phi p hp)).ok s hs
 have k2 := (stp_list (fun y hy => hx.ins y hy)).ok _ k1
 have x2 : Ext (onOf s x) sF := ((stp_valS hx.on).ext _ k2).trans he
 have x1 := ((stp_list (fun y hy => hx.ins y hy)).ext _ k1).trans x2
 have hp : ∀ (i : Nat) p, x.phis[i]? = some p → phiW ((x.phis.take i).foldl phiS s) p = renPh (rhoS sF) p ∧ InP sF.many.toNat (renPh (rhoS sF) p) := fun i p hp => by
  obtain ⟨h1, h2⟩ := take_fold (f := phiS) (fun p hp => stp_phiS (hx.phi p hp)) hs hp x1
  exact phiW_ext h1 (hx.phi p (List.mem_of_getElem? hp)) h2
 have hy : ∀ (i : Nat) y, x.list[i]? = some y → insW ((x.list.take i).foldl nmIns (x.phis.foldl phiS s)) y = renI (rhoS sF) y ∧ InI sF.many.toNat (renI (rhoS sF) y) ∧ (0 ≤ y.dst → 0 ≤ rhoS sF y.dst) := fun i y hy => by
  obtain ⟨h1, h2⟩ := take_fold (f := nmIns) (fun y hy => stp_ins (hx.ins y hy)) k1 hy x2
  exact insW_ext h1 (hx.ins y (List.mem_of_getElem? hy)) h2
 have ho := valW_ext k2 hx.on he
 refine ⟨?_, ⟨fun p hp2 => ?_, fun y hy2 => ?_, ?_⟩, fun y hy2 => ?_⟩
 · unfold blkW renK
   rw [show phisUp s x.phis x.phis.length = x.phis.map (renPh (rhoS sF)) from up_map _ _ fun i p h => (hp i p h).1, show listUp (x.phis.foldl phiS s) x.list x.list.length = x.list.map (renI (rhoS sF)) from up_map _ _ fun i y h => (hy i y h).1]
   rw [show valW (onOf s x) x.fin.on = renV (rhoS sF) x.fin.on from ho.1]
 · obtain ⟨p0, h0, rfl⟩ := List.mem_map.1 (show p ∈ List.map _ _ from hp2)
   obtain ⟨i, hi, rfl⟩ := List.getElem_of_mem h0
   exact (hp i _ (List.getElem?_eq_getElem hi)).2
 · obtain ⟨y0, h0, rfl⟩ := List.mem_map.1 (show y ∈ List.map _ _ from hy2)
   obtain ⟨i, hi, rfl⟩ := List.getElem_of_mem h0
   exact (hy i _ (List.getElem?_eq_getElem hi)).2.1
 · show InV _ (renV (rhoS sF) x.fin.on)
   rw [← ho.1]; exact ho.2
 · obtain ⟨i, hi, rfl⟩ := List.getElem_of_mem hy2
   exact (hy i _ (List.getElem?_eq_getElem hi)).2.2
end
def lastS (p n : Nat) (bs : List DBlock) : Nm := bs.foldl nmB2 (nmAll p n bs)
section
variable {p n : Nat} {bs : List DBlock}
theorem nmAll_ok (hp : p ≤ n) (hr : ∀ x ∈ bs, RegIn n x) : NmOk n (nmAll p n bs) := (Stp.fold (f := nmB1) fun x hx => stp_B1 (hr x hx)).ok _ ((stp_par hp).ok _ (nm0_ok n))
theorem lastS_ok (hp : p ≤ n) (hr : ∀ x ∈ bs, RegIn n x) : NmOk n (lastS p n bs) := (Stp.fold (f := nmB2) fun x hx => stp_B2 (hr x hx)).ok _ (nmAll_ok hp hr)
theorem namesB_ext (hp : p ≤ n) (hr : ∀ x ∈ bs, RegIn n x) : namesB p n bs = bs.map (renK (rhoS (lastS p n bs))) ∧ (∀ x ∈ bs, RegIn (lastS p n bs).many.toNat (renK (rhoS (lastS p n bs)) x)) ∧ ∀ x ∈ bs, ∀ y ∈ x.list, 0 ≤ y.dst → 0 ≤ rhoS (lastS p n bs) y.dst := by
 have hat : ∀ (i : Nat) x, bs[i]? = some x → blkW ((bs.take i).foldl nmB2 (nmAll p n bs)) x = renK (rhoS (lastS p n bs)) x ∧ RegIn (lastS p n bs).many.toNat (renK (rhoS (lastS p n bs)) x) ∧ (∀ y ∈ x.list, 0 ≤ y.dst → 0 ≤ rhoS (lastS p n bs) y.dst) := fun i x hx => by
  obtain ⟨h1, h2⟩ := take_fold (f := nmB2) (sF := lastS p n bs) (fun x hx => stp_B2 (hr x hx)) (nmAll_ok hp hr) hx (Ext.refl _)
  exact blkW_ext h1 (hr x (List.mem_of_getElem? hx)) h2
 have e : namesB p n bs = bs.map (renK (rhoS (lastS p n bs))) := up_map _ _ fun i x hx => (hat i x hx).1
 refine ⟨e, fun x hx => ?_, fun x hx => ?_⟩
 all_goals
  obtain ⟨i, hi, rfl⟩ := List.getElem_of_mem hx
 · exact (hat i _ (List.getElem?_eq_getElem hi)).2.1
 · exact (hat i _ (List.getElem?_eq_getElem hi)).2.2
theorem nmPar_many (hp : p ≤ n) : ∀ k, k ≤ p → (nmPar (nm0 n) k).many = (k : Int) ∧ ∀ r : Nat, k ≤ r → r < n → (nmPar (nm0 n) k).now.getD r 0 = -1
 | 0, _ => ⟨rfl, fun r _ hr => by
   show (List.replicate n (-1 : Int)).getD r 0 = -1
   rw [List.getD_eq_getElem?_getD, List.getElem?_replicate, if_pos hr]; rfl⟩
 | k + 1, hk => by
   obtain ⟨h1, h2⟩ := nmPar_many hp k (by omega)
   rw [nmPar_succ]
   have h3 := h2 k (Nat.le_refl _) (by omega)
   unfold nmS
   rw [Int.toNat_natCast, if_pos (by omega)]
   refine ⟨by show (nmPar (nm0 n) k).many + 1 = _; omega, fun r hr hn => ?_⟩
   show ((nmPar (nm0 n) k).now.set k _).getD r 0 = -1
   rw [List.getD_eq_getElem?_getD, List.getElem?_set_ne (by omega), ← List.getD_eq_getElem?_getD]
   exact h2 r (by omega) hn
theorem namesN_le (hp : p ≤ n) (hr : ∀ x ∈ bs, RegIn n x) : (p : Int) ≤ namesN p n bs ∧ namesN p n bs ≤ n := by
 have h1 := (nmPar_many hp p (Nat.le_refl _)).1
 have k1 := (stp_par hp).ok _ (nm0_ok n)
 have e1 := ((Stp.fold (f := nmB1) fun x hx => stp_B1 (hr x hx)).ext _ k1).many
 have e2 := ((Stp.fold (f := nmB2) fun x hx => stp_B2 (hr x hx)).ext _ (nmAll_ok hp hr)).many
 have h3 := (lastS_ok hp hr).many_le.2
 have e3 : namesN p n bs = (lastS p n bs).many := rfl
 refine ⟨?_, by rw [e3]; exact h3⟩
 rw [e3, ← h1]
 exact Int.le_trans e1 e2
end

theorem I64_small {N : Nat} (hN : N ≤ 1048576) {x : Int} (h : -1 ≤ x ∧ x < (N : Int)) : I64 x := by unfold I64; omega
theorem renV_i64 {N : Nat} (hN : N ≤ 1048576) {f : Int → Int} {v : DVal} (h : InV N (renV f v)) (h0 : I64 v.n) : I64 (renV f v).n := by
 unfold renV at *
 by_cases e : v.reg = true
 · rw [if_pos e] at h ⊢
   have := h rfl
   exact I64_small hN ⟨by omega, this.2⟩
 · rw [if_neg e]; exact h0
theorem TdOk.ren {n N : Nat} {bs : List DBlock} (h : TdOk n bs) (hN : N ≤ 1048576) {f : Int → Int} (hr : ∀ x ∈ bs, RegIn N (renK f x)) (hd : ∀ x ∈ bs, ∀ y ∈ x.list, 0 ≤ y.dst → 0 ≤ f y.dst) : TdOk N (bs.map (renK f)) := by
 have hto : (bs.map (renK f)).map (·.fin.to) = bs.map (·.fin.to) := by rw [List.map_map]; rfl
 have hbk : ∀ b, b < bs.length → blkOf (bs.map (renK f)) b = renK f (blkOf bs b) := fun b hb => blkOf_at (by rw [List.getElem?_map, blkOf_self bs hb]; rfl)
 have hmem : ∀ {x}, x ∈ bs.map (renK f) → ∃ x0 ∈ bs, x = renK f x0 := fun hx => by
  obtain ⟨x0, h0, rfl⟩ := List.mem_map.1 hx
  exact ⟨x0, h0, rfl⟩
 have hok : FunOk (bs.map (renK f)) := by
  refine ⟨by rw [List.length_map]; exact h.ok.len, fun x hx => ?_, fun x hx => ?_, fun x hx => ?_, fun x hx t ht => ?_, fun x hx => ?_, fun b hb q hq => ?_⟩
  · obtain ⟨x0, h0, rfl⟩ := hmem hx
    have hn := h.ok.num x0 h0
    have hx2 := hr x0 h0
    refine ⟨hn.kind, renV_i64 hN hx2.on hn.on, hn.to, fun q hq => ?_, fun y hy => ?_⟩
    · obtain ⟨q0, h1, rfl⟩ := List.mem_map.1 (show q ∈ List.map _ _ from hq)
      have hp := hx2.phi (renPh f q0) hq
      refine ⟨I64_small hN ⟨by have := hp.1.1; omega, hp.1.2⟩, fun v hv => ?_⟩
      obtain ⟨v0, h2, rfl⟩ := List.mem_map.1 (show v ∈ List.map _ _ from hv)
      exact renV_i64 hN (hp.2 _ hv) ((hn.phi q0 h1).2 v0 h2)
    · obtain ⟨y0, h1, rfl⟩ := List.mem_map.1 (show y ∈ List.map _ _ from hy)
      have hp := hx2.ins (renI f y0) hy
      obtain ⟨n1, n2, n3, n4, n5, n6⟩ := hn.ins y0 h1
      refine ⟨n1, ?_, renV_i64 hN hp.1 n3, renV_i64 hN hp.2.1 n4, n5, fun v hv => ?_⟩
      · show I64 (renD f y0.dst)
        have hd2 := hp.2.2.2
        unfold renD
        by_cases e : 0 ≤ y0.dst
        · rw [if_pos e]
          have e2 : (renI f y0).dst = f y0.dst := if_pos e
          rw [e2] at hd2
          exact I64_small hN ⟨by have := hd x0 h0 y0 h1 e; omega, hd2⟩
        · rw [if_neg e]; exact n2
      · obtain ⟨v0, h2, rfl⟩ := List.mem_map.1 (show v ∈ List.map _ _ from hv)
        exact renV_i64 hN (hp.2.2.1 _ hv) (n6 v0 h2)
  · obtain ⟨x0, h0, rfl⟩ := hmem hx
    have hs := h.ok.small x0 h0
    refine ⟨by show (List.map _ _).length ≤ _; rw [List.length_map]; exact hs.phis, by show (List.map _ _).length ≤ _; rw [List.length_map]; exact hs.list, hs.to, fun q hq => ?_, fun y hy => ?_⟩
    · obtain ⟨q0, h1, rfl⟩ := List.mem_map.1 (show q ∈ List.map _ _ from hq)
      show (List.map _ _).length ≤ _; rw [List.length_map]; exact hs.src q0 h1
    · obtain ⟨y0, h1, rfl⟩ := List.mem_map.1 (show y ∈ List.map _ _ from hy)
      show (List.map _ _).length ≤ _; rw [List.length_map]; exact hs.args y0 h1
  · obtain ⟨x0, h0, rfl⟩ := hmem hx
    exact h.ok.to2 x0 h0
  · obtain ⟨x0, h0, rfl⟩ := hmem hx
    rw [List.length_map]
    exact h.ok.toIn x0 h0 t ht
  · obtain ⟨x0, h0, rfl⟩ := hmem hx
    exact h.ok.toNd x0 h0
  · rw [List.length_map] at hb
    rw [hbk b hb] at hq
    obtain ⟨q0, h1, rfl⟩ := List.mem_map.1 (show q ∈ List.map _ _ from hq)
    rw [predsOf_tos _ _ 0 b hto]
    show (List.map _ _).length = _
    rw [List.length_map]
    exact h.ok.src b hb q0 h1
 refine ⟨hok, toOk_of hok (by rw [List.length_map]; exact h.tok.pos), fun x hx hj => ?_, ?_, fun x hx => ?_⟩
 · obtain ⟨x0, h0, rfl⟩ := hmem hx
   exact h.jump x0 h0 hj
 · rw [List.map_map, show ((fun x : DBlock => x.list.length) ∘ renK f) = fun x : DBlock => x.list.length by funext x; show (List.map _ _).length = _; rw [List.length_map]]
   exact h.sum
 · obtain ⟨x0, h0, rfl⟩ := hmem hx
   exact hr x0 h0
theorem TdOk.names {p n : Nat} {bs : List DBlock} (h : TdOk n bs) (hp : p ≤ n) (hn : n ≤ 1048576) : TdOk (namesN p n bs).toNat (namesB p n bs) := by
 obtain ⟨e, h1, h2⟩ := namesB_ext hp h.reg
 have hN := namesN_le hp h.reg
 rw [e]
 exact h.ren (by omega) h1 h2

end Go.Proofs.YtnkogppgacappaaGreatDoor
