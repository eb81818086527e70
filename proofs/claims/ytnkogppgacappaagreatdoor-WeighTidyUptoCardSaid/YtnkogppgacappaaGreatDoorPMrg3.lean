/- tidy.rename, plain: what comes from one block comes from another one; and what the rows hold meanwhile. tidy.ChainsOf, plain: a block goes into the one ahead of it. tidy.ChainsOf: what the rows hold while one block goes into another one. tidy.ChainsOf: append of one own row onto another one; the steps of a merge, in memory. -/
import Derived.Test.YtnkogppgacappaaGreatDoorPDelIns
import Derived.Test.YtnkogppgacappaaGreatDoorPKeep1
import Derived.Test.YtnkogppgacappaaGreatDoorPHasInt
import Derived.Laws.OwnMore
namespace Go.Proofs.YtnkogppgacappaaGreatDoor
open Go.RowKit

def cntJ (A : List Int) (t b : Nat) (j : Nat) : Nat := ((A.take j).filter fun a => decide (a < (b : Int)) && decide (a ≠ (t : Int))).length
theorem cntJ_succ {A : List Int} {t b j : Nat} {a : Int} (h : A[j]? = some a) : cntJ A t b (j + 1) = cntJ A t b j + if a < (b : Int) ∧ a ≠ (t : Int) then 1 else 0 := by
 unfold cntJ
 rw [List.take_add_one, h, List.filter_append, List.length_append]
 congr 1
 by_cases h1 : a < (b : Int) ∧ a ≠ (t : Int)
 · rw [if_pos h1]; simp [h1.1, h1.2]
 · rw [if_neg h1]
   have : (decide (a < (b : Int)) && decide (a ≠ (t : Int))) = false := by
    rw [Bool.eq_false_iff]; intro e; rw [Bool.and_eq_true] at e; exact h1 ⟨of_decide_eq_true e.1, of_decide_eq_true e.2⟩
   rw [Option.toList_some, List.filter_cons_of_neg (by rw [this]; exact Bool.false_ne_true)]; rfl
theorem cntJ_le (A : List Int) (t b j : Nat) : cntJ A t b j ≤ j := by
 unfold cntJ
 exact Nat.le_trans (List.length_filter_le _ _) (by rw [List.length_take]; omega)
theorem cntJ_lt {A : List Int} {t b : Nat} (h : (t : Int) ∈ A) : cntJ A t b A.length + 1 ≤ A.length := by
 unfold cntJ
 rw [List.take_length]
 exact List.length_filter_lt_length_iff_exists.2 ⟨(t : Int), h, by simp⟩
theorem idxInt_at {l : List Int} {s : Int} (h : s ∈ l) : ∃ k : Nat, idxInt l s = (k : Int) ∧ k < l.length ∧ l[k]? = some s := by
 unfold idxInt
 cases hf : l.findIdx? (fun x => decide (s = x)) with
 | none =>
   rw [List.findIdx?_eq_none_iff] at hf
   have := hf s h
   simp at this
 | some k =>
   rw [List.findIdx?_eq_some_iff_getElem] at hf
   obtain ⟨h1, h2, -⟩ := hf
   exact ⟨k, rfl, h1, by rw [List.getElem?_eq_getElem h1]; have := of_decide_eq_true h2; rw [← this]⟩
theorem mem_predsOf {l : List DBlock} {s u : Nat} {x : Int} : x ∈ predsOf l s u ↔ ∃ i y, l[i]? = some y ∧ (u : Int) ∈ y.fin.to ∧ x = ((s + i : Nat) : Int) := by
 induction l generalizing s with
 | nil => simp [predsOf]
 | cons b l ih =>
   rw [predsOf, List.mem_append, ih]
   have hh : x ∈ hits b.fin.to u s ↔ (u : Int) ∈ b.fin.to ∧ x = (s : Int) := by
    unfold hits
    rw [List.mem_map]
    constructor
    · rintro ⟨y, hy, rfl⟩
      obtain ⟨h1, h2⟩ := List.mem_filter.1 hy
      have h3 := of_decide_eq_true h2
      exact ⟨by rw [← h3]; exact h1, rfl⟩
    · rintro ⟨h1, rfl⟩
      exact ⟨(u : Int), List.mem_filter.2 ⟨h1, by simp⟩, rfl⟩
   rw [hh]
   constructor
   · rintro (⟨h1, h2⟩ | ⟨i, y, h1, h2, h3⟩)
     · exact ⟨0, b, rfl, h1, by simpa using h2⟩
     · exact ⟨i + 1, y, by simpa using h1, h2, by rw [h3]; congr 1; omega⟩
   · rintro ⟨i, y, h1, h2, h3⟩
     cases i with
     | zero => cases h1; exact .inl ⟨h2, by simpa using h3⟩
     | succ i => exact .inr ⟨i, y, by simpa using h1, h2, by rw [h3]; congr 1; omega⟩
theorem predsOf_le1 : ∀ (l : List DBlock) (s t : Nat), (∀ x ∈ l, x.fin.to.Nodup) → (predsOf l s t).length ≤ l.length
 | [], _, _, _ => by simp [predsOf]
 | b :: l, s, t, h => by
   rw [predsOf, List.length_append, List.length_cons]
   have h1 := hits_nodup (h b (List.mem_cons_self ..)) t s
   have h2 := predsOf_le1 l (s + 1) t (fun x hx => h x (List.mem_cons_of_mem _ hx))
   omega
theorem predsOf_got {l : List DBlock} {i u : Nat} {y : DBlock} (h : l[i]? = some y) (hu : (u : Int) ∈ y.fin.to) : (i : Int) ∈ predsOf l 0 u := mem_predsOf.2 ⟨i, y, h, hu, by simp⟩
def renL (A : List Int) (t b : Nat) (l : List DVal) : List DVal := insL (delL l (idxInt A (t : Int)).toNat) (cntJ A t b A.length) (l.getD (idxInt A (t : Int)).toNat ⟨false, 0⟩)
def renP (A : List Int) (t b : Nat) (p : DPhi) : DPhi := ⟨p.dst, renL A t b p.src⟩
def renUp (A : List Int) (t b : Nat) (x : DBlock) (i : Nat) : DBlock := { x with phis := x.phis.mapIdx fun m p => if m < i then renP A t b p else p }
def renB (A : List Int) (t b : Nat) (x : DBlock) : DBlock := { x with phis := x.phis.map (renP A t b) }
theorem renUp_zero (A : List Int) (t b : Nat) (x : DBlock) : renUp A t b x 0 = x := by
 have : (x.phis.mapIdx fun m p => if m < 0 then renP A t b p else p) = x.phis := by
  apply List.ext_getElem?
  intro i
  rw [mapIdx_at]
  simp
 unfold renUp
 rw [this]
theorem renUp_all (A : List Int) (t b : Nat) (x : DBlock) : renUp A t b x x.phis.length = renB A t b x := by
 have h1 : (x.phis.mapIdx fun m p => if m < x.phis.length then renP A t b p else p) = x.phis.map (renP A t b) := by
  apply List.ext_getElem?
  intro i
  rw [mapIdx_at, List.getElem?_map]
  by_cases hi : i < x.phis.length
  · simp only [if_pos hi]
  · rw [List.getElem?_eq_none (by omega)]; rfl
 unfold renUp renB
 rw [h1]
theorem renUp_src {A : List Int} {t b : Nat} {x : DBlock} {i : Nat} {p : DPhi} (hp : x.phis[i]? = some p) : srcB (renUp A t b x i) i (renL A t b p.src) = renUp A t b x (i + 1) := by
 have hi := (List.getElem?_eq_some_iff.1 hp).1
 unfold srcB renUp
 congr 1
 apply List.ext_getElem?
 intro m
 rw [List.getElem?_set, List.length_mapIdx, mapIdx_at, mapIdx_at]
 by_cases e : i = m
 · subst e
   rw [if_pos rfl, if_pos hi, hp, List.getD_eq_getElem?_getD, mapIdx_at, hp]
   simp [renP]
 · rw [if_neg e]
   congr 1
   funext q
   by_cases h : m < i
   · rw [if_pos h, if_pos (by omega)]
   · rw [if_neg h, if_neg (by omega)]
def renTo (ahd : Nat → List Int) (t b : Nat) (bs : List DBlock) (u : Int) : List DBlock := bs.set u.toNat (renB (ahd u.toNat) t b (blkOf bs u.toNat))
def renF (bs : List DBlock) (t b : Nat) (k : Nat) : List DBlock := ((blkOf bs t).fin.to.take k).foldl (renTo (predsOf bs 0) t b) bs
theorem renF_succ {bs : List DBlock} {t b k : Nat} {u : Int} (h : (blkOf bs t).fin.to[k]? = some u) : renF bs t b (k + 1) = renTo (predsOf bs 0) t b (renF bs t b k) u := by
 unfold renF
 rw [List.take_add_one, h, List.foldl_append]; rfl
theorem foldl_renTo_len (ahd : Nat → List Int) (t b : Nat) : ∀ (l : List Int) (bs : List DBlock), (l.foldl (renTo ahd t b) bs).length = bs.length
 | [], _ => rfl
 | u :: l, bs => by rw [List.foldl_cons, foldl_renTo_len ahd t b l]; simp [renTo]
theorem renF_len (bs : List DBlock) (t b k : Nat) : (renF bs t b k).length = bs.length := foldl_renTo_len _ _ _ _ _
theorem foldl_renTo_at (ahd : Nat → List Int) (t b : Nat) : ∀ (l : List Int) (bs : List DBlock), (∀ u ∈ l, 0 ≤ u ∧ u < (bs.length : Int)) → l.Nodup → ∀ v : Nat, blkOf (l.foldl (renTo ahd t b) bs) v = if (v : Int) ∈ l then renB (ahd v) t b (blkOf bs v) else blkOf bs v
 | [], bs, _, _, v => by simp
 | u :: l, bs, h, hn, v => by
   have hu := h u (List.mem_cons_self ..)
   have hl : (renTo ahd t b bs u).length = bs.length := by simp [renTo]
   rw [List.foldl_cons, foldl_renTo_at ahd t b l _ (fun x hx => by rw [hl]; exact h x (List.mem_cons_of_mem _ hx)) (List.nodup_cons.1 hn).2 v]
   have hb : blkOf (renTo ahd t b bs u) v = if v = u.toNat then renB (ahd u.toNat) t b (blkOf bs u.toNat) else blkOf bs v := blkOf_set (by omega) _ _
   rw [hb]
   by_cases e : v = u.toNat
   · have hvu : (v : Int) = u := by omega
     rw [if_pos e, if_neg (by rw [hvu]; exact (List.nodup_cons.1 hn).1), if_pos (by rw [hvu]; exact List.mem_cons_self ..), ← e]
   · have hvu : (v : Int) ≠ u := by omega
     rw [if_neg e]
     by_cases hm : (v : Int) ∈ l
     · rw [if_pos hm, if_pos (List.mem_cons_of_mem _ hm)]
     · rw [if_neg hm, if_neg fun h2 => (List.mem_cons.1 h2).elim hvu hm]
theorem renF_at {bs : List DBlock} (hto : ∀ x ∈ bs, ∀ t ∈ x.fin.to, 0 ≤ t ∧ t < (bs.length : Int)) (hnd : ∀ x ∈ bs, x.fin.to.Nodup) {t : Nat} (ht : t < bs.length) (b k v : Nat) : blkOf (renF bs t b k) v = if (v : Int) ∈ (blkOf bs t).fin.to.take k then renB (predsOf bs 0 v) t b (blkOf bs v) else blkOf bs v := by
 have hm := List.mem_of_getElem? (blkOf_self bs ht)
 exact foldl_renTo_at _ _ _ _ _ (fun u hu => hto _ hm u (List.mem_of_mem_take hu)) ((hnd _ hm).sublist (List.take_sublist _ _)) v

def srcC (bs : List DBlock) (V : Pth → Value) (C : Pth → List (List Value)) : Pth → List (List Value)
 | .src u i => elemsP bs V (.src u i)
 | q => C q
section
variable {W3 W W' : World} {base : Nat} {X : Nat → Prop} {ok : Pth → Prop} {V : Pth → Value} {C : Pth → List (List Value)} {bs : List DBlock}
theorem RwSt.srcSame {u i g P c pn pc m : Nat} {d : Value} (h : RwSt W3 W base X ok V (srcC bs V C)) (hu : u < bs.length) (hi : i < (blkOf bs u).phis.length) (hok : ok (.src u i)) (hokp : ok (.phis u)) (hv : V (.src u i) = .slice (some ⟨g, 0, none⟩) m c) (hp : V (.phis u) = .slice (some ⟨P, 0, none⟩) pn pc)
 (hc : (C (.phis u))[i]? = some [d, V (.src u i)]) {l : List DVal} (hl : l.length = m) (ho : W'.ownsRow base 72 2 (.slice (some ⟨g, 0, none⟩) m c) m (l.map cellsV).flatten) (hg : W.grownBy W' (some g)) :
 RwSt W3 (W'.setCell ⟨P, i * 2 + 1, none⟩ (.slice (some ⟨g, 0, none⟩) m c)) base X ok V (srcC (bs.set u (srcB (blkOf bs u) i l)) V C) := by
 have h1 := h.turn (p := .src u i) hok (v' := .slice (some ⟨g, 0, none⟩) m c) (xss := l.map cellsV) (by rw [List.length_map, hl]; exact ho) (cellsV_wid l) (by rw [hv]; exact hg) (fun k hk => by rw [hv]; exact .inl hk)
 have h2 := h1.set (p := .phis u) hokp (g := P) (n := pn) (c := pc) (i := i) (j := 1) (by rw [updP_ne _ _ (by simp)]; exact hp) (cs := [d, V (.src u i)]) (by rw [updP_ne _ _ (by simp)]; exact hc) (by simp [Pth.sz]) (.slice (some ⟨g, 0, none⟩) m c)
 refine h2.congr (fun q _ => ?_) (fun q _ => ?_)
 · by_cases e : q = .src u i
   · subst e; rw [updP_self, hv]
   · rw [updP_ne _ _ e]
 · by_cases e : q = .phis u
   · subst e
     rw [updP_self, updP_ne _ _ (by simp)]
     show C (.phis u) = (C (.phis u)).set i _
     rw [← hv]
     exact (list_set_self hc).symm
   · rw [updP_ne _ _ e]
     cases q with
     | src v j =>
       by_cases e2 : v = u ∧ j = i
       · obtain ⟨rfl, rfl⟩ := e2
         rw [updP_self]
         simp only [srcC, elemsP]
         rw [blkOf_set hu, if_pos rfl]
         simp only [srcB]
         rw [List.getD_eq_getElem?_getD, List.getElem?_set_self hi]; rfl
       · rw [updP_ne _ _ (by simp; intro h3 h4; exact e2 ⟨h3, h4⟩)]
         simp only [srcC, elemsP]
         rw [blkOf_set hu]
         by_cases e3 : v = u
         · subst e3
           rw [if_pos rfl]
           simp only [srcB]
           rw [List.getD_eq_getElem?_getD, List.getElem?_set_ne (fun h5 => e2 ⟨rfl, h5.symm⟩), ← List.getD_eq_getElem?_getD]
         · rw [if_neg e3]
     | _ => exact (updP_ne _ _ (by simp)).symm
end

end Go.Proofs.YtnkogppgacappaaGreatDoor

namespace Go.Proofs.YtnkogppgacappaaGreatDoor
open Go.RowKit

def emptyB : DBlock := ⟨[], [], ⟨1, ⟨false, 0⟩, []⟩⟩
def toJ (bs : List DBlock) (b : Nat) : Nat := ((blkOf bs b).fin.to.getD 0 0).toNat
def mayM (bs : List DBlock) (b : Nat) : Bool := decide ((blkOf bs b).fin.kind = 2) && decide (toJ bs b ≠ b) && decide ((blkOf bs (toJ bs b)).phis.length = 0) && decide ((predsOf bs 0 (toJ bs b)).length ≤ 1)
def renA (bs : List DBlock) (t b : Nat) : List DBlock := renF bs t b (blkOf bs t).fin.to.length
def mrgB (bs : List DBlock) (t b : Nat) : DBlock := ⟨(blkOf (renA bs t b) b).phis, (blkOf bs b).list ++ (blkOf bs t).list, (blkOf bs t).fin⟩
def mergeF (bs : List DBlock) (b : Nat) : List DBlock := ((renA bs (toJ bs b) b).set b (mrgB bs (toJ bs b) b)).set (toJ bs b) emptyB
def jN (bs : List DBlock) : Nat := bs.countP fun x => decide (x.fin.kind = 2)
def chainIn : Nat → List DBlock → Nat → List DBlock
 | 0, bs, _ => bs
 | f + 1, bs, b => if mayM bs b = true then chainIn f (mergeF bs b) b else bs
def chainsTo (bs : List DBlock) (k : Nat) : List DBlock := (List.range k).foldl (fun l b => chainIn (jN l) l b) bs
def chainsF (bs : List DBlock) : List DBlock := chainsTo bs bs.length
theorem chainsTo_succ (bs : List DBlock) (k : Nat) : chainsTo bs (k + 1) = chainIn (jN (chainsTo bs k)) (chainsTo bs k) k := by
 unfold chainsTo
 rw [List.range_succ, List.foldl_append]; rfl

structure ChOk (bs : List DBlock) : Prop where
 ok : FunOk bs
 jump : ∀ x ∈ bs, x.fin.kind = 2 → x.fin.to.length = 1
 sum : (bs.map fun x => x.list.length).sum ≤ 1048576

def leads (u : Nat) (x : DBlock) : Bool := decide ((u : Int) ∈ x.fin.to)
theorem hits_count {tg : List Int} (h : tg.Nodup) (u i : Nat) : (hits tg u i).length = if (u : Int) ∈ tg then 1 else 0 := by
 have h1 := hits_nodup h u i
 by_cases hm : (u : Int) ∈ tg
 · rw [if_pos hm]
   have : 0 < (hits tg u i).length := by
    unfold hits
    rw [List.length_map]
    exact List.length_pos_of_mem (List.mem_filter.2 ⟨hm, by simp⟩)
   omega
 · rw [if_neg hm]
   unfold hits
   rw [List.length_map, List.length_eq_zero_iff, List.filter_eq_nil_iff]
   intro a ha h2
   have := of_decide_eq_true h2
   exact hm (by rw [← this]; exact ha)
theorem preds_count : ∀ (l : List DBlock) (s u : Nat), (∀ x ∈ l, x.fin.to.Nodup) → (predsOf l s u).length = l.countP (leads u)
 | [], _, _, _ => by simp [predsOf]
 | b :: l, s, u, h => by
   rw [predsOf, List.length_append, hits_count (h b (List.mem_cons_self ..)), preds_count l (s + 1) u (fun x hx => h x (List.mem_cons_of_mem _ hx)), List.countP_cons, Nat.add_comm]
   congr 1
   unfold leads
   by_cases hm : (u : Int) ∈ b.fin.to
   · simp [hm]
   · simp [hm]
theorem mem_blkOf {bs : List DBlock} {x : DBlock} (h : x ∈ bs) : ∃ c, c < bs.length ∧ x = blkOf bs c := by
 obtain ⟨i, hi, rfl⟩ := List.getElem_of_mem h
 exact ⟨i, hi, (blkOf_at (List.getElem?_eq_getElem hi)).symm⟩
theorem blkOf_mem {bs : List DBlock} {c : Nat} (h : c < bs.length) : blkOf bs c ∈ bs := List.mem_of_getElem? (blkOf_self bs h)
theorem blkOf_get {bs : List DBlock} {c : Nat} (h : c < bs.length) : bs[c] = blkOf bs c := (blkOf_at (List.getElem?_eq_getElem h)).symm

section
variable {bs : List DBlock} {t b : Nat}
theorem renA_len (bs : List DBlock) (t b : Nat) : (renA bs t b).length = bs.length := renF_len _ _ _ _
theorem renA_at (hok : FunOk bs) (ht : t < bs.length) (c : Nat) : blkOf (renA bs t b) c = if (c : Int) ∈ (blkOf bs t).fin.to then renB (predsOf bs 0 c) t b (blkOf bs c) else blkOf bs c := by
 unfold renA
 rw [renF_at hok.toIn hok.toNd ht, List.take_length]
theorem renA_fin (hok : FunOk bs) (ht : t < bs.length) (c : Nat) : (blkOf (renA bs t b) c).fin = (blkOf bs c).fin ∧ (blkOf (renA bs t b) c).list = (blkOf bs c).list ∧ (blkOf (renA bs t b) c).phis.length = (blkOf bs c).phis.length := by
 rw [renA_at hok ht]
 split
 · exact ⟨rfl, rfl, by simp [renB]⟩
 · exact ⟨rfl, rfl, rfl⟩
theorem countP_renA (hok : FunOk bs) (ht : t < bs.length) (p : DEnd → Bool) : (renA bs t b).countP (fun x => p x.fin) = bs.countP (fun x => p x.fin) := by
 have e : (renA bs t b).map (·.fin) = bs.map (·.fin) := by
  apply List.ext_getElem?
  intro i
  rw [List.getElem?_map, List.getElem?_map]
  by_cases hi : i < bs.length
  · rw [blkOf_self bs hi, blkOf_self (renA bs t b) (by rw [renA_len]; exact hi), Option.map_some, Option.map_some, (renA_fin hok ht i).1]
  · rw [List.getElem?_eq_none (by rw [renA_len]; omega), List.getElem?_eq_none (by omega)]
 have h := congrArg (List.countP p) e
 rw [List.countP_map, List.countP_map] at h
 exact h
theorem mergeF_len (bs : List DBlock) (b : Nat) : (mergeF bs b).length = bs.length := by unfold mergeF; rw [List.length_set, List.length_set, renA_len]
theorem mergeF_at (hb : b < bs.length) (ht : toJ bs b < bs.length) (c : Nat) : blkOf (mergeF bs b) c = if c = toJ bs b then emptyB else if c = b then mrgB bs (toJ bs b) b else blkOf (renA bs (toJ bs b) b) c := by
 unfold mergeF
 rw [blkOf_set (by rw [List.length_set, renA_len]; exact ht), blkOf_set (by rw [renA_len]; exact hb)]
theorem mayM_facts (hok : ChOk bs) (hb : b < bs.length) (h : mayM bs b = true) : (blkOf bs b).fin.kind = 2 ∧ toJ bs b ≠ b ∧ (blkOf bs (toJ bs b)).phis = [] ∧ (blkOf bs b).fin.to = [((toJ bs b : Nat) : Int)] ∧ toJ bs b < bs.length ∧ (∀ c, c < bs.length → ((toJ bs b : Nat) : Int) ∈ (blkOf bs c).fin.to → c = b) := by
 unfold mayM at h
 simp only [Bool.and_eq_true, decide_eq_true_eq] at h
 obtain ⟨⟨⟨h1, h2⟩, h3⟩, h4⟩ := h
 have hl := hok.jump _ (blkOf_mem hb) h1
 have hto : (blkOf bs b).fin.to = [((toJ bs b : Nat) : Int)] ∧ toJ bs b < bs.length := by
  match hh : (blkOf bs b).fin.to, hl with
  | [u], _ =>
    have hu := hok.ok.toIn _ (blkOf_mem hb) u (by rw [hh]; simp)
    have e : ((toJ bs b : Nat) : Int) = u := by unfold toJ; rw [hh]; simp; omega
    exact ⟨by rw [e], by omega⟩
 refine ⟨h1, h2, List.eq_nil_of_length_eq_zero h3, hto.1, hto.2, fun c hc hm => ?_⟩
 have hb2 := predsOf_got (u := toJ bs b) (blkOf_self bs hb) (by rw [hto.1]; simp)
 have hc2 := predsOf_got (u := toJ bs b) (blkOf_self bs hc) hm
 match hh : predsOf bs 0 (toJ bs b), h4 with
 | [], _ => rw [hh] at hb2; exact absurd hb2 (List.not_mem_nil)
 | [x], _ =>
   rw [hh, List.mem_singleton] at hb2 hc2
   omega
theorem jN_merge (hok : ChOk bs) (hb : b < bs.length) (h : mayM bs b = true) : jN (mergeF bs b) + 1 = jN bs := by
 obtain ⟨h1, h2, -, -, h5, -⟩ := mayM_facts hok hb h
 have hr := countP_renA (b := b) hok.ok h5 (fun x => decide (x.kind = 2))
 have hbr : b < (renA bs (toJ bs b) b).length := by rw [renA_len]; exact hb
 have htr : toJ bs b < ((renA bs (toJ bs b) b).set b (mrgB bs (toJ bs b) b)).length := by rw [List.length_set, renA_len]; exact h5
 have e1 : (renA bs (toJ bs b) b)[b].fin.kind = 2 := by rw [blkOf_get hbr, (renA_fin hok.ok h5 b).1]; exact h1
 have e2 : (((renA bs (toJ bs b) b).set b (mrgB bs (toJ bs b) b))[toJ bs b]'htr).fin.kind = (blkOf bs (toJ bs b)).fin.kind := by
  rw [blkOf_get htr, blkOf_set hbr, if_neg h2, (renA_fin hok.ok h5 _).1]
 have hpos : 0 < (renA bs (toJ bs b) b).countP (fun x => decide (x.fin.kind = 2)) := List.countP_pos_iff.2 ⟨_, List.getElem_mem hbr, by simp [e1]⟩
 have e3 : (mrgB bs (toJ bs b) b).fin = (blkOf bs (toJ bs b)).fin := rfl
 unfold jN mergeF
 rw [List.countP_set htr, List.countP_set hbr, hr]
 rw [hr] at hpos
 simp only [e1, e2, e3, emptyB]
 by_cases hk : (blkOf bs (toJ bs b)).fin.kind = 2
 · simp [hk]; omega
 · simp [hk]; omega
theorem preds_merge (hok : ChOk bs) (hb : b < bs.length) (h : mayM bs b = true) {c : Nat} (hc : c ≠ toJ bs b) (hnd : ∀ x ∈ mergeF bs b, x.fin.to.Nodup) : (predsOf (mergeF bs b) 0 c).length = (predsOf bs 0 c).length := by
 obtain ⟨h1, h2, -, h4, h5, h6⟩ := mayM_facts hok hb h
 have hr := countP_renA (b := b) hok.ok h5 (fun x => decide ((c : Int) ∈ x.to))
 have hbr : b < (renA bs (toJ bs b) b).length := by rw [renA_len]; exact hb
 have htr : toJ bs b < ((renA bs (toJ bs b) b).set b (mrgB bs (toJ bs b) b)).length := by rw [List.length_set, renA_len]; exact h5
 have e1 : (renA bs (toJ bs b) b)[b].fin.to = [((toJ bs b : Nat) : Int)] := by rw [blkOf_get hbr, (renA_fin hok.ok h5 b).1]; exact h4
 have e2 : (((renA bs (toJ bs b) b).set b (mrgB bs (toJ bs b) b))[toJ bs b]'htr).fin.to = (blkOf bs (toJ bs b)).fin.to := by
  rw [blkOf_get htr, blkOf_set hbr, if_neg h2, (renA_fin hok.ok h5 _).1]
 rw [preds_count _ _ _ hnd, preds_count _ _ _ hok.ok.toNd]
 have e3 : (mrgB bs (toJ bs b) b).fin = (blkOf bs (toJ bs b)).fin := rfl
 have hcb : ¬ ((c : Int) ∈ [((toJ bs b : Nat) : Int)]) := by
  rw [List.mem_singleton]; omega
 unfold mergeF leads
 rw [List.countP_set htr, List.countP_set hbr, hr]
 simp only [e1, e2, e3, emptyB, hcb, List.not_mem_nil, decide_false, Bool.false_eq_true, if_false, Nat.sub_zero, Nat.add_zero]
 by_cases hm : (c : Int) ∈ (blkOf bs (toJ bs b)).fin.to
 · simp only [hm, decide_true, if_true]; omega
 · simp only [hm, decide_false, Bool.false_eq_true, if_false]; omega
end

theorem renL_len {A : List Int} {t b : Nat} {l : List DVal} (h : (t : Int) ∈ A) (hl : l.length = A.length) : (renL A t b l).length = l.length := by
 obtain ⟨k, h1, h2, -⟩ := idxInt_at h
 have h3 := cntJ_lt (b := b) h
 unfold renL
 rw [h1, Int.toNat_natCast, insL_len (by rw [delL_len (by omega)]; omega), delL_len (by omega)]
 omega
theorem renL_mem {A : List Int} {t b : Nat} {l : List DVal} (h : (t : Int) ∈ A) (hl : l.length = A.length) {v : DVal} (hv : v ∈ renL A t b l) : v ∈ l := by
 obtain ⟨k, h1, h2, -⟩ := idxInt_at h
 unfold renL at hv
 rw [h1, Int.toNat_natCast] at hv
 have hd : ∀ v, v ∈ delL l k → v ∈ l := fun v hv => by
  unfold delL at hv
  rcases List.mem_append.1 hv with h | h
  · exact List.mem_of_mem_take h
  · exact List.mem_of_mem_drop h
 unfold insL at hv
 rcases List.mem_append.1 hv with hv | hv
 · rcases List.mem_append.1 hv with hv | hv
   · exact hd v (List.mem_of_mem_take hv)
   · rw [List.mem_singleton] at hv
     rw [hv, List.getD_eq_getElem?_getD, List.getElem?_eq_getElem (by omega)]
     exact List.getElem_mem _
 · exact hd v (List.mem_of_mem_drop hv)
theorem sum_map_set {α : Type} (f : α → Nat) : ∀ (l : List α) (i : Nat) (a : α) (h : i < l.length), ((l.set i a).map f).sum + f l[i] = (l.map f).sum + f a
 | x :: l, 0, a, _ => by simp; omega
 | x :: l, i + 1, a, h => by
   have := sum_map_set f l i a (by simpa using h)
   simp only [List.set_cons_succ, List.map_cons, List.sum_cons, List.getElem_cons_succ]
   omega
theorem le_sum_map {α : Type} (f : α → Nat) : ∀ {l : List α} {x : α}, x ∈ l → f x ≤ (l.map f).sum
 | y :: l, x, h => by
   rw [List.map_cons, List.sum_cons]
   rcases List.mem_cons.1 h with rfl | h
   · omega
   · have := le_sum_map f h; omega
section
variable {bs : List DBlock} {t b : Nat}
theorem renA_phis (hok : FunOk bs) (ht : t < bs.length) {c : Nat} (hc : c < bs.length) {p : DPhi} (hp : p ∈ (blkOf (renA bs t b) c).phis) : ∃ p0 ∈ (blkOf bs c).phis, p.dst = p0.dst ∧ p.src.length = p0.src.length ∧ ∀ v ∈ p.src, v ∈ p0.src := by
 rw [renA_at hok ht] at hp
 split at hp
 · rename_i hm
   obtain ⟨p0, h0, rfl⟩ := List.mem_map.1 hp
   have hA := predsOf_got (blkOf_self bs ht) hm
   have hl := hok.src c hc p0 h0
   exact ⟨p0, h0, rfl, renL_len hA hl, fun v hv => renL_mem hA hl hv⟩
 · exact ⟨p, hp, rfl, rfl, fun v hv => hv⟩
theorem merge_cases (hb : b < bs.length) (ht : toJ bs b < bs.length) (c : Nat) : (c = toJ bs b ∧ blkOf (mergeF bs b) c = emptyB) ∨ (c ≠ toJ bs b ∧ c = b ∧ blkOf (mergeF bs b) c = mrgB bs (toJ bs b) b) ∨ (c ≠ toJ bs b ∧ c ≠ b ∧ blkOf (mergeF bs b) c = blkOf (renA bs (toJ bs b) b) c) := by
 rw [mergeF_at hb ht]
 by_cases h1 : c = toJ bs b
 · exact .inl ⟨h1, if_pos h1⟩
 · rw [if_neg h1]
   by_cases h2 : c = b
   · exact .inr (.inl ⟨h1, h2, if_pos h2⟩)
   · exact .inr (.inr ⟨h1, h2, if_neg h2⟩)
theorem sum_merge (hok : ChOk bs) (hb : b < bs.length) (h : mayM bs b = true) : ((mergeF bs b).map fun x => x.list.length).sum = (bs.map fun x => x.list.length).sum := by
 obtain ⟨h1, h2, -, -, h5, -⟩ := mayM_facts hok hb h
 have hbr : b < (renA bs (toJ bs b) b).length := by rw [renA_len]; exact hb
 have htr : toJ bs b < ((renA bs (toJ bs b) b).set b (mrgB bs (toJ bs b) b)).length := by rw [List.length_set, renA_len]; exact h5
 have hr : (renA bs (toJ bs b) b).map (fun x => x.list.length) = bs.map (fun x => x.list.length) := by
  apply List.ext_getElem?
  intro i
  rw [List.getElem?_map, List.getElem?_map]
  by_cases hi : i < bs.length
  · rw [blkOf_self bs hi, blkOf_self (renA bs (toJ bs b) b) (by rw [renA_len]; exact hi), Option.map_some, Option.map_some, (renA_fin hok.ok h5 i).2.1]
  · rw [List.getElem?_eq_none (by rw [renA_len]; omega), List.getElem?_eq_none (by omega)]
 have s1 := sum_map_set (fun x : DBlock => x.list.length) (renA bs (toJ bs b) b) b (mrgB bs (toJ bs b) b) hbr
 have s2 := sum_map_set (fun x : DBlock => x.list.length) ((renA bs (toJ bs b) b).set b (mrgB bs (toJ bs b) b)) (toJ bs b) emptyB htr
 rw [blkOf_get hbr, (renA_fin hok.ok h5 b).2.1, hr] at s1
 rw [blkOf_get htr, blkOf_set hbr, if_neg h2, (renA_fin hok.ok h5 _).2.1] at s2
 have s3 : (mrgB bs (toJ bs b) b).list.length = (blkOf bs b).list.length + (blkOf bs (toJ bs b)).list.length := by simp [mrgB]
 have s4 : emptyB.list.length = 0 := rfl
 unfold mergeF
 omega
theorem chOk_merge (hok : ChOk bs) (hb : b < bs.length) (h : mayM bs b = true) : ChOk (mergeF bs b) := by
 obtain ⟨h1, h2, h3, h4, h5, h6⟩ := mayM_facts hok hb h
 have hsum := sum_merge hok hb h
 have hfin : ∀ c, c < bs.length → (blkOf (mergeF bs b) c).fin = emptyB.fin ∨ ∃ d, d < bs.length ∧ (blkOf (mergeF bs b) c).fin = (blkOf bs d).fin := fun c hc => by
  rcases merge_cases hb h5 c with ⟨-, e⟩ | ⟨-, -, e⟩ | ⟨-, -, e⟩
  · exact .inl (by rw [e])
  · exact .inr ⟨_, h5, by rw [e]; rfl⟩
  · exact .inr ⟨c, hc, by rw [e, (renA_fin hok.ok h5 c).1]⟩
 have hphi : ∀ c, c < bs.length → ∀ p ∈ (blkOf (mergeF bs b) c).phis, c ≠ toJ bs b ∧ ∃ p0 ∈ (blkOf bs c).phis, p.dst = p0.dst ∧ p.src.length = p0.src.length ∧ ∀ v ∈ p.src, v ∈ p0.src := fun c hc p hp => by
  rcases merge_cases hb h5 c with ⟨-, e⟩ | ⟨e0, rfl, e⟩ | ⟨e0, -, e⟩
  · rw [e] at hp; exact absurd hp (List.not_mem_nil)
  · rw [e] at hp; exact ⟨e0, renA_phis hok.ok h5 hc hp⟩
  · rw [e] at hp; exact ⟨e0, renA_phis hok.ok h5 hc hp⟩
 have hlist : ∀ c, c < bs.length → ∀ y ∈ (blkOf (mergeF bs b) c).list, ∃ d, d < bs.length ∧ y ∈ (blkOf bs d).list := fun c hc y hy => by
  rcases merge_cases hb h5 c with ⟨-, e⟩ | ⟨-, rfl, e⟩ | ⟨-, -, e⟩
  · rw [e] at hy; exact absurd hy (List.not_mem_nil)
  · rw [e] at hy
    rcases List.mem_append.1 (show y ∈ _ ++ _ from hy) with hy | hy
    · exact ⟨c, hc, hy⟩
    · exact ⟨_, h5, hy⟩
  · rw [e, (renA_fin hok.ok h5 c).2.1] at hy; exact ⟨c, hc, hy⟩
 have hlen := mergeF_len bs b
 have hnd : ∀ x ∈ mergeF bs b, x.fin.to.Nodup := fun x hx => by
  obtain ⟨c, hc, rfl⟩ := mem_blkOf hx
  rw [hlen] at hc
  rcases hfin c hc with e | ⟨d, hd, e⟩
  · rw [e]; simp [emptyB]
  · rw [e]; exact hok.ok.toNd _ (blkOf_mem hd)
 refine ⟨⟨by rw [hlen]; exact hok.ok.len, fun x hx => ?_, fun x hx => ?_, fun x hx => ?_, fun x hx => ?_, hnd, fun c hc p hp => ?_⟩, fun x hx => ?_, by rw [hsum]; exact hok.sum⟩
 · obtain ⟨c, hc, rfl⟩ := mem_blkOf hx
   rw [hlen] at hc
   refine ⟨?_, ?_, ?_, fun p hp => ?_, fun y hy => ?_⟩
   · rcases hfin c hc with e | ⟨d, hd, e⟩
     · rw [e]; exact ⟨by decide, by decide⟩
     · rw [e]; exact (hok.ok.num _ (blkOf_mem hd)).kind
   · rcases hfin c hc with e | ⟨d, hd, e⟩
     · rw [e]; exact ⟨by decide, by decide⟩
     · rw [e]; exact (hok.ok.num _ (blkOf_mem hd)).on
   · rcases hfin c hc with e | ⟨d, hd, e⟩
     · rw [e]; intro u hu; exact absurd hu (List.not_mem_nil)
     · rw [e]; exact (hok.ok.num _ (blkOf_mem hd)).to
   · obtain ⟨-, p0, h0, e1, -, e3⟩ := hphi c hc p hp
     have hn := (hok.ok.num _ (blkOf_mem hc)).phi p0 h0
     exact ⟨by rw [e1]; exact hn.1, fun v hv => hn.2 v (e3 v hv)⟩
   · obtain ⟨d, hd, hy2⟩ := hlist c hc y hy
     exact (hok.ok.num _ (blkOf_mem hd)).ins y hy2
 · have hxs := le_sum_map (fun x : DBlock => x.list.length) hx
   obtain ⟨c, hc, rfl⟩ := mem_blkOf hx
   rw [hlen] at hc
   refine ⟨?_, ?_, ?_, fun p hp => ?_, fun y hy => ?_⟩
   · rcases merge_cases hb h5 c with ⟨-, e⟩ | ⟨-, rfl, e⟩ | ⟨-, -, e⟩
     · rw [e]; exact Nat.zero_le _
     · rw [e]; show (blkOf (renA bs (toJ bs c) c) c).phis.length ≤ _; rw [(renA_fin hok.ok h5 c).2.2]; exact (hok.ok.small _ (blkOf_mem hc)).phis
     · rw [e, (renA_fin hok.ok h5 c).2.2]; exact (hok.ok.small _ (blkOf_mem hc)).phis
   · exact Nat.le_trans hxs (by rw [hsum]; exact hok.sum)
   · rcases hfin c hc with e | ⟨d, hd, e⟩
     · rw [e]; exact Nat.zero_le _
     · rw [e]; exact (hok.ok.small _ (blkOf_mem hd)).to
   · obtain ⟨-, p0, h0, -, e2, -⟩ := hphi c hc p hp
     rw [e2]; exact (hok.ok.small _ (blkOf_mem hc)).src p0 h0
   · obtain ⟨d, hd, hy2⟩ := hlist c hc y hy
     exact (hok.ok.small _ (blkOf_mem hd)).args y hy2
 · obtain ⟨c, hc, rfl⟩ := mem_blkOf hx
   rw [hlen] at hc
   rcases hfin c hc with e | ⟨d, hd, e⟩
   · rw [e]; exact Nat.zero_le _
   · rw [e]; exact hok.ok.to2 _ (blkOf_mem hd)
 · obtain ⟨c, hc, rfl⟩ := mem_blkOf hx
   rw [hlen] at hc ⊢
   rcases hfin c hc with e | ⟨d, hd, e⟩
   · rw [e]; intro u hu; exact absurd hu (List.not_mem_nil)
   · rw [e]; exact hok.ok.toIn _ (blkOf_mem hd)
 · rw [hlen] at hc
   obtain ⟨e0, p0, h0, -, e2, -⟩ := hphi c hc p hp
   rw [e2, preds_merge hok hb h e0 hnd]
   exact hok.ok.src c hc p0 h0
 · obtain ⟨c, hc, rfl⟩ := mem_blkOf hx
   rw [hlen] at hc
   rcases hfin c hc with e | ⟨d, hd, e⟩
   · rw [e]; intro hk; exact absurd hk (by decide)
   · rw [e]; exact hok.jump _ (blkOf_mem hd)
end

end Go.Proofs.YtnkogppgacappaaGreatDoor

namespace Go.Proofs.YtnkogppgacappaaGreatDoor
open Go.RowKit

def addB (bs : List DBlock) (b t : Nat) : DBlock := { blkOf bs b with list := (blkOf bs b).list ++ (blkOf bs t).list }
def addC (bs : List DBlock) (V : Pth → Value) (b t : Nat) : Pth → List (List Value) := updP (elemsP bs V) (.list b) (elemsP bs V (.list b) ++ elemsP bs V (.list t))
theorem addC_ne {bs : List DBlock} {V : Pth → Value} {b t : Nat} (q : Pth) (h : ∀ i, q ≠ .list i) : addC bs V b t q = elemsP bs V q := updP_ne _ _ (h b)
theorem addB_fin (bs : List DBlock) (b t : Nat) (hb : b < bs.length) (i : Nat) : (blkOf (bs.set b (addB bs b t)) i).fin = (blkOf bs i).fin := by
 rw [blkOf_set hb]
 split
 · rename_i e; subst e; rfl
 · rfl
theorem rows_added {W : World} {base : Nat} {bs : List DBlock} {V : Pth → Value} {b t : Nat} (h : RowsAt W base (okP bs) V (addC bs V b t)) (hn : ∀ x ∈ bs, NumB x) (hb : b < bs.length) (ht : t < bs.length) :
 SlAt (fun x => base ≤ x ∧ x < W.heap.size) W 6 rBlock (V .blks) (bs.set b (addB bs b t)) := by
 have hbo : ∀ c, blkOf (bs.set b (addB bs b t)) c = if c = b then addB bs b t else blkOf bs c := blkOf_set hb _
 refine RowsAt.read (r := rBlock) h (p := .blks) trivial (by rw [addC_ne _ (by simp)]; simp [elemsP]) (fun c x hx => ?_)
 have hc : c < bs.length := by have := (List.getElem?_eq_some_iff.1 hx).1; simpa using this
 have hxo := blkOf_at hx
 have hnc := hn _ (blkOf_mem hc)
 have hfin : x.fin = (blkOf bs c).fin := by rw [← hxo, addB_fin bs b t hb]
 have hphi : x.phis = (blkOf bs c).phis := by
  rw [← hxo, hbo]
  split
  · rename_i e; subst e; rfl
  · rfl
 refine ⟨_, by rw [addC_ne _ (by simp)]; show (bs.mapIdx _)[c]? = _; rw [mapIdx_at, blkOf_self bs hc]; rfl, V (.phis c), V (.list c), _, rfl, ?_, ?_, V (.to c), by rw [hfin], ?_, by rw [hfin]; exact hnc.kind, by rw [hfin]; exact hnc.on⟩
 · refine RowsAt.read (r := rPhi) h (p := .phis c) hc (by rw [addC_ne _ (by simp), hphi]; simp [elemsP]) (fun i p hp => ?_)
   rw [hphi] at hp
   refine ⟨_, by rw [addC_ne _ (by simp)]; show ((blkOf bs c).phis.mapIdx _)[i]? = _; rw [mapIdx_at, hp]; rfl, V (.src c i), rfl, ?_, (hnc.phi p (List.mem_of_getElem? hp)).1⟩
   have hpo : (blkOf bs c).phis.getD i noPhiP = p := by rw [List.getD_eq_getElem?_getD, hp]; rfl
   refine RowsAt.read (r := rVal) h (p := .src c i) (show i < (blkOf bs c).phis.length from (List.getElem?_eq_some_iff.1 hp).1) (by rw [addC_ne _ (by simp)]; simp only [elemsP]; rw [hpo, List.length_map]) (fun j v hv => ?_)
   exact ⟨cellsV v, by rw [addC_ne _ (by simp)]; simp only [elemsP]; rw [hpo, List.getElem?_map, hv]; rfl, rfl, (hnc.phi p (List.mem_of_getElem? hp)).2 v (List.mem_of_getElem? hv)⟩
 · have ins : ∀ d, d < bs.length → ∀ i y, (blkOf bs d).list[i]? = some y → rIns (fun x => base ≤ x ∧ x < W.heap.size) W (cellsI y (V (.args d i))) y := fun d hd i y hy => by
    obtain ⟨n1, n2, n3, n4, n5, n6⟩ := (hn _ (blkOf_mem hd)).ins y (List.mem_of_getElem? hy)
    refine ⟨_, rfl, ?_, n1, n2, n3, n4, n5⟩
    have hpo : (blkOf bs d).list.getD i noInsP = y := by rw [List.getD_eq_getElem?_getD, hy]; rfl
    refine RowsAt.read (r := rVal) h (p := .args d i) (show i < (blkOf bs d).list.length from (List.getElem?_eq_some_iff.1 hy).1) (by rw [addC_ne _ (by simp)]; simp only [elemsP]; rw [hpo, List.length_map]) (fun j v hv => ?_)
    exact ⟨cellsV v, by rw [addC_ne _ (by simp)]; simp only [elemsP]; rw [hpo, List.getElem?_map, hv]; rfl, rfl, n6 v (List.mem_of_getElem? hv)⟩
   by_cases e : c = b
   · subst e
     have hxl : x.list = (blkOf bs c).list ++ (blkOf bs t).list := by rw [← hxo, hbo, if_pos rfl]; rfl
     have hC : addC bs V c t (.list c) = ((blkOf bs c).list.mapIdx fun i x => cellsI x (V (.args c i))) ++ ((blkOf bs t).list.mapIdx fun i x => cellsI x (V (.args t i))) := by unfold addC; rw [updP_self]; rfl
     refine RowsAt.read (r := rIns) h (p := .list c) hc (by rw [hC, hxl]; simp) (fun i y hy => ?_)
     rw [hxl] at hy
     rw [hC]
     by_cases hi : i < (blkOf bs c).list.length
     · rw [List.getElem?_append_left hi] at hy
       exact ⟨_, by rw [List.getElem?_append_left (by simpa using hi), mapIdx_at, hy]; rfl, ins c hc i y hy⟩
     · rw [List.getElem?_append_right (by omega)] at hy
       refine ⟨_, by rw [List.getElem?_append_right (by simp; omega), List.length_mapIdx, mapIdx_at, hy]; rfl, ins t ht _ y hy⟩
   · have hxl : x.list = (blkOf bs c).list := by rw [← hxo, hbo, if_neg e]
     have hC : addC bs V b t (.list c) = elemsP bs V (.list c) := updP_ne _ _ (by simp [e])
     refine RowsAt.read (r := rIns) h (p := .list c) hc (by rw [hC, hxl]; simp [elemsP]) (fun i y hy => ?_)
     rw [hxl] at hy
     rw [hC]
     exact ⟨_, by show ((blkOf bs c).list.mapIdx _)[i]? = _; rw [mapIdx_at, hy]; rfl, ins c hc i y hy⟩
 · refine RowsAt.read (r := rInt) h (p := .to c) hc (by rw [addC_ne _ (by simp), hfin]; simp [elemsP]) (fun i u hu => ?_)
   rw [hfin] at hu
   exact ⟨[.int .i64 u], by rw [addC_ne _ (by simp)]; show ((blkOf bs c).fin.to.map _)[i]? = _; rw [List.getElem?_map, hu]; rfl, rfl, hnc.to u (List.mem_of_getElem? hu)⟩

def mrgP (bs : List DBlock) (b t : Nat) : Pth → Pth
 | .to c => if c = b then .to t else .to c
 | .args c i => if c = b ∧ (blkOf bs b).list.length ≤ i then .args t (i - (blkOf bs b).list.length) else .args c i
 | q => q
def mrgV (bs : List DBlock) (b t : Nat) (V : Pth → Value) : Pth → Value := updP (updP (updP (fun q => V (mrgP bs b t q)) (.phis t) (.slice none 0 0)) (.list t) (.slice none 0 0)) (.to t) (.slice none 0 0)
theorem RwSt.map {W3 W : World} {base : Nat} {X : Nat → Prop} {ok ok' : Pth → Prop} {V : Pth → Value} {C : Pth → List (List Value)} (h : RwSt W3 W base X ok V C) (f : Pth → Pth) (ht : ∀ p, (f p).ty = p.ty ∧ (f p).sz = p.sz) (ho : ∀ p, ok' p → ok (f p)) (hi : ∀ p q, ok' p → ok' q → f p = f q → p = q) : RwSt W3 W base X ok' (fun p => V (f p)) (fun p => C (f p)) :=
 ⟨h.rows.map f ht ho hi, fun p hp => h.off (f p) (ho p hp), h.low, h.kept, h.old, h.le⟩
theorem merge_rows {W3 W : World} {base : Nat} {X : Nat → Prop} {bs : List DBlock} {V : Pth → Value} {b : Nat} {C : Pth → List (List Value)} (hok : ChOk bs) (hb : b < bs.length) (hm : mayM bs b = true)
 (h : RwSt W3 W base X (okP bs) V C) (hC : ∀ q, q ≠ .blks → C q = srcC (renA bs (toJ bs b) b) V (addC bs V b (toJ bs b)) q)
 (hblk : C .blks = ((elemsP bs V .blks).set b (cellsB (mrgB bs (toJ bs b) b) (V (.phis b)) (V (.list b)) (V (.to (toJ bs b))))).set (toJ bs b) (cellsB emptyB (.slice none 0 0) (.slice none 0 0) (.slice none 0 0))) :
 RwSt W3 W base X (okP (mergeF bs b)) (mrgV bs b (toJ bs b) V) (elemsP (mergeF bs b) (mrgV bs b (toJ bs b) V)) := by
 obtain ⟨h1, h2, h3, h4, h5, h6⟩ := mayM_facts hok hb hm
 obtain ⟨t, ht⟩ : ∃ t, t = toJ bs b := ⟨_, rfl⟩
 rw [← ht] at h2 h3 h5 hC hblk ⊢
 have hat : ∀ c, blkOf (mergeF bs b) c = if c = t then emptyB else if c = b then mrgB bs t b else blkOf (renA bs t b) c := fun c => by rw [ht]; exact mergeF_at hb (by rw [← ht]; exact h5) c
 have hren := fun c => renA_fin (b := b) hok.ok h5 c
 have hl := mergeF_len bs b
 have hphl : ∀ c, c ≠ t → (blkOf (mergeF bs b) c).phis = (blkOf (renA bs t b) c).phis := fun c hc => by
  rw [hat, if_neg hc]
  split
  · rename_i e; subst e; rfl
  · rfl
 have hm1 := h.map (ok' := fun q => okP (mergeF bs b) q ∧ q ≠ .phis t ∧ q ≠ .list t ∧ q ≠ .to t) (mrgP bs b t) (fun p => by
  cases p <;> first
   | exact ⟨rfl, rfl⟩
   | (simp only [mrgP]; split <;> exact ⟨rfl, rfl⟩)) (fun q hq => by
  obtain ⟨hq, n1, n2, n3⟩ := hq
  cases q with
  | blks => exact trivial
  | phis c => have : c < _ := hq; show c < bs.length; omega
  | src c i =>
    have hq' : i < (blkOf (mergeF bs b) c).phis.length := hq
    by_cases hc : c = t
    · rw [hat, if_pos hc] at hq'; exact absurd hq' (Nat.not_lt_zero _)
    · rw [hphl c hc, (hren c).2.2] at hq'; exact hq'
  | list c => have : c < _ := hq; show c < bs.length; omega
  | args c i =>
    have hq' : i < (blkOf (mergeF bs b) c).list.length := hq
    rw [hat] at hq'
    by_cases hc : c = t
    · rw [if_pos hc] at hq'; exact absurd hq' (Nat.not_lt_zero _)
    · rw [if_neg hc] at hq'
      by_cases hcb : c = b
      · rw [if_pos hcb] at hq'
        have hq2 : i < ((blkOf bs b).list ++ (blkOf bs t).list).length := hq'
        rw [List.length_append] at hq2
        simp only [mrgP]
        by_cases hi : (blkOf bs b).list.length ≤ i
        · rw [if_pos ⟨hcb, hi⟩]; show _ < _; omega
        · rw [if_neg (fun h => hi h.2), hcb]; show _ < _; omega
      · rw [if_neg hcb, (hren c).2.1] at hq'
        simp only [mrgP]
        rw [if_neg (fun h => hcb h.1)]; exact hq'
  | «to» c =>
    have hq' : c < (mergeF bs b).length := hq
    simp only [mrgP]
    split
    · exact h5
    · show c < bs.length; omega
  | vBlk => exact absurd hq id
  | vPhi => exact absurd hq id
  | vIns => exact absurd hq id) (fun p q hp hq e => by
  obtain ⟨hp, p1, p2, p3⟩ := hp
  obtain ⟨hq, q1, q2, q3⟩ := hq
  have hargs : ∀ c i, okP (mergeF bs b) (.args c i) → c ≠ t := fun c i h hc => by
   have h' : i < (blkOf (mergeF bs b) c).list.length := h
   rw [hat, if_pos hc] at h'; exact absurd h' (Nat.not_lt_zero _)
  cases p <;> cases q <;> first
   | exact e
   | exact absurd hp id
   | exact absurd hq id
   | (simp only [mrgP] at e; done)
   | (simp only [mrgP] at e; split at e <;> simp only [reduceCtorEq] at e; done)
   | (simp only [mrgP] at e; split at e <;> split at e <;> simp only [reduceCtorEq] at e; done)
   | (rename_i c d
      simp only [mrgP] at e
      have hc : c ≠ t := fun h => p3 (by rw [h])
      have hd : d ≠ t := fun h => q3 (by rw [h])
      by_cases e1 : c = b <;> by_cases e2 : d = b <;> simp only [e1, e2, if_true, if_false, Pth.to.injEq] at e
      · rw [e1, e2]
      · exact absurd e.symm hd
      · exact absurd e hc
      · rw [e])
   | (rename_i c i d j
      simp only [mrgP] at e
      have hc := hargs c i hp
      have hd := hargs d j hq
      by_cases e1 : c = b ∧ (blkOf bs b).list.length ≤ i <;> by_cases e2 : d = b ∧ (blkOf bs b).list.length ≤ j
      · rw [if_pos e1, if_pos e2] at e
        simp only [Pth.args.injEq, true_and] at e
        rw [e1.1, e2.1]; congr 1; omega
      · rw [if_pos e1, if_neg e2] at e
        simp only [Pth.args.injEq] at e
        exact absurd e.1.symm hd
      · rw [if_neg e1, if_pos e2] at e
        simp only [Pth.args.injEq] at e
        exact absurd e.1 hc
      · rw [if_neg e1, if_neg e2] at e
        exact e))
 have hm2 := ((hm1.nil (.phis t) (fun h => h.2.1 rfl)).nil (.list t) (fun h => h.elim (fun h => h.2.2.1 rfl) (by simp))).nil (.to t) (fun h => h.elim (fun h => h.elim (fun h => h.2.2.2 rfl) (by simp)) (by simp))
 refine (hm2.less (ok' := okP (mergeF bs b)) fun q hq => ?_).congr (fun q _ => rfl) (fun q hq => ?_)
 · by_cases e1 : q = .to t
   · exact .inr e1
   · by_cases e2 : q = .list t
     · exact .inl (.inr e2)
     · by_cases e3 : q = .phis t
       · exact .inl (.inl (.inr e3))
       · exact .inl (.inl (.inl ⟨hq, e3, e2, e1⟩))
 · have hV : ∀ q, q ≠ .phis t → q ≠ .list t → q ≠ .to t → mrgV bs b t V q = V (mrgP bs b t q) := fun q n1 n2 n3 => by
    unfold mrgV; rw [updP_ne _ _ n3, updP_ne _ _ n2, updP_ne _ _ n1]
   have hVt : mrgV bs b t V (.phis t) = .slice none 0 0 ∧ mrgV bs b t V (.list t) = .slice none 0 0 ∧ mrgV bs b t V (.to t) = .slice none 0 0 := by
    unfold mrgV
    refine ⟨?_, ?_, updP_self _ _ _⟩
    · rw [updP_ne _ _ (by simp), updP_ne _ _ (by simp), updP_self]
    · rw [updP_ne _ _ (by simp), updP_self]
   by_cases e1 : q = .to t
   · subst e1
     rw [updP_self]
     simp only [elemsP]
     rw [hat, if_pos rfl]; rfl
   rw [updP_ne _ _ e1]
   by_cases e2 : q = .list t
   · subst e2
     rw [updP_self]
     simp only [elemsP]
     rw [hat, if_pos rfl]; rfl
   rw [updP_ne _ _ e2]
   by_cases e3 : q = .phis t
   · subst e3
     rw [updP_self]
     simp only [elemsP]
     rw [hat, if_pos rfl]; rfl
   rw [updP_ne _ _ e3]
   cases q with
   | blks =>
     show _ = C .blks
     rw [hblk]
     simp only [elemsP]
     apply List.ext_getElem?
     intro c
     rw [mapIdx_at, List.getElem?_set, List.length_set, List.length_mapIdx, List.getElem?_set, List.length_mapIdx, mapIdx_at]
     by_cases hc : c < bs.length
     · rw [blkOf_self (mergeF bs b) (by omega), blkOf_self bs hc, Option.map_some, Option.map_some, hat]
       by_cases ct : c = t
       · subst ct
         rw [if_pos rfl, if_pos rfl, if_pos hc, hVt.1, hVt.2.1, hVt.2.2]
       · rw [if_neg ct, if_neg (show ¬ t = c from fun h => ct h.symm), hV (.phis c) (by simp [ct]) (by simp) (by simp), hV (.list c) (by simp) (by simp [ct]) (by simp), hV (.to c) (by simp) (by simp) (by simp [ct])]
         by_cases cb : c = b
         · subst cb
           rw [if_pos rfl, if_pos rfl, if_pos hc]
           simp only [mrgP, if_true]
         · rw [if_neg cb, if_neg (show ¬ b = c from fun h => cb h.symm)]
           simp only [mrgP, if_neg cb, cellsB, (hren c).1]
     · rw [List.getElem?_eq_none (l := mergeF bs b) (by omega), List.getElem?_eq_none (l := bs) (by omega), if_neg (by omega), if_neg (by omega)]; rfl
   | phis c =>
     have hct : c ≠ t := fun h => e3 (by rw [h])
     show _ = C (.phis c)
     rw [hC _ (by simp)]
     show _ = addC bs V b t (.phis c)
     rw [addC_ne _ (by simp)]
     simp only [elemsP]
     rw [hphl c hct]
     apply List.ext_getElem?
     intro i
     rw [mapIdx_at, mapIdx_at, hV (.src c i) (by simp) (by simp) (by simp)]
     simp only [mrgP]
     rw [renA_at hok.ok h5]
     split
     · simp only [renB, List.getElem?_map, Option.map_map]
       congr 1
     · rfl
   | src c i =>
     have hct : c ≠ t := fun h => by
      have hq' : i < (blkOf (mergeF bs b) c).phis.length := hq
      rw [hat, if_pos h] at hq'; exact absurd hq' (Nat.not_lt_zero _)
     show _ = C (.src c i)
     rw [hC _ (by simp)]
     simp only [srcC, elemsP]
     rw [hphl c hct]
   | list c =>
     have hct : c ≠ t := fun h => e2 (by rw [h])
     show _ = C (.list c)
     rw [hC _ (by simp)]
     show _ = addC bs V b t (.list c)
     simp only [elemsP]
     rw [hat, if_neg hct]
     by_cases cb : c = b
     · subst cb
       rw [if_pos rfl]
       unfold addC
       rw [updP_self]
       simp only [mrgB, elemsP]
       apply List.ext_getElem?
       intro i
       rw [mapIdx_at, hV (.args c i) (by simp) (by simp) (by simp)]
       simp only [mrgP, true_and]
       by_cases hi : i < (blkOf bs c).list.length
       · rw [List.getElem?_append_left hi, List.getElem?_append_left (by simpa using hi), mapIdx_at, if_neg (by omega)]
       · rw [List.getElem?_append_right (by omega), List.getElem?_append_right (by simp; omega), List.length_mapIdx, mapIdx_at, if_pos (by omega)]
     · rw [if_neg cb]
       unfold addC
       rw [updP_ne _ _ (by simp [cb])]
       simp only [elemsP]
       rw [(hren c).2.1]
       apply List.ext_getElem?
       intro i
       rw [mapIdx_at, mapIdx_at, hV (.args c i) (by simp) (by simp) (by simp)]
       simp only [mrgP]
       rw [if_neg (fun h => cb h.1)]
   | args c i =>
     have hct : c ≠ t := fun h => by
      have hq' : i < (blkOf (mergeF bs b) c).list.length := hq
      rw [hat, if_pos h] at hq'; exact absurd hq' (Nat.not_lt_zero _)
     show _ = C (mrgP bs b t (.args c i))
     simp only [elemsP]
     rw [hat, if_neg hct]
     by_cases cb : c = b
     · subst cb
       rw [if_pos rfl]
       simp only [mrgP, true_and, mrgB]
       by_cases hi : (blkOf bs c).list.length ≤ i
       · rw [if_pos hi, hC _ (by simp)]
         show _ = addC bs V c t (.args t _)
         rw [addC_ne _ (by simp)]
         simp only [elemsP]
         rw [List.getD_eq_getElem?_getD, List.getElem?_append_right hi, ← List.getD_eq_getElem?_getD]
       · rw [if_neg hi, hC _ (by simp)]
         show _ = addC bs V c t (.args c i)
         rw [addC_ne _ (by simp)]
         simp only [elemsP]
         rw [List.getD_eq_getElem?_getD, List.getElem?_append_left (by omega), ← List.getD_eq_getElem?_getD]
     · rw [if_neg cb]
       simp only [mrgP]
       rw [if_neg (fun h => cb h.1), hC _ (by simp)]
       show _ = addC bs V b t (.args c i)
       rw [addC_ne _ (by simp)]
       simp only [elemsP]
       rw [(hren c).2.1]
   | «to» c =>
     have hct : c ≠ t := fun h => e1 (by rw [h])
     show _ = C (mrgP bs b t (.to c))
     simp only [elemsP]
     rw [hat, if_neg hct]
     simp only [mrgP]
     by_cases cb : c = b
     · subst cb
       rw [if_pos rfl, if_pos rfl, hC _ (by simp)]
       show _ = addC bs V c t (.to t)
       rw [addC_ne _ (by simp)]; rfl
     · rw [if_neg cb, if_neg cb, hC _ (by simp)]
       show _ = addC bs V b t (.to c)
       rw [addC_ne _ (by simp)]
       simp only [elemsP]
       rw [(hren c).1]
   | vBlk => exact absurd hq id
   | vPhi => exact absurd hq id
   | vIns => exact absurd hq id

end Go.Proofs.YtnkogppgacappaaGreatDoor

namespace Go.Proofs.YtnkogppgacappaaGreatDoor
open Go.RowKit

theorem run_append_zero {P : Program} {w : World} (base : Nat) (t ty e : TypeId) (i : TypeInfo) (size : Nat) (ht : P.underlying t = some (.slice e)) (hi : P.info? e = some i) (v : Value) (n : Nat) (xs : List Value) (hown : w.ownsRow base e size v n xs) (xa : Option Addr) (c : Nat) :
 (Builtin.append_ #[t, t] ty #[v, .slice xa 0 c]).run P w = .ok v w := by
 have hl : ∀ (x : Addr), (loadCells x 0).run P w = .ok #[] w := fun x => by simpa using run_loadCells_list (P := P) w x [] (by simp)
 rcases hown.2 with ⟨rfl, rfl⟩ | ⟨g, cap, cur, rfl, _, _, hnc, _⟩
 · cases xa <;> simp [Builtin.append_, run_underlying ht, sizeOf, typeInfo, hi, Builtin.lenOf, Builtin.firstCells, hl]
 · cases xa <;> simp [Builtin.append_, run_underlying ht, sizeOf, typeInfo, hi, Builtin.lenOf, Builtin.firstCells, hnc, storeCells, hl]
theorem run_append_rows {P : Program} {w : World} (base : Nat) (t ty e : TypeId) (i : TypeInfo) (z : Value) (size bytes : Nat) (ht : P.underlying t = some (.slice e)) (hi : P.info? e = some i) (hz : i.zero = some z)
 (hsize : i.size = size) (hby : i.bytes = bytes) (hzs : z.cells.size = size) (hsz : 0 < size)
 (v : Value) (n : Nat) (xs : List Value) (hown : w.ownsRow base e size v n xs) (xa : Option Addr) (m c : Nat) (news : List Value) (hl : news.length = m * size)
 (hnews : 0 < m → ∃ ad, xa = some ad ∧ ∀ (j : Nat) u, news[j]? = some u → w.cell? (ad.add j) = some u) (h1 : ∀ u ∈ news, u.oneCell' = true)
 (h63 : n + m ≤ maxLen) (hbytes : (n + m) * bytes ≤ 140737488355328) (hbase : base ≤ w.heap.size) :
 ∃ v' w', (Builtin.append_ #[t, t] ty #[v, .slice xa m c]).run P w = .ok v' w' ∧ w'.ownsRow base e size v' (n + m) (xs ++ news) ∧ w.grownBy w' v.ownBlock ∧ (v'.ownBlock = v.ownBlock ∨ v'.ownBlock = some w.heap.size) := by
 by_cases hm : m = 0
 · subst hm
   have hn : news = [] := List.eq_nil_of_length_eq_zero (by omega)
   subst hn
   exact ⟨v, w, run_append_zero base t ty e i size ht hi v n xs hown xa c, by rw [List.append_nil, Nat.add_zero]; exact hown, ⟨rfl, rfl, rfl, Nat.le_refl _, fun _ _ _ => rfl⟩, .inl rfl⟩
 · obtain ⟨ad, rfl, hn⟩ := hnews (by omega)
   obtain ⟨v', w', hrun, hown', hgrow, -, hat⟩ := run_append_own_at (P := P) w base t ty e i z size bytes ht hi hz hsize hby hzs hsz v n xs hown ad m c news hl hn h1 h63 hbytes hbase
   exact ⟨v', w', hrun, hown', hgrow, hat⟩
theorem step_append_ex {P : Program} {w : World} {ops : Array Oper} {o : Oper} {a : Act} {K : Act → World → Prop} {Q : Exit → Act → World → Prop} {E : Prop} (hgd : o.guard = none) (d s : Operand) (t t' : TypeId)
 (ho : o.op = .call { callee := .builtin .append, args := #[d, s], argTypes := #[t, t'] }) (v u : Value) (hd : a.eval d = v) (hs : a.eval s = u) {R : Value → World → Prop}
 (hr : ∀ ty, ∃ v' w', (Builtin.append_ #[t, t'] ty #[v, u]).run P w = .ok v' w' ∧ R v' w') (h : ∀ v' w', R v' w' → K (a.put o.dst v') w') : if Region.wanted o (yielded ops a.tmps) = true then Oper.wp P o a w K Q else E := by
 have hw : Region.wanted o (yielded ops a.tmps) = true := by simp [Region.wanted, hgd]
 rw [if_pos hw]
 obtain ⟨v', w', hrun, hR⟩ := hr o.type
 unfold Oper.wp execOp
 simp only [ho, resolve, invoke, builtin, Sem.run_bind, Sem.run_pure, Result.andThen_ok, List.map_toArray, List.map_cons, List.map_nil, hd, hs, hrun]
 exact h v' w' hR

section
variable {W3 W W' : World} {base : Nat} {X : Nat → Prop} {bs : List DBlock} {V : Pth → Value}
theorem RwSt.addList {b t R n bc : Nat} (h : RwSt W3 W base X (okP bs) V (elemsP bs V)) (hb : b < bs.length) (hv : V .blks = .slice (some ⟨R, 0, none⟩) n bc) {v' : Value} {m : Nat}
 (ho : W'.ownsRow base 80 8 v' m ((elemsP bs V (.list b)).flatten ++ (elemsP bs V (.list t)).flatten)) (hm : (elemsP bs V (.list b)).length + (elemsP bs V (.list t)).length = m)
 (hg : W.grownBy W' (V (.list b)).ownBlock) (hbk : ∀ k, v'.ownBlock = some k → (V (.list b)).ownBlock = some k ∨ W.heap.size ≤ k) :
 RwSt W3 (W'.setCell ⟨R, b * 6 + 1, none⟩ v') base X (okP bs) (updP V (.list b) v') (addC bs (updP V (.list b) v') b t) := by
 have hw : ∀ c, ∀ cs ∈ elemsP bs V (.list c), cs.length = 8 := fun c cs hcs => by
  simp only [elemsP] at hcs
  obtain ⟨i, hi⟩ := List.mem_iff_getElem?.1 hcs
  rw [mapIdx_at] at hi
  cases hx : (blkOf bs c).list[i]? with
  | none => rw [hx] at hi; cases hi
  | some y => rw [hx] at hi; cases hi; rfl
 have h1 := h.turn (p := .list b) hb (v' := v') (xss := elemsP bs V (.list b) ++ elemsP bs V (.list t)) (by rw [List.length_append, List.flatten_append, hm]; exact ho) (fun cs hcs => by
  rcases List.mem_append.1 hcs with h | h
  · exact hw b cs h
  · exact hw t cs h) hg hbk
 have hcr : (elemsP bs V .blks)[b]? = some (cellsB (blkOf bs b) (V (.phis b)) (V (.list b)) (V (.to b))) := by
  simp only [elemsP]
  rw [mapIdx_at, blkOf_self bs hb]; rfl
 have h2 := h1.set (p := .blks) trivial (g := R) (n := n) (c := bc) (i := b) (j := 1) (by rw [updP_ne _ _ (by simp)]; exact hv) (cs := cellsB (blkOf bs b) (V (.phis b)) (V (.list b)) (V (.to b))) (by rw [updP_ne _ _ (by simp)]; exact hcr) (by decide) v'
 have hl : ∀ c, elemsP bs (updP V (.list b) v') (.list c) = elemsP bs V (.list c) := fun c => by simp [elemsP, updP]
 refine h2.congr (fun q _ => rfl) (fun q _ => ?_)
 by_cases e : q = .blks
 · subst e
   rw [addC_ne _ (by simp), updP_self, updP_ne _ _ (by simp)]
   simp only [elemsP]
   apply List.ext_getElem?
   intro c
   rw [mapIdx_at, List.getElem?_set, List.length_mapIdx, mapIdx_at]
   by_cases ec : b = c
   · subst ec
     rw [if_pos rfl, if_pos hb, blkOf_self bs hb, Option.map_some, updP_self, updP_ne _ _ (by simp), updP_ne _ _ (by simp)]; rfl
   · rw [if_neg ec, updP_ne _ _ (by simp), updP_ne _ _ (by simp; omega), updP_ne _ _ (by simp)]
 · rw [updP_ne _ _ e]
   by_cases e2 : q = .list b
   · subst e2
     rw [updP_self]
     unfold addC
     rw [updP_self, hl, hl]
   · rw [updP_ne _ _ e2]
     unfold addC
     rw [updP_ne _ _ e2]
     cases q with
     | blks => exact absurd rfl e
     | _ => simp [elemsP, updP]
theorem RwSt.set4 {ok : Pth → Prop} {C : Pth → List (List Value)} (h : RwSt W3 W base X ok V C) (hp : ok .blks) {g n c i : Nat} (hv : V .blks = .slice (some ⟨g, 0, none⟩) n c) {a0 a1 a2 a3 a4 a5 : Value} (hi : (C .blks)[i]? = some [a0, a1, a2, a3, a4, a5]) (u2 u3 u4 u5 : Value) :
 RwSt W3 ((((W.setCell ⟨g, i * 6 + 2, none⟩ u2).setCell ⟨g, i * 6 + 3, none⟩ u3).setCell ⟨g, i * 6 + 4, none⟩ u4).setCell ⟨g, i * 6 + 5, none⟩ u5) base X ok V (updP C .blks ((C .blks).set i [a0, a1, u2, u3, u4, u5])) := by
 have hil : i < (C .blks).length := (List.getElem?_eq_some_iff.1 hi).1
 have r2 := h.set (p := .blks) hp (g := g) (n := n) (c := c) hv hi (j := 2) (by decide) u2
 have r3 := r2.set (p := .blks) hp (g := g) (n := n) (c := c) hv (cs := [a0, a1, u2, a3, a4, a5]) (i := i) (by rw [updP_self]; exact List.getElem?_set_self hil) (j := 3) (by decide) u3
 have r4 := r3.set (p := .blks) hp (g := g) (n := n) (c := c) hv (cs := [a0, a1, u2, u3, a4, a5]) (i := i) (by rw [updP_self, updP_self, List.set_set]; exact List.getElem?_set_self hil) (j := 4) (by decide) u4
 have r5 := r4.set (p := .blks) hp (g := g) (n := n) (c := c) hv (cs := [a0, a1, u2, u3, u4, a5]) (i := i) (by rw [updP_self, updP_self, updP_self, List.set_set, List.set_set]; exact List.getElem?_set_self hil) (j := 5) (by decide) u5
 refine r5.congr (fun q _ => rfl) (fun q _ => ?_)
 by_cases e : q = .blks
 · subst e
   simp only [updP_self, List.set_set]
   rfl
 · simp only [updP_ne _ _ e]
theorem RwSt.set6 {ok : Pth → Prop} {C : Pth → List (List Value)} (h : RwSt W3 W base X ok V C) (hp : ok .blks) {g n c i : Nat} (hv : V .blks = .slice (some ⟨g, 0, none⟩) n c) {a0 a1 a2 a3 a4 a5 : Value} (hi : (C .blks)[i]? = some [a0, a1, a2, a3, a4, a5]) (u0 u1 u2 u3 u4 u5 : Value) :
 RwSt W3 ((((((W.setCell ⟨g, i * 6, none⟩ u0).setCell ⟨g, i * 6 + 1, none⟩ u1).setCell ⟨g, i * 6 + 2, none⟩ u2).setCell ⟨g, i * 6 + 3, none⟩ u3).setCell ⟨g, i * 6 + 4, none⟩ u4).setCell ⟨g, i * 6 + 5, none⟩ u5) base X ok V (updP C .blks ((C .blks).set i [u0, u1, u2, u3, u4, u5])) := by
 have hil : i < (C .blks).length := (List.getElem?_eq_some_iff.1 hi).1
 have r0 := h.set (p := .blks) hp (g := g) (n := n) (c := c) hv hi (j := 0) (by decide) u0
 have r1 := r0.set (p := .blks) hp (g := g) (n := n) (c := c) hv (cs := [u0, a1, a2, a3, a4, a5]) (i := i) (by rw [updP_self]; exact List.getElem?_set_self hil) (j := 1) (by decide) u1
 have r2 := r1.set4 hp hv (a0 := u0) (a1 := u1) (a2 := a2) (a3 := a3) (a4 := a4) (a5 := a5) (i := i) (by rw [updP_self, updP_self, List.set_set]; exact List.getElem?_set_self hil) u2 u3 u4 u5
 refine r2.congr (fun q _ => rfl) (fun q _ => ?_)
 by_cases e : q = .blks
 · subst e
   simp only [updP_self, List.set_set]
 · simp only [updP_ne _ _ e]
end
theorem chainIn_stop {bs : List DBlock} {b : Nat} (h : mayM bs b = false) : ∀ f, chainIn f bs b = bs
 | 0 => rfl
 | f + 1 => by unfold chainIn; rw [h]; rfl
theorem chainIn_step {bs : List DBlock} {b : Nat} (hok : ChOk bs) (hb : b < bs.length) (h : mayM bs b = true) : chainIn (jN bs) bs b = chainIn (jN (mergeF bs b)) (mergeF bs b) b := by
 rw [← jN_merge hok hb h]
 show (if mayM bs b = true then _ else _) = _
 rw [if_pos h]
theorem chainIn_ok {b : Nat} : ∀ (f : Nat) (bs : List DBlock), ChOk bs → b < bs.length → ChOk (chainIn f bs b) ∧ (chainIn f bs b).length = bs.length
 | 0, bs, h, _ => ⟨h, rfl⟩
 | f + 1, bs, h, hb => by
   unfold chainIn
   by_cases hm : mayM bs b = true
   · rw [if_pos hm]
     have h1 := chainIn_ok f (mergeF bs b) (chOk_merge h hb hm) (by rw [mergeF_len]; exact hb)
     exact ⟨h1.1, by rw [h1.2, mergeF_len]⟩
   · rw [if_neg hm]; exact ⟨h, rfl⟩
theorem chainsTo_ok {bs : List DBlock} (h : ChOk bs) : ∀ k, k ≤ bs.length → ChOk (chainsTo bs k) ∧ (chainsTo bs k).length = bs.length
 | 0, _ => ⟨h, rfl⟩
 | k + 1, hk => by
   obtain ⟨h1, h2⟩ := chainsTo_ok h k (by omega)
   rw [chainsTo_succ]
   have h3 := chainIn_ok (b := k) (jN (chainsTo bs k)) _ h1 (by omega)
   exact ⟨h3.1, by rw [h3.2, h2]⟩

end Go.Proofs.YtnkogppgacappaaGreatDoor
