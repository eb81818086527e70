/- calls.reach in plain Lean: a search in depth finds all that one reaches. No program in sight. calls.reach: a visit (the closure that calls itself), and the whole. -/
import Derived.Test.YtaehkcnankijfaaDoorPWar0
import Derived.Test.YtaehkcnankijfaaDoorPFits
import Derived.Test.YtaehkcnankijfaaDoorPGPost
namespace Go.Proofs.YtaehkcnankijfaaDoor

def visR (G : List (List Int)) : Nat → Nat → List Bool → List Bool
  | 0, _, s => s
  | f + 1, k, s => if s.getD k true = true then s else (G.getD k []).foldl (fun s x => visR G f x.toNat s) (s.set k true)
def walkR (G : List (List Int)) (f : Nat) (l : List Int) (s : List Bool) : List Bool := l.foldl (fun s x => visR G f x.toNat s) s
theorem visR_succ (G : List (List Int)) (f k : Nat) (s : List Bool) : visR G (f + 1) k s = if s.getD k true = true then s else walkR G f (G.getD k []) (s.set k true) := rfl
theorem walkR_snoc (G : List (List Int)) (f : Nat) (l : List Int) (t : Int) (s : List Bool) : walkR G f (l ++ [t]) s = visR G f t.toNat (walkR G f l s) := by
  unfold walkR; rw [List.foldl_append]; rfl
/-- The rows say who calls whom. -/
structure GraphOk (a : Nat → Nat → Bool) (n : Nat) (G : List (List Int)) : Prop where
  len : G.length = n
  range : ∀ k, ∀ x ∈ G.getD k [], 0 ≤ x ∧ x < (n : Int)
  mem : ∀ k x, k < n → x < n → ((x : Int) ∈ G.getD k [] ↔ a k x = true)
/-- What a visit does. -/
structure VisR (G : List (List Int)) (s s' : List Bool) : Prop where
  len : s'.length = s.length
  mono : ∀ i, s.getD i true = true → s'.getD i true = true
  closed : ∀ i, s.getD i true = false → s'.getD i true = true → ∀ x ∈ G.getD i [], s'.getD x.toNat true = true
theorem VisR.refl (G : List (List Int)) (s : List Bool) : VisR G s s := ⟨rfl, fun _ h => h, fun i h1 h2 => by rw [h1] at h2; cases h2⟩
theorem VisR.trans {G : List (List Int)} {s s' s'' : List Bool} (h : VisR G s s') (k : VisR G s' s'') : VisR G s s'' := by
  refine ⟨k.len.trans h.len, fun i hi => k.mono i (h.mono i hi), fun i h1 h2 x hx => ?_⟩
  cases hs : s'.getD i true with
  | true => exact k.mono _ (h.closed i h1 hs x hx)
  | false => exact k.closed i hs h2 x hx
theorem walkR_ok {a : Nat → Nat → Bool} {n : Nat} {G : List (List Int)} (f : Nat)
    (hv : ∀ (k : Nat) (s : List Bool), k < n → s.length = n → s.count false ≤ f → VisR G s (visR G f k s) ∧ (visR G f k s).getD k true = true ∧ ∀ i, (visR G f k s).getD i true = true → s.getD i true = true ∨ Reach a k i) :
    ∀ (l : List Int) (s : List Bool), (∀ x ∈ l, 0 ≤ x ∧ x < (n : Int)) → s.length = n → s.count false ≤ f →
      VisR G s (walkR G f l s) ∧ (∀ x ∈ l, (walkR G f l s).getD x.toNat true = true) ∧ ∀ i, (walkR G f l s).getD i true = true → s.getD i true = true ∨ ∃ x ∈ l, Reach a x.toNat i
  | [], s, _, _, _ => ⟨VisR.refl _ _, fun x h => (by cases h), fun i h => .inl h⟩
  | t :: l, s, hl, hn, hc => by
    obtain ⟨v1, v2, v3⟩ := hv t.toNat s (by have := hl t (List.mem_cons_self ..); omega) hn hc
    have hc2 := unseen_le _ _ v1.len v1.mono
    obtain ⟨w1, w2, w3⟩ := walkR_ok f hv l (visR G f t.toNat s) (fun x hx => hl x (List.mem_cons_of_mem _ hx)) (v1.len.trans hn) (by omega)
    refine ⟨v1.trans w1, fun x hx => ?_, fun i hi => ?_⟩
    · rcases List.mem_cons.1 hx with rfl | hx
      · exact w1.mono _ v2
      · exact w2 x hx
    · rcases w3 i hi with h | ⟨x, hx, h⟩
      · rcases v3 i h with h | h
        · exact .inl h
        · exact .inr ⟨t, List.mem_cons_self .., h⟩
      · exact .inr ⟨x, List.mem_cons_of_mem _ hx, h⟩
theorem set_getD (s : List Bool) (k i : Nat) : (s.set k true).getD i true = true ↔ i = k ∨ s.getD i true = true := by
  rw [List.getD_eq_getElem?_getD, List.getElem?_set]
  by_cases e : k = i
  · subst e
    rw [if_pos rfl]
    refine ⟨fun _ => .inl rfl, fun _ => ?_⟩
    split <;> rfl
  · rw [if_neg e, ← List.getD_eq_getElem?_getD]
    exact ⟨.inr, fun h => h.elim (fun h => absurd h.symm e) id⟩
theorem visR_ok {a : Nat → Nat → Bool} {n : Nat} {G : List (List Int)} (hG : GraphOk a n G) : ∀ (f k : Nat) (s : List Bool), k < n → s.length = n → s.count false ≤ f →
    VisR G s (visR G f k s) ∧ (visR G f k s).getD k true = true ∧ ∀ i, (visR G f k s).getD i true = true → s.getD i true = true ∨ Reach a k i
  | 0, k, s, hk, hn, hc => by
    refine ⟨VisR.refl _ _, ?_, fun i h => .inl h⟩
    rw [visR]
    cases h : s.getD k true with
    | true => rfl
    | false =>
      have := unseen_set s k (by
        rw [List.getD_eq_getElem?_getD, List.getElem?_eq_getElem (by omega)] at h
        rw [List.getElem?_eq_getElem (by omega)]
        exact congrArg some h)
      omega
  | f + 1, k, s, hk, hn, hc => by
    rw [visR_succ]
    cases h : s.getD k true with
    | true => rw [if_pos rfl]; exact ⟨VisR.refl _ _, h, fun i h => .inl h⟩
    | false =>
      rw [if_neg (by simp)]
      have hu := unseen_set s k (by
        rw [List.getD_eq_getElem?_getD, List.getElem?_eq_getElem (by omega)] at h
        rw [List.getElem?_eq_getElem (by omega)]
        exact congrArg some h)
      obtain ⟨w1, w2, w3⟩ := walkR_ok (a := a) f (visR_ok hG f) (G.getD k []) (s.set k true) (hG.range k) (by simpa using hn) (by omega)
      have hkk : (s.set k true).getD k true = true := (set_getD s k k).2 (.inl rfl)
      refine ⟨⟨by rw [w1.len]; simp, fun i hi => w1.mono i ((set_getD s k i).2 (.inr hi)), fun i h1 h2 x hx => ?_⟩, w1.mono k hkk, fun i hi => ?_⟩
      · by_cases e : i = k
        · subst e; exact w2 x hx
        · refine w1.closed i ?_ h2 x hx
          cases hh : (s.set k true).getD i true with
          | false => rfl
          | true =>
            rcases (set_getD s k i).1 hh with h3 | h3
            · exact absurd h3 e
            · rw [h3] at h1; cases h1
      · rcases w3 i hi with h3 | ⟨x, hx, h3⟩
        · rcases (set_getD s k i).1 h3 with rfl | h4
          · exact .inr (.refl _)
          · exact .inl h4
        · have hr := hG.range k x hx
          obtain ⟨q, rfl⟩ := Int.eq_ofNat_of_zero_le hr.1
          exact .inr (.step ((hG.mem k q hk (by omega)).1 hx) h3)
/-- All that one reaches, and no other. -/
def reachF (G : List (List Int)) (n k : Nat) : List Bool := visR G n k (List.replicate n false)
theorem reachF_len {a : Nat → Nat → Bool} {n : Nat} {G : List (List Int)} (hG : GraphOk a n G) {k : Nat} (hk : k < n) : (reachF G n k).length = n := by
  have h := (visR_ok hG n k (List.replicate n false) hk (by simp) (by simp)).1.len
  rw [List.length_replicate] at h
  exact h
theorem reachF_iff {a : Nat → Nat → Bool} {n : Nat} {G : List (List Int)} (hG : GraphOk a n G) (ha : ∀ k x, a k x = true → x < n) {k x : Nat} (hk : k < n) (hx : x < n) : (reachF G n k).getD x true = true ↔ Reach a k x := by
  obtain ⟨h1, h2, h3⟩ := visR_ok hG n k (List.replicate n false) hk (by simp) (by simp)
  have h0 : ∀ i, i < n → (List.replicate n false).getD i true = false := fun i hi => by simp [List.getD_eq_getElem?_getD, hi]
  constructor
  · intro h
    rcases h3 x h with h | h
    · rw [h0 x hx] at h; cases h
    · exact h
  · intro h
    have : ∀ k x, Reach a k x → k < n → (reachF G n k).getD k true = true → ∀ j, (reachF G n j).getD k true = true → j < n → (reachF G n j).getD x true = true := by
      intro k x h
      induction h with
      | refl _ => exact fun _ _ j hj _ => hj
      | step h _ ih =>
        rename_i k y x _
        intro hk _ j hj hjn
        have hy := ha _ _ h
        obtain ⟨g1, -, -⟩ := visR_ok hG n j (List.replicate n false) hjn (by simp) (by simp)
        obtain ⟨-, g2, -⟩ := visR_ok hG n y (List.replicate n false) hy (by simp) (by simp)
        have := g1.closed k (h0 k hk) hj (y : Int) ((hG.mem k y hk hy).2 h)
        exact ih hy g2 j this hjn
    exact this k x h hk h2 k h2 hk

end Go.Proofs.YtaehkcnankijfaaDoor

namespace Go.Proofs.YtaehkcnankijfaaDoor
open Go.RowKit

/-- The world of a visit: of what was there only the row of what is seen is turned. -/
structure ReSt (w0 W : World) (OB : Nat) (s : List Bool) : Prop where
  size : w0.heap.size ≤ W.heap.size
  keep : ∀ b, b < w0.heap.size → b ≠ OB → W.heap[b]? = w0.heap[b]?
  env : W.os = w0.os ∧ W.tape = w0.tape ∧ W.output = w0.output
  row : W.heap[OB]? = some (.cells (s.map Value.bool).toArray 4 (0, 0))
theorem ReSt.cellOf {w0 W : World} {OB : Nat} {s : List Bool} (h : ReSt w0 W OB s) {b o : Nat} {u : Value} (hc : w0.cell? ⟨b, o, none⟩ = some u) (h2 : b ≠ OB) : W.cell? ⟨b, o, none⟩ = some u := by
  rw [World.cell?_of_block (w := w0) (a := ⟨b, o, none⟩) (h.keep b (cell_lt hc) h2)]; exact hc
theorem ReSt.seen {w0 W : World} {OB : Nat} {s : List Bool} (h : ReSt w0 W OB s) {i : Nat} (hi : i < s.length) : W.cell? ⟨OB, i, none⟩ = some (.bool (s.getD i true)) := by
  rw [cell_row h.row, List.getElem?_toArray, List.getElem?_map, List.getD_eq_getElem?_getD, List.getElem?_eq_getElem hi]; rfl
theorem ReSt.fz {w0 W : World} {OB : Nat} {s : List Bool} (h : ReSt w0 W OB s) (i : Nat) : W.frozen? ⟨OB, i, none⟩ = false := by simp [World.frozen?, h.row]
theorem ReSt.set {w0 W : World} {OB : Nat} {s : List Bool} (h : ReSt w0 W OB s) (i : Nat) : ReSt w0 (W.setCell ⟨OB, i, none⟩ (.bool true)) OB (s.set i true) :=
  ⟨by simpa [World.setCell] using h.size, fun b h1 h2 => by rw [Below.heap_setCell _ _ _ _ (by dsimp only; exact h2)]; exact h.keep b h1 h2, h.env, by rw [heap_set_row h.row, List.map_set]; simp⟩

set_option maxRecDepth 100000 in
set_option maxHeartbeats 2000000 in
theorem reachVisit_any (w0 : World) (OB HC GC VC n : Nat) (ga : Option Addr) (gc : Nat) (G : List (List Int)) (a : Nat → Nat → Bool) (hG : GraphOk a n G) (hg : SlAt (fun b => b < w0.heap.size ∧ b ≠ OB) w0 1 rRow (.slice ga n gc) G) (_hn : n ≤ 1048576) (hl : ∀ l ∈ G, l.length ≤ 1048576)
    (cH : w0.cell? ⟨HC, 0, none⟩ = some (.slice (some ⟨OB, 0, none⟩) n n)) (cG : w0.cell? ⟨GC, 0, none⟩ = some (.slice ga n gc))
    (cV : w0.cell? ⟨VC, 0, none⟩ = some (.func (.func 160) #[] #[.pointer (some ⟨HC, 0, none⟩), .pointer (some ⟨GC, 0, none⟩), .pointer (some ⟨VC, 0, none⟩)])) (hH : HC ≠ OB) (hGO : GC ≠ OB) (hV : VC ≠ OB) :
    ∀ (f k : Nat) (s : List Bool) (W : World), ReSt w0 W OB s → s.length = n → k < n → s.count false ≤ f →
      Calls Tryd.prog 160 #[.int .i64 (k : Int), .pointer (some ⟨HC, 0, none⟩), .pointer (some ⟨GC, 0, none⟩), .pointer (some ⟨VC, 0, none⟩)] W fun e W' => (∃ u, e = .returned u) ∧ ReSt w0 W' OB (visR G f k s) := by
  have Hg := hid hg
  have Hl := hid hl
  have HG := hid hG
  have CH := hid cH
  have CG := hid cG
  have CV := hid cV
  clear hg hl hG cH cG cV
  intro f
  induction f with
  | zero =>
    intro k s W hst hs hk hc
    have hsk : s.getD k true = true := by
      cases h : s.getD k true with
      | true => rfl
      | false =>
        have := unseen_set s k (by
          rw [List.getD_eq_getElem?_getD, List.getElem?_eq_getElem (by omega)] at h
          rw [List.getElem?_eq_getElem (by omega)]
          exact congrArg some h)
        omega
    have c0 := hst.cellOf CH.out hH
    have c1 := hst.seen (i := k) (by omega)
    rw [hsk] at c1
    have Hst := hid hst
    clear hst hc hsk
    go_enter Tryd.func160, Tryd.ntmps160
    go_wp2_with fail
    refine bodyPost_ret (results_none rfl _ _ _) rfl ⟨⟨_, rfl⟩, ?_⟩
    exact Hst.out
  | succ f ih =>
    intro k s W hst hs hk hc
    have c0 := hst.cellOf CH.out hH
    have c1 := hst.seen (i := k) (by omega)
    have c2 := hst.fz k
    have Hst := hid hst
    cases hsk : s.getD k true with
    | true =>
      have Hv : Hid (visR G (f + 1) k s = s) := by show _ = _; rw [visR_succ, if_pos hsk]
      rw [hsk] at c1
      clear hst hc hsk ih
      go_enter Tryd.func160, Tryd.ntmps160
      go_wp2_with fail
      refine bodyPost_ret (results_none rfl _ _ _) rfl ⟨⟨_, rfl⟩, ?_⟩
      rw [Hv.out]
      exact Hst.out
    | false =>
      have Hv : Hid (visR G (f + 1) k s = walkR G f (G.getD k []) (s.set k true)) := by show _ = _; rw [visR_succ, if_neg (by rw [hsk]; simp)]
      have hu := unseen_set s k (by
        have h := hsk
        rw [List.getD_eq_getElem?_getD, List.getElem?_eq_getElem (by omega)] at h
        rw [List.getElem?_eq_getElem (by omega)]
        exact congrArg some h)
      rw [hsk] at c1
      have hkG : k < G.length := by rw [HG.out.len]; exact hk
      obtain ⟨rb, roff, ra, rc, hrae, r0, hrow⟩ := rows_at Hg.out hkG
      subst hrae
      have hrS : rb ≠ OB := by
        obtain ⟨b', off', cs, hab, hSb, -⟩ := Hg.out.get hkG
        cases hab
        exact hSb.2
      obtain ⟨l, hle⟩ : ∃ l, l = G.getD k [] := ⟨_, rfl⟩
      have hgk : G[k] = l := by rw [hle, List.getD_eq_getElem?_getD, List.getElem?_eq_getElem hkG]; rfl
      rw [hgk] at r0 hrow
      have hll : l.length ≤ 1048576 := Hl.out l (by rw [← hgk]; exact List.getElem_mem _)
      have r0' := hst.cellOf r0 hrS
      have c3 := hst.cellOf CG.out hGO
      have zr : rb < W.heap.size := cell_lt r0'
      have Hrow := hid hrow
      have Ih := hid ih
      rw [← hle] at Hv
      have Hle := hid hle
      have hrg := HG.out.range k
      rw [← hle] at hrg
      have Hrg := hid hrg
      have hs1 : ReSt w0 (W.setCell ⟨OB, k, none⟩ (.bool true)) OB (s.set k true) := hst.set k
      have Hs1 := hid hs1
      have r1 : (W.setCell ⟨OB, k, none⟩ (.bool true)).cell? ⟨GC, 0, none⟩ = some (.slice (some ⟨rb, roff, none⟩) n gc) := hs1.cellOf CG.out hGO
      have r2 : (W.setCell ⟨OB, k, none⟩ (.bool true)).cell? ⟨rb, roff + k, none⟩ = some (.slice ra l.length rc) := hs1.cellOf r0 hrS
      have Hu : Hid ((s.set k true).count false ≤ f) := by show _ ≤ _; omega
      have Hln : Hid ((s.set k true).length = n) := by show _ = _; rw [List.length_set]; exact hs
      clear hst hc hsk ih hle hgk hrow r0 hrg hs1 hu hkG
      go_enter Tryd.func160, Tryd.ntmps160
      go_wp2_with fail
      clear r1 r2 c0 c1 c2 c3 r0'
      obtain ⟨W1, hW1⟩ : ∃ W1, W1 = W.setCell ⟨OB, k, none⟩ (.bool true) := ⟨_, rfl⟩
      have hz1 : W1.heap.size = W.heap.size := by rw [hW1]; simp [World.setCell]
      rw [← hW1] at Hs1 ⊢
      clear hW1
      go_loopw [19] (fun s19 wr => ∃ j : Nat, j ≤ l.length ∧ s19 = .int .i64 (j : Int) ∧ ReSt w0 wr OB (walkR G f (l.take j) (s.set k true))) (fun s19 _ => l.length - (intOf s19).toNat)
      case atStart => exact ⟨0, Nat.zero_le _, rfl, Hs1.out⟩
      case round =>
        obtain ⟨j, hj, rfl, hsr⟩ := hrel
        have Hsr := hid hsr
        by_cases hjl : j < l.length
        · have hlj := Hrg.out _ (List.getElem_mem hjl)
          obtain ⟨x, hx⟩ := Int.eq_ofNat_of_zero_le hlj.1
          have hxn : x < n := by omega
          obtain ⟨eb, eoff, heae, e0⟩ := int_at9 Hrow.out hjl
          subst heae
          have heS : eb ≠ OB := by
            obtain ⟨b', off', cs, hab, hSb, -⟩ := Hrow.out.get hjl
            cases hab
            exact hSb.2
          have e0 := hsr.cellOf e0 heS
          rw [hx] at e0
          have v0 := hsr.cellOf CV.out hV
          have ze : eb < wr.heap.size := cell_lt e0
          have hw := walkR_ok (a := a) f (visR_ok HG.out f) (l.take j) (s.set k true) (fun y hy => Hrg.out y (List.mem_of_mem_take hy)) Hln.out Hu.out
          have hcn := unseen_le _ _ hw.1.len hw.1.mono
          have Hcall := hid (Ih.out x (walkR G f (l.take j) (s.set k true)) wr hsr (hw.1.len.trans Hln.out) hxn (Nat.le_trans hcn Hu.out))
          have Hsn : Hid (walkR G f (l.take (j + 1)) (s.set k true) = visR G f x (walkR G f (l.take j) (s.set k true))) := by
            show _ = _
            rw [List.take_succ_eq_append_getElem hjl, walkR_snoc, hx, Int.toNat_natCast]
          clear hsr hlj hx hw hcn
          go_wp2_with (go_at_call 160; (with_reducible refine Hcall.out.mono ?_); rintro e w2 ⟨⟨u, rfl⟩, hs2⟩; have Hs2 := hid hs2; clear hs2)
          go_roundw
          case rel => exact ⟨j + 1, by omega, by go_num, by rw [Hsn.out]; exact Hs2.out⟩
          case measure => simp [intOf]; omega
        · have hjn : j = l.length := by omega
          have Hfin : Hid (ReSt w0 wr OB (walkR G f l (s.set k true))) := by
            have h := hsr
            rw [hjn, List.take_length] at h
            exact h
          clear hsr hjn
          go_wp2_with fail
          refine bodyPost_end (results_none rfl _ _ _) rfl ⟨⟨_, rfl⟩, ?_⟩
          rw [Hv.out]
          exact Hfin.out

theorem heap_four (w : World) (a b c d : Obj) : ((((w.alloc a).alloc b).alloc c).alloc d).heap.size = w.heap.size + 4 ∧ ((((w.alloc a).alloc b).alloc c).alloc d).heap[w.heap.size]? = some a ∧ ((((w.alloc a).alloc b).alloc c).alloc d).heap[w.heap.size + 1]? = some b ∧
    ((((w.alloc a).alloc b).alloc c).alloc d).heap[w.heap.size + 1 + 1]? = some c ∧ ((((w.alloc a).alloc b).alloc c).alloc d).heap[w.heap.size + 1 + 1 + 1]? = some d := by
  have hs : ∀ (v : World) (o : Obj), (v.alloc o).heap.size = v.heap.size + 1 := fun v o => by simp
  have s1 := hs w a
  have s2 := hs (w.alloc a) b
  have s3 := hs ((w.alloc a).alloc b) c
  have s4 := hs (((w.alloc a).alloc b).alloc c) d
  have e1 := heap_alloc_new w a
  have e2 := heap_alloc_new (w.alloc a) b
  have e3 := heap_alloc_new ((w.alloc a).alloc b) c
  have e4 := heap_alloc_new (((w.alloc a).alloc b).alloc c) d
  rw [s1] at e2
  rw [s2, s1] at e3
  rw [s3, s2, s1] at e4
  refine ⟨by omega, ?_, ?_, ?_, e4⟩
  · rw [Below.heap_alloc _ _ _ (by omega), Below.heap_alloc _ _ _ (by omega), Below.heap_alloc _ _ _ (by omega)]; exact e1
  · rw [Below.heap_alloc _ _ _ (by omega), Below.heap_alloc _ _ _ (by omega)]; exact e2
  · rw [Below.heap_alloc _ _ _ (by omega)]; exact e3

set_option maxRecDepth 100000 in
set_option maxHeartbeats 2000000 in
theorem reach_any {S : Nat → Prop} (ga : Option Addr) (gc n : Nat) (G : List (List Int)) (a : Nat → Nat → Bool) (k : Nat) (w : World) (hG : GraphOk a n G) (hg : SlAt S w 1 rRow (.slice ga n gc) G) (hS : ∀ b, S b → b < w.heap.size) (hn : n ≤ 1048576) (hl : ∀ l ∈ G, l.length ≤ 1048576) (hk : k < n) :
    Calls Tryd.prog 146 #[.slice ga n gc, .int .i64 (k : Int)] w fun e w' =>
      ∃ OB, e = .returned (.slice (some ⟨OB, 0, none⟩) n n) ∧ w.heap.size ≤ OB ∧ w'.heap[OB]? = some (.cells ((reachF G n k).map Value.bool).toArray 4 (0, 0)) ∧ Below w.heap.size w w' := by
  have Hg := hid hg
  have HS := hid hS
  have HG := hid hG
  have Hl := hid hl
  clear hg hS hG hl
  have hmk := run_make_row' (P := Tryd.prog) 39 4 (.bool false) 1 Tryd.underlying39 infoBool rfl .i64 .i64 n (by omega) (by omega)
  go_enter Tryd.func146, Tryd.ntmps146
  go_wp2_with fail
  obtain ⟨W, hW⟩ : ∃ W, W = ((((w.alloc (.cells #[.slice ga n gc] 53)).alloc (.cells (madeCells #[.bool false] n) 4)).alloc (.cells #[.slice (some ⟨w.heap.size + 1, 0, none⟩) n n] 39)).alloc (.cells #[.func (.func 160) #[] #[.pointer (some ⟨w.heap.size + 1 + 1, 0, none⟩), .pointer (some ⟨w.heap.size, 0, none⟩), .pointer (some ⟨w.heap.size + 1 + 1 + 1, 0, none⟩)]] 197)) := ⟨_, rfl⟩
  rw [← hW]
  have hbW : Below w.heap.size w W := by rw [hW]; (repeat (first | exact Below.refl _ _ | refine Below.alloc ?_ (by first | omega | (simp <;> omega)) _ | refine Below.setCell ?_ (by first | omega | (simp <;> omega)) _ | refine below_drewN ?_ _ | refine Below.drew ?_))
  obtain ⟨hsW, h0G, hO, h0S, h0V⟩ : W.heap.size = w.heap.size + 4 ∧ W.heap[w.heap.size]? = _ ∧ W.heap[w.heap.size + 1]? = _ ∧ W.heap[w.heap.size + 1 + 1]? = _ ∧ W.heap[w.heap.size + 1 + 1 + 1]? = _ := by rw [hW]; exact heap_four _ _ _ _ _
  have cG : W.cell? ⟨w.heap.size, 0, none⟩ = some (.slice ga n gc) := by rw [cell_row h0G]; rfl
  have cS : W.cell? ⟨w.heap.size + 1 + 1, 0, none⟩ = some (.slice (some ⟨w.heap.size + 1, 0, none⟩) n n) := by rw [cell_row h0S]; rfl
  have cV : W.cell? ⟨w.heap.size + 1 + 1 + 1, 0, none⟩ = some (.func (.func 160) #[] #[.pointer (some ⟨w.heap.size + 1 + 1, 0, none⟩), .pointer (some ⟨w.heap.size, 0, none⟩), .pointer (some ⟨w.heap.size + 1 + 1 + 1, 0, none⟩)]) := by rw [cell_row h0V]; rfl
  rw [madeCells_rep, ← List.map_replicate] at hO
  have h0 : ReSt W W (w.heap.size + 1) (List.replicate n false) := ⟨Nat.le_refl _, fun _ _ _ => rfl, ⟨rfl, rfl, rfl⟩, hO⟩
  have HbW := hid hbW
  have hvis := reachVisit_any W (w.heap.size + 1) (w.heap.size + 1 + 1) w.heap.size (w.heap.size + 1 + 1 + 1) n ga gc G a HG.out
    ((Hg.out.later rRow_mono hbW).mono rRow_mono (fun b hb => by have := HS.out b hb; omega) (Stays.refl _ _)) hn Hl.out cS cG cV (by omega) (by omega) (by omega) n k _ W h0 (by simp) hk (by simp)
  clear hW hO h0 hbW h0G
  refine hvis.mono ?_
  rintro e W' ⟨⟨u, rfl⟩, hst⟩
  have c0 := hst.cellOf cS (by omega)
  have Hst := hid hst
  clear hvis hst hmk h0S h0V cG cS cV
  go_wp2_with fail
  go_ret
  have hst := Hst.out
  refine ⟨w.heap.size + 1, rfl, by omega, hst.row, ?_⟩
  have hb := HbW.out
  have hz := hst.size
  exact ⟨hst.env.1.trans hb.os, hst.env.2.1.trans hb.tape, hst.env.2.2.trans hb.output, by omega, fun k hk => (hst.keep k (by omega) (by omega)).trans (hb.block k hk)⟩

end Go.Proofs.YtaehkcnankijfaaDoor
