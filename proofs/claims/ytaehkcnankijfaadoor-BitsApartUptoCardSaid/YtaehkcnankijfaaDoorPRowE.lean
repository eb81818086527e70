/- The document's BitsMake: what an instruction makes. -/
import Derived.Test.YtaehkcnankijfaaDoorPRowD
import Derived.Test.YtaehkcnankijfaaDoorPTwo
import Derived.StillTailTactics
namespace Go.Proofs.YtaehkcnankijfaaDoor
open Go.RowKit

/-- What BitsMake returns: a row of the codes. -/
def MkPost (W : World) (ga : Nat) (k : Kn) (e : Ending) (w' : World) : Prop := ∃ g, e = .returned (.slice (some ⟨g, 0, none⟩) 64 64) ∧ Below W.heap.size W w' ∧ RowAt w' g k ∧ (g = ga ∨ W.heap.size ≤ g)
theorem MkPost.new {W w' : World} {ga G : Nat} {k : Kn} {f : Nat → Int} (h : NewRow W w' G f) (hf : ∀ x, x < 64 → f x = codeF k x) : MkPost W ga k (.returned (.slice (some ⟨G, 0, none⟩) 64 64)) w' :=
  ⟨G, rfl, h.old, (h.congr hf).rowAt, .inr h.ge⟩
theorem two_lit {op : Int} {x y z : BitVec 64} {w : World} (h1 : 1 ≤ op) (h2 : op ≤ 17) (h : twoF op x y = some z) : Calls Tryd.prog 66 #[.int .i64 op, .int .i64 (bi x), .int .i64 (bi y)] w fun e w' => e = .returned (.tuple #[.int .i64 (bi z), .bool true]) ∧ w = w' := by
  have := two_r_any op x y w h1 h2
  rw [h] at this
  exact this
theorem lowM_self (a : Kn) : lowM a a = knownTo a := by unfold lowM; exact Nat.min_self _
theorem mkl_2 (a b : Kn) : makeIn 2 a b = lowF (a.on + b.on) (lowM a b) := by unfold makeIn lowM; simp
theorem mkl_3 (a b : Kn) : makeIn 3 a b = lowF (a.on - b.on) (lowM a b) := by unfold makeIn lowM; simp
theorem mkl_4 (a b : Kn) : makeIn 4 a b = lowF (a.on * b.on) (lowM a b) := by unfold makeIn lowM; simp
theorem mkl_16 (a b : Kn) : makeIn 16 a b = lowF (-a.on) (lowM a a) := by rw [lowM_self]; unfold makeIn; simp
theorem mkl_10 {a b : Kn} (h : sureB b = true) : makeIn 10 a b = ⟨(a.off <<< shX b.on) ||| maskF (shX b.on), a.on <<< shX b.on⟩ := by unfold makeIn; rw [h]; rfl
theorem mkl_11 {a b : Kn} (h : sureB b = true) : makeIn 11 a b = ⟨a.off.sshiftRight (shX b.on), a.on.sshiftRight (shX b.on)⟩ := by unfold makeIn; rw [h]; rfl
theorem mkl_10n {a b : Kn} (h : sureB b = false) : makeIn 10 a b = Kn.none := by unfold makeIn; rw [h]; rfl
theorem mkl_11n {a b : Kn} (h : sureB b = false) : makeIn 11 a b = Kn.none := by unfold makeIn; rw [h]; rfl

set_option maxRecDepth 100000 in
set_option maxHeartbeats 4000000 in
theorem mk_more (op : Int) (ga gb : Nat) (a b : Kn) (W : World) (hra : RowAt W ga a) (hrb : RowAt W gb b) (hop : 17 < op) :
    Calls Tryd.prog 62 #[.int .i64 op, .slice (some ⟨ga, 0, none⟩) 64 64, .slice (some ⟨gb, 0, none⟩) 64 64] W (MkPost W ga (Kn.none)) := by
  have Hra := hid hra
  have Hrb := hid hrb
  have za : ga < W.heap.size := hra.lt
  have zb : gb < W.heap.size := hrb.lt
  clear hra hrb
  go_enter Tryd.func62, Tryd.ntmps62
  go_wp2_with (go_at_call 59; refine (bitsAll_any 2 _ ⟨by omega, by omega⟩).mono ?_; rintro e w1 ⟨G, rfl, hG⟩; have HG := hid hG; clear hG)
  go_ret
  exact MkPost.new HG.out fun x _ => (code_none x).symm

set_option maxRecDepth 100000 in
set_option maxHeartbeats 4000000 in
theorem mk_top (op : Int) (ga gb : Nat) (a b : Kn) (W : World) (hra : RowAt W ga a) (hrb : RowAt W gb b) (hop : op ≤ 17) (h : a = Kn.top) :
    Calls Tryd.prog 62 #[.int .i64 op, .slice (some ⟨ga, 0, none⟩) 64 64, .slice (some ⟨gb, 0, none⟩) 64 64] W (MkPost W ga (Kn.top)) := by
  have Hra := hid hra
  have Hrb := hid hrb
  have za : ga < W.heap.size := hra.lt
  have zb : gb < W.heap.size := hrb.lt
  clear hra hrb
  have hc := code_top 0 (by omega)
  have c0 := Hra.out.at (x := 0) (by omega)
  rw [h, hc] at c0
  clear hc
  clear h
  go_enter Tryd.func62, Tryd.ntmps62
  go_wp2_with (go_at_call 59; refine (bitsAll_any 3 _ ⟨by omega, by omega⟩).mono ?_; rintro e w1 ⟨G, rfl, hG⟩; have HG := hid hG; clear hG)
  all_goals
    go_ret
    exact MkPost.new HG.out fun x hx => (code_top x hx).symm

set_option maxRecDepth 100000 in
set_option maxHeartbeats 4000000 in
theorem mk_top2 (op : Int) (ga gb : Nat) (a b : Kn) (W : World) (hra : RowAt W ga a) (hrb : RowAt W gb b) (ha : a.Apart) (hop : op ≤ 17) (h1 : op ≠ 1) (h2 : op ≠ 16) (h3 : op ≠ 17) (h : b = Kn.top) :
    Calls Tryd.prog 62 #[.int .i64 op, .slice (some ⟨ga, 0, none⟩) 64 64, .slice (some ⟨gb, 0, none⟩) 64 64] W (MkPost W ga (Kn.top)) := by
  have Hra := hid hra
  have Hrb := hid hrb
  have za : ga < W.heap.size := hra.lt
  have zb : gb < W.heap.size := hrb.lt
  have Ha := hid ha
  have c0 := hra.at (x := 0) (by omega)
  have hu := code_le2 ha (i := 0) (by omega)
  obtain ⟨u, hu'⟩ : ∃ u, u = codeF a 0 := ⟨_, rfl⟩
  rw [← hu'] at c0 hu
  have q0 : (decide (u ≤ 3) && decide (3 ≤ u)) = false := eq_no (by omega)
  clear ha hu hu'
  clear hra hrb
  have hc := code_top 0 (by omega)
  have d0 := Hrb.out.at (x := 0) (by omega)
  rw [h, hc] at d0
  clear hc
  clear h
  go_enter Tryd.func62, Tryd.ntmps62
  go_wp2_with (go_at_call 59; refine (bitsAll_any 3 _ ⟨by omega, by omega⟩).mono ?_; rintro e w1 ⟨G, rfl, hG⟩; have HG := hid hG; clear hG)
  go_ret
  exact MkPost.new HG.out fun x hx => (code_top x hx).symm

set_option maxRecDepth 100000 in
set_option maxHeartbeats 4000000 in
theorem mk_1 (ga gb : Nat) (a b : Kn) (W : World) (hra : RowAt W ga a) (hrb : RowAt W gb b) (ha : a.Apart) :
    Calls Tryd.prog 62 #[.int .i64 1, .slice (some ⟨ga, 0, none⟩) 64 64, .slice (some ⟨gb, 0, none⟩) 64 64] W (MkPost W ga (makeIn 1 a b)) := by
  have Hra := hid hra
  have Hrb := hid hrb
  have za : ga < W.heap.size := hra.lt
  have zb : gb < W.heap.size := hrb.lt
  have Ha := hid ha
  have c0 := hra.at (x := 0) (by omega)
  have hu := code_le2 ha (i := 0) (by omega)
  obtain ⟨u, hu'⟩ : ∃ u, u = codeF a 0 := ⟨_, rfl⟩
  rw [← hu'] at c0 hu
  have q0 : (decide (u ≤ 3) && decide (3 ≤ u)) = false := eq_no (by omega)
  clear ha hu hu'
  clear hra hrb
  go_enter Tryd.func62, Tryd.ntmps62
  go_wp2_with (go_at_call 59; refine (bitsAll_any 2 _ ⟨by omega, by omega⟩).mono ?_; rintro e w1 ⟨G, rfl, hG⟩; have HG := hid hG; clear hG)
  go_ret
  exact ⟨ga, rfl, HG.out.old, Hra.out.later HG.out.old, .inl rfl⟩

set_option maxRecDepth 100000 in
set_option maxHeartbeats 4000000 in
theorem mk_5 (ga gb : Nat) (a b : Kn) (W : World) (hra : RowAt W ga a) (hrb : RowAt W gb b) (ha : a.Apart) (hb : b.Apart) :
    Calls Tryd.prog 62 #[.int .i64 5, .slice (some ⟨ga, 0, none⟩) 64 64, .slice (some ⟨gb, 0, none⟩) 64 64] W (MkPost W ga (makeIn 5 a b)) := by
  have Hra := hid hra
  have Hrb := hid hrb
  have za : ga < W.heap.size := hra.lt
  have zb : gb < W.heap.size := hrb.lt
  have Ha := hid ha
  have c0 := hra.at (x := 0) (by omega)
  have hu := code_le2 ha (i := 0) (by omega)
  obtain ⟨u, hu'⟩ : ∃ u, u = codeF a 0 := ⟨_, rfl⟩
  rw [← hu'] at c0 hu
  have q0 : (decide (u ≤ 3) && decide (3 ≤ u)) = false := eq_no (by omega)
  have Hb := hid hb
  have d0 := hrb.at (x := 0) (by omega)
  have hv := code_le2 hb (i := 0) (by omega)
  obtain ⟨v, hv'⟩ : ∃ v, v = codeF b 0 := ⟨_, rfl⟩
  rw [← hv'] at d0 hv
  have q1 : (decide (v ≤ 3) && decide (3 ≤ v)) = false := eq_no (by omega)
  clear hb hv hv'
  clear ha hu hu'
  clear hra hrb
  go_enter Tryd.func62, Tryd.ntmps62
  go_wp2_with (go_at_call 59; refine (bitsAll_any 2 _ ⟨by omega, by omega⟩).mono ?_; rintro e w1 ⟨G, rfl, hG⟩; have HG := hid hG; clear hG)
  go_ret
  exact MkPost.new HG.out fun x _ => (code_none x).symm

set_option maxRecDepth 100000 in
set_option maxHeartbeats 4000000 in
theorem mk_6 (ga gb : Nat) (a b : Kn) (W : World) (hra : RowAt W ga a) (hrb : RowAt W gb b) (ha : a.Apart) (hb : b.Apart) :
    Calls Tryd.prog 62 #[.int .i64 6, .slice (some ⟨ga, 0, none⟩) 64 64, .slice (some ⟨gb, 0, none⟩) 64 64] W (MkPost W ga (makeIn 6 a b)) := by
  have Hra := hid hra
  have Hrb := hid hrb
  have za : ga < W.heap.size := hra.lt
  have zb : gb < W.heap.size := hrb.lt
  have Ha := hid ha
  have c0 := hra.at (x := 0) (by omega)
  have hu := code_le2 ha (i := 0) (by omega)
  obtain ⟨u, hu'⟩ : ∃ u, u = codeF a 0 := ⟨_, rfl⟩
  rw [← hu'] at c0 hu
  have q0 : (decide (u ≤ 3) && decide (3 ≤ u)) = false := eq_no (by omega)
  have Hb := hid hb
  have d0 := hrb.at (x := 0) (by omega)
  have hv := code_le2 hb (i := 0) (by omega)
  obtain ⟨v, hv'⟩ : ∃ v, v = codeF b 0 := ⟨_, rfl⟩
  rw [← hv'] at d0 hv
  have q1 : (decide (v ≤ 3) && decide (3 ≤ v)) = false := eq_no (by omega)
  clear hb hv hv'
  clear ha hu hu'
  clear hra hrb
  go_enter Tryd.func62, Tryd.ntmps62
  go_wp2_with (go_at_call 59; refine (bitsAll_any 2 _ ⟨by omega, by omega⟩).mono ?_; rintro e w1 ⟨G, rfl, hG⟩; have HG := hid hG; clear hG)
  go_ret
  exact MkPost.new HG.out fun x _ => (code_none x).symm

set_option maxRecDepth 100000 in
set_option maxHeartbeats 4000000 in
theorem mk_0 (op : Int) (ga gb : Nat) (a b : Kn) (W : World) (hra : RowAt W ga a) (hrb : RowAt W gb b) (ha : a.Apart) (hb : b.Apart) (hop : op ≤ 0) :
    Calls Tryd.prog 62 #[.int .i64 op, .slice (some ⟨ga, 0, none⟩) 64 64, .slice (some ⟨gb, 0, none⟩) 64 64] W (MkPost W ga (Kn.none)) := by
  have Hra := hid hra
  have Hrb := hid hrb
  have za : ga < W.heap.size := hra.lt
  have zb : gb < W.heap.size := hrb.lt
  have Ha := hid ha
  have c0 := hra.at (x := 0) (by omega)
  have hu := code_le2 ha (i := 0) (by omega)
  obtain ⟨u, hu'⟩ : ∃ u, u = codeF a 0 := ⟨_, rfl⟩
  rw [← hu'] at c0 hu
  have q0 : (decide (u ≤ 3) && decide (3 ≤ u)) = false := eq_no (by omega)
  have Hb := hid hb
  have d0 := hrb.at (x := 0) (by omega)
  have hv := code_le2 hb (i := 0) (by omega)
  obtain ⟨v, hv'⟩ : ∃ v, v = codeF b 0 := ⟨_, rfl⟩
  rw [← hv'] at d0 hv
  have q1 : (decide (v ≤ 3) && decide (3 ≤ v)) = false := eq_no (by omega)
  clear hb hv hv'
  clear ha hu hu'
  clear hra hrb
  go_enter Tryd.func62, Tryd.ntmps62
  go_wp2_with (go_at_call 59; refine (bitsAll_any 2 _ ⟨by omega, by omega⟩).mono ?_; rintro e w1 ⟨G, rfl, hG⟩; have HG := hid hG; clear hG)
  go_ret
  exact MkPost.new HG.out fun x _ => (code_none x).symm

set_option maxRecDepth 100000 in
set_option maxHeartbeats 4000000 in
theorem mk_2 (ga gb : Nat) (a b : Kn) (W : World) (hra : RowAt W ga a) (hrb : RowAt W gb b) (ha : a.Apart) (hb : b.Apart) :
    Calls Tryd.prog 62 #[.int .i64 2, .slice (some ⟨ga, 0, none⟩) 64 64, .slice (some ⟨gb, 0, none⟩) 64 64] W (MkPost W ga (makeIn 2 a b)) := by
  have Hra := hid hra
  have Hrb := hid hrb
  have za : ga < W.heap.size := hra.lt
  have zb : gb < W.heap.size := hrb.lt
  have Ha := hid ha
  have c0 := hra.at (x := 0) (by omega)
  have hu := code_le2 ha (i := 0) (by omega)
  obtain ⟨u, hu'⟩ : ∃ u, u = codeF a 0 := ⟨_, rfl⟩
  rw [← hu'] at c0 hu
  have q0 : (decide (u ≤ 3) && decide (3 ≤ u)) = false := eq_no (by omega)
  have Hb := hid hb
  have d0 := hrb.at (x := 0) (by omega)
  have hv := code_le2 hb (i := 0) (by omega)
  obtain ⟨v, hv'⟩ : ∃ v, v = codeF b 0 := ⟨_, rfl⟩
  rw [← hv'] at d0 hv
  have q1 : (decide (v ≤ 3) && decide (3 ≤ v)) = false := eq_no (by omega)
  clear hb hv hv'
  clear ha hu hu'
  clear hra hrb
  go_enter Tryd.func62, Tryd.ntmps62
  go_wp2_with (first
    | (go_at_call 59; refine (bitsAll_any 2 _ ⟨by omega, by omega⟩).mono ?_; rintro e w1 ⟨G, rfl, hG⟩; have HG := hid hG; clear hG)
    | (go_at_call 101; (with_reducible refine (bitsNumber_any ga a _ (Hra.out.later HG.out.old) Ha.out).mono ?_); rintro e w' ⟨rfl, rfl⟩)
    | (go_at_call 101; (with_reducible refine (bitsNumber_any gb b _ (Hrb.out.later HG.out.old) Hb.out).mono ?_); rintro e w' ⟨rfl, rfl⟩)
    | (go_at_call 66; (with_reducible refine (two_lit (z := a.on + b.on) (by omega) (by omega) (by unfold twoF; simp)).mono ?_); rintro e w' ⟨rfl, rfl⟩)
    | (go_at_call 102; (with_reducible refine (bitsLow_any (a.on + b.on) ga gb a b _ (Hra.out.later HG.out.old) (Hrb.out.later HG.out.old) Ha.out Hb.out).mono ?_); rintro e w2 ⟨G2, rfl, hG2⟩; have HG2 := hid hG2; clear hG2))
  go_ret
  exact MkPost.new (HG2.out.first HG.out.old) fun x _ => by rw [mkl_2]

set_option maxRecDepth 100000 in
set_option maxHeartbeats 4000000 in
theorem mk_3 (ga gb : Nat) (a b : Kn) (W : World) (hra : RowAt W ga a) (hrb : RowAt W gb b) (ha : a.Apart) (hb : b.Apart) :
    Calls Tryd.prog 62 #[.int .i64 3, .slice (some ⟨ga, 0, none⟩) 64 64, .slice (some ⟨gb, 0, none⟩) 64 64] W (MkPost W ga (makeIn 3 a b)) := by
  have Hra := hid hra
  have Hrb := hid hrb
  have za : ga < W.heap.size := hra.lt
  have zb : gb < W.heap.size := hrb.lt
  have Ha := hid ha
  have c0 := hra.at (x := 0) (by omega)
  have hu := code_le2 ha (i := 0) (by omega)
  obtain ⟨u, hu'⟩ : ∃ u, u = codeF a 0 := ⟨_, rfl⟩
  rw [← hu'] at c0 hu
  have q0 : (decide (u ≤ 3) && decide (3 ≤ u)) = false := eq_no (by omega)
  have Hb := hid hb
  have d0 := hrb.at (x := 0) (by omega)
  have hv := code_le2 hb (i := 0) (by omega)
  obtain ⟨v, hv'⟩ : ∃ v, v = codeF b 0 := ⟨_, rfl⟩
  rw [← hv'] at d0 hv
  have q1 : (decide (v ≤ 3) && decide (3 ≤ v)) = false := eq_no (by omega)
  clear hb hv hv'
  clear ha hu hu'
  clear hra hrb
  go_enter Tryd.func62, Tryd.ntmps62
  go_wp2_with (first
    | (go_at_call 59; refine (bitsAll_any 2 _ ⟨by omega, by omega⟩).mono ?_; rintro e w1 ⟨G, rfl, hG⟩; have HG := hid hG; clear hG)
    | (go_at_call 101; (with_reducible refine (bitsNumber_any ga a _ (Hra.out.later HG.out.old) Ha.out).mono ?_); rintro e w' ⟨rfl, rfl⟩)
    | (go_at_call 101; (with_reducible refine (bitsNumber_any gb b _ (Hrb.out.later HG.out.old) Hb.out).mono ?_); rintro e w' ⟨rfl, rfl⟩)
    | (go_at_call 66; (with_reducible refine (two_lit (z := a.on - b.on) (by omega) (by omega) (by unfold twoF; simp)).mono ?_); rintro e w' ⟨rfl, rfl⟩)
    | (go_at_call 102; (with_reducible refine (bitsLow_any (a.on - b.on) ga gb a b _ (Hra.out.later HG.out.old) (Hrb.out.later HG.out.old) Ha.out Hb.out).mono ?_); rintro e w2 ⟨G2, rfl, hG2⟩; have HG2 := hid hG2; clear hG2))
  go_ret
  exact MkPost.new (HG2.out.first HG.out.old) fun x _ => by rw [mkl_3]

set_option maxRecDepth 100000 in
set_option maxHeartbeats 4000000 in
theorem mk_4 (ga gb : Nat) (a b : Kn) (W : World) (hra : RowAt W ga a) (hrb : RowAt W gb b) (ha : a.Apart) (hb : b.Apart) :
    Calls Tryd.prog 62 #[.int .i64 4, .slice (some ⟨ga, 0, none⟩) 64 64, .slice (some ⟨gb, 0, none⟩) 64 64] W (MkPost W ga (makeIn 4 a b)) := by
  have Hra := hid hra
  have Hrb := hid hrb
  have za : ga < W.heap.size := hra.lt
  have zb : gb < W.heap.size := hrb.lt
  have Ha := hid ha
  have c0 := hra.at (x := 0) (by omega)
  have hu := code_le2 ha (i := 0) (by omega)
  obtain ⟨u, hu'⟩ : ∃ u, u = codeF a 0 := ⟨_, rfl⟩
  rw [← hu'] at c0 hu
  have q0 : (decide (u ≤ 3) && decide (3 ≤ u)) = false := eq_no (by omega)
  have Hb := hid hb
  have d0 := hrb.at (x := 0) (by omega)
  have hv := code_le2 hb (i := 0) (by omega)
  obtain ⟨v, hv'⟩ : ∃ v, v = codeF b 0 := ⟨_, rfl⟩
  rw [← hv'] at d0 hv
  have q1 : (decide (v ≤ 3) && decide (3 ≤ v)) = false := eq_no (by omega)
  clear hb hv hv'
  clear ha hu hu'
  clear hra hrb
  go_enter Tryd.func62, Tryd.ntmps62
  go_wp2_with (first
    | (go_at_call 59; refine (bitsAll_any 2 _ ⟨by omega, by omega⟩).mono ?_; rintro e w1 ⟨G, rfl, hG⟩; have HG := hid hG; clear hG)
    | (go_at_call 101; (with_reducible refine (bitsNumber_any ga a _ (Hra.out.later HG.out.old) Ha.out).mono ?_); rintro e w' ⟨rfl, rfl⟩)
    | (go_at_call 101; (with_reducible refine (bitsNumber_any gb b _ (Hrb.out.later HG.out.old) Hb.out).mono ?_); rintro e w' ⟨rfl, rfl⟩)
    | (go_at_call 66; (with_reducible refine (two_lit (z := a.on * b.on) (by omega) (by omega) (by unfold twoF; simp)).mono ?_); rintro e w' ⟨rfl, rfl⟩)
    | (go_at_call 102; (with_reducible refine (bitsLow_any (a.on * b.on) ga gb a b _ (Hra.out.later HG.out.old) (Hrb.out.later HG.out.old) Ha.out Hb.out).mono ?_); rintro e w2 ⟨G2, rfl, hG2⟩; have HG2 := hid hG2; clear hG2))
  go_ret
  exact MkPost.new (HG2.out.first HG.out.old) fun x _ => by rw [mkl_4]

set_option maxRecDepth 100000 in
set_option maxHeartbeats 4000000 in
theorem mk_16 (ga gb : Nat) (a b : Kn) (W : World) (hra : RowAt W ga a) (hrb : RowAt W gb b) (ha : a.Apart) :
    Calls Tryd.prog 62 #[.int .i64 16, .slice (some ⟨ga, 0, none⟩) 64 64, .slice (some ⟨gb, 0, none⟩) 64 64] W (MkPost W ga (makeIn 16 a b)) := by
  have Hra := hid hra
  have Hrb := hid hrb
  have za : ga < W.heap.size := hra.lt
  have zb : gb < W.heap.size := hrb.lt
  have Ha := hid ha
  have c0 := hra.at (x := 0) (by omega)
  have hu := code_le2 ha (i := 0) (by omega)
  obtain ⟨u, hu'⟩ : ∃ u, u = codeF a 0 := ⟨_, rfl⟩
  rw [← hu'] at c0 hu
  have q0 : (decide (u ≤ 3) && decide (3 ≤ u)) = false := eq_no (by omega)
  clear ha hu hu'
  clear hra hrb
  go_enter Tryd.func62, Tryd.ntmps62
  go_wp2_with (first
    | (go_at_call 59; refine (bitsAll_any 2 _ ⟨by omega, by omega⟩).mono ?_; rintro e w1 ⟨G, rfl, hG⟩; have HG := hid hG; clear hG)
    | (go_at_call 101; (with_reducible refine (bitsNumber_any ga a _ (Hra.out.later HG.out.old) Ha.out).mono ?_); rintro e w' ⟨rfl, rfl⟩)
    | (go_at_call 102; (try rw [neg_bi]); (with_reducible refine (bitsLow_any (-a.on) ga ga a a _ (Hra.out.later HG.out.old) (Hra.out.later HG.out.old) Ha.out Ha.out).mono ?_); rintro e w2 ⟨G2, rfl, hG2⟩; have HG2 := hid hG2; clear hG2))
  go_ret
  exact MkPost.new (HG2.out.first HG.out.old) fun x _ => by rw [mkl_16]

set_option maxRecDepth 100000 in
set_option maxHeartbeats 4000000 in
theorem mk_17 (ga gb : Nat) (a b : Kn) (W : World) (hra : RowAt W ga a) (hrb : RowAt W gb b) (ha : a.Apart) :
    Calls Tryd.prog 62 #[.int .i64 17, .slice (some ⟨ga, 0, none⟩) 64 64, .slice (some ⟨gb, 0, none⟩) 64 64] W (MkPost W ga (makeIn 17 a b)) := by
  have Hra := hid hra
  have Hrb := hid hrb
  have za : ga < W.heap.size := hra.lt
  have zb : gb < W.heap.size := hrb.lt
  have Ha := hid ha
  have c0 := hra.at (x := 0) (by omega)
  have hu := code_le2 ha (i := 0) (by omega)
  obtain ⟨u, hu'⟩ : ∃ u, u = codeF a 0 := ⟨_, rfl⟩
  rw [← hu'] at c0 hu
  have q0 : (decide (u ≤ 3) && decide (3 ≤ u)) = false := eq_no (by omega)
  clear ha hu hu'
  clear hra hrb
  go_enter Tryd.func62, Tryd.ntmps62
  go_wp2_with (go_at_call 59; refine (bitsAll_any 2 _ ⟨by omega, by omega⟩).mono ?_; rintro e w1 ⟨G, rfl, hG⟩; have HG := hid hG; clear hG)
  go_loopw [9] (fun i wr => ∃ k : Nat, k ≤ 64 ∧ i = .int .i64 k ∧ NewRow W wr G (fun x => if x < k then codeF ⟨a.on, a.off⟩ x else 2)) (fun i _ => 64 - (intOf i).toNat)
  case atStart => exact ⟨0, Nat.zero_le _, rfl, HG.out.zero (F := codeF ⟨a.on, a.off⟩)⟩
  case round =>
    obtain ⟨k, hk, rfl, hst⟩ := hrel
    have Hst := hid hst
    by_cases hlt : k < 64
    · have g0 := hst.at hlt
      have f0 := hst.fz k
      have z0 := hst.lt
      have ca := (Hra.out.later hst.old).at hlt
      have hr := codeF_range a k
      have Ht := hid (two_not Ha.out hlt)
      obtain ⟨x, hx⟩ : ∃ x, x = codeF a k := ⟨_, rfl⟩
      rw [← hx] at ca hr Ht
      have hx0 := hr.1
      clear hst hx hr
      go_wp2_with (go_at_call 100; (with_reducible refine (bitTwo_any 9 x 1 _ (by omega) hx0 (by omega)).mono ?_); rintro e w' ⟨rfl, rfl⟩; rw [Ht.out])
      go_roundw
      case rel => exact ⟨k + 1, by omega, by go_num, Hst.out.step (F := codeF ⟨a.on, a.off⟩)⟩
      case measure => simp [intOf]; omega
    · obtain rfl : 64 = k := by omega
      clear hst
      go_wp2_with fail
      go_ret
      exact MkPost.new (Hst.out.done (F := codeF ⟨a.on, a.off⟩)) fun x _ => rfl

set_option maxRecDepth 100000 in
set_option maxHeartbeats 4000000 in
theorem mk_7 (ga gb : Nat) (a b : Kn) (W : World) (hra : RowAt W ga a) (hrb : RowAt W gb b) (ha : a.Apart) (hb : b.Apart) :
    Calls Tryd.prog 62 #[.int .i64 7, .slice (some ⟨ga, 0, none⟩) 64 64, .slice (some ⟨gb, 0, none⟩) 64 64] W (MkPost W ga (makeIn 7 a b)) := by
  have Hra := hid hra
  have Hrb := hid hrb
  have za : ga < W.heap.size := hra.lt
  have zb : gb < W.heap.size := hrb.lt
  have Ha := hid ha
  have c0 := hra.at (x := 0) (by omega)
  have hu := code_le2 ha (i := 0) (by omega)
  obtain ⟨u, hu'⟩ : ∃ u, u = codeF a 0 := ⟨_, rfl⟩
  rw [← hu'] at c0 hu
  have q0 : (decide (u ≤ 3) && decide (3 ≤ u)) = false := eq_no (by omega)
  have Hb := hid hb
  have d0 := hrb.at (x := 0) (by omega)
  have hv := code_le2 hb (i := 0) (by omega)
  obtain ⟨v, hv'⟩ : ∃ v, v = codeF b 0 := ⟨_, rfl⟩
  rw [← hv'] at d0 hv
  have q1 : (decide (v ≤ 3) && decide (3 ≤ v)) = false := eq_no (by omega)
  clear hb hv hv'
  clear ha hu hu'
  clear hra hrb
  obtain ⟨K, hK⟩ : ∃ K, K = makeIn 7 a b := ⟨_, rfl⟩
  have HK := hid hK
  rw [← hK]
  clear hK
  go_enter Tryd.func62, Tryd.ntmps62
  go_wp2_with (go_at_call 59; refine (bitsAll_any 2 _ ⟨by omega, by omega⟩).mono ?_; rintro e w1 ⟨G, rfl, hG⟩; have HG := hid hG; clear hG)
  go_loopw [10] (fun i wr => ∃ k : Nat, k ≤ 64 ∧ i = .int .i64 k ∧ NewRow W wr G (fun x => if x < k then codeF K x else 2)) (fun i _ => 64 - (intOf i).toNat)
  case atStart => exact ⟨0, Nat.zero_le _, rfl, HG.out.zero (F := codeF K)⟩
  case round =>
    obtain ⟨k, hk, rfl, hst⟩ := hrel
    have Hst := hid hst
    by_cases hlt : k < 64
    · have g0 := hst.at hlt
      have f0 := hst.fz k
      have z0 := hst.lt
      have ca := (Hra.out.later hst.old).at hlt
      have cb := (Hrb.out.later hst.old).at hlt
      have hr := (codeF_range a k).1
      have hs := (codeF_range b k).1
      have Ht : Hid (bitTwoF 7 (codeF a k) (codeF b k) = codeF K k) := by show _ = _; rw [two_and Ha.out Hb.out hlt, HK.out]; rfl
      obtain ⟨x, hx⟩ : ∃ x, x = codeF a k := ⟨_, rfl⟩
      obtain ⟨y, hy⟩ : ∃ y, y = codeF b k := ⟨_, rfl⟩
      rw [← hx] at ca hr Ht
      rw [← hy] at cb hs Ht
      have j0 : (0 : Int) ≤ (k : Int) := by omega
      have j1 : (k : Int) < 64 := by omega
      clear hst hx hy
      go_wp2_with fail
      refine wp_region_still_tail 13 (by kernel_rfl) (by kernel_rfl) ?_
      simp only [List.take_succ_cons, List.take_zero, List.drop_succ_cons, List.drop_zero]
      repeat still_step
      still_call ((bitTwo_any 7 x y _ (by omega) hr hs).mono fun _ _ h => ⟨h.1, h.2.symm⟩)
      repeat still_step
      refine wpStill_nil ?_
      rw [Ht.out]
      change wpList _ _ _ _ _ wr.drew
      have hb0 : Below wr.heap.size wr wr.drew := (Below.refl _ _).drew
      have Hst2 := hid (Hst.out.later hb0)
      have g0 : wr.drew.cell? _ = _ := g0
      have f0 : wr.drew.frozen? _ = _ := f0
      generalize wr.drew = w2 at Hst2 g0 f0 ⊢
      clear hb0
      go_wp2_with fail
      go_roundw
      case rel => exact ⟨k + 1, by omega, by go_num, Hst2.out.step (F := codeF K)⟩
      case measure => simp [intOf]; omega
    · obtain rfl : 64 = k := by omega
      clear hst
      go_wp2_with fail
      go_ret
      exact MkPost.new (Hst.out.done (F := codeF K)) fun x _ => rfl

set_option maxRecDepth 100000 in
set_option maxHeartbeats 4000000 in
theorem mk_8 (ga gb : Nat) (a b : Kn) (W : World) (hra : RowAt W ga a) (hrb : RowAt W gb b) (ha : a.Apart) (hb : b.Apart) :
    Calls Tryd.prog 62 #[.int .i64 8, .slice (some ⟨ga, 0, none⟩) 64 64, .slice (some ⟨gb, 0, none⟩) 64 64] W (MkPost W ga (makeIn 8 a b)) := by
  have Hra := hid hra
  have Hrb := hid hrb
  have za : ga < W.heap.size := hra.lt
  have zb : gb < W.heap.size := hrb.lt
  have Ha := hid ha
  have c0 := hra.at (x := 0) (by omega)
  have hu := code_le2 ha (i := 0) (by omega)
  obtain ⟨u, hu'⟩ : ∃ u, u = codeF a 0 := ⟨_, rfl⟩
  rw [← hu'] at c0 hu
  have q0 : (decide (u ≤ 3) && decide (3 ≤ u)) = false := eq_no (by omega)
  have Hb := hid hb
  have d0 := hrb.at (x := 0) (by omega)
  have hv := code_le2 hb (i := 0) (by omega)
  obtain ⟨v, hv'⟩ : ∃ v, v = codeF b 0 := ⟨_, rfl⟩
  rw [← hv'] at d0 hv
  have q1 : (decide (v ≤ 3) && decide (3 ≤ v)) = false := eq_no (by omega)
  clear hb hv hv'
  clear ha hu hu'
  clear hra hrb
  obtain ⟨K, hK⟩ : ∃ K, K = makeIn 8 a b := ⟨_, rfl⟩
  have HK := hid hK
  rw [← hK]
  clear hK
  go_enter Tryd.func62, Tryd.ntmps62
  go_wp2_with (go_at_call 59; refine (bitsAll_any 2 _ ⟨by omega, by omega⟩).mono ?_; rintro e w1 ⟨G, rfl, hG⟩; have HG := hid hG; clear hG)
  go_loopw [10] (fun i wr => ∃ k : Nat, k ≤ 64 ∧ i = .int .i64 k ∧ NewRow W wr G (fun x => if x < k then codeF K x else 2)) (fun i _ => 64 - (intOf i).toNat)
  case atStart => exact ⟨0, Nat.zero_le _, rfl, HG.out.zero (F := codeF K)⟩
  case round =>
    obtain ⟨k, hk, rfl, hst⟩ := hrel
    have Hst := hid hst
    by_cases hlt : k < 64
    · have g0 := hst.at hlt
      have f0 := hst.fz k
      have z0 := hst.lt
      have ca := (Hra.out.later hst.old).at hlt
      have cb := (Hrb.out.later hst.old).at hlt
      have hr := (codeF_range a k).1
      have hs := (codeF_range b k).1
      have Ht : Hid (bitTwoF 8 (codeF a k) (codeF b k) = codeF K k) := by show _ = _; rw [two_or Ha.out Hb.out hlt, HK.out]; rfl
      obtain ⟨x, hx⟩ : ∃ x, x = codeF a k := ⟨_, rfl⟩
      obtain ⟨y, hy⟩ : ∃ y, y = codeF b k := ⟨_, rfl⟩
      rw [← hx] at ca hr Ht
      rw [← hy] at cb hs Ht
      have j0 : (0 : Int) ≤ (k : Int) := by omega
      have j1 : (k : Int) < 64 := by omega
      clear hst hx hy
      go_wp2_with fail
      refine wp_region_still_tail 13 (by kernel_rfl) (by kernel_rfl) ?_
      simp only [List.take_succ_cons, List.take_zero, List.drop_succ_cons, List.drop_zero]
      repeat still_step
      still_call ((bitTwo_any 8 x y _ (by omega) hr hs).mono fun _ _ h => ⟨h.1, h.2.symm⟩)
      repeat still_step
      refine wpStill_nil ?_
      rw [Ht.out]
      change wpList _ _ _ _ _ wr.drew
      have hb0 : Below wr.heap.size wr wr.drew := (Below.refl _ _).drew
      have Hst2 := hid (Hst.out.later hb0)
      have g0 : wr.drew.cell? _ = _ := g0
      have f0 : wr.drew.frozen? _ = _ := f0
      generalize wr.drew = w2 at Hst2 g0 f0 ⊢
      clear hb0
      go_wp2_with fail
      go_roundw
      case rel => exact ⟨k + 1, by omega, by go_num, Hst2.out.step (F := codeF K)⟩
      case measure => simp [intOf]; omega
    · obtain rfl : 64 = k := by omega
      clear hst
      go_wp2_with fail
      go_ret
      exact MkPost.new (Hst.out.done (F := codeF K)) fun x _ => rfl

set_option maxRecDepth 100000 in
set_option maxHeartbeats 4000000 in
theorem mk_9 (ga gb : Nat) (a b : Kn) (W : World) (hra : RowAt W ga a) (hrb : RowAt W gb b) (ha : a.Apart) (hb : b.Apart) :
    Calls Tryd.prog 62 #[.int .i64 9, .slice (some ⟨ga, 0, none⟩) 64 64, .slice (some ⟨gb, 0, none⟩) 64 64] W (MkPost W ga (makeIn 9 a b)) := by
  have Hra := hid hra
  have Hrb := hid hrb
  have za : ga < W.heap.size := hra.lt
  have zb : gb < W.heap.size := hrb.lt
  have Ha := hid ha
  have c0 := hra.at (x := 0) (by omega)
  have hu := code_le2 ha (i := 0) (by omega)
  obtain ⟨u, hu'⟩ : ∃ u, u = codeF a 0 := ⟨_, rfl⟩
  rw [← hu'] at c0 hu
  have q0 : (decide (u ≤ 3) && decide (3 ≤ u)) = false := eq_no (by omega)
  have Hb := hid hb
  have d0 := hrb.at (x := 0) (by omega)
  have hv := code_le2 hb (i := 0) (by omega)
  obtain ⟨v, hv'⟩ : ∃ v, v = codeF b 0 := ⟨_, rfl⟩
  rw [← hv'] at d0 hv
  have q1 : (decide (v ≤ 3) && decide (3 ≤ v)) = false := eq_no (by omega)
  clear hb hv hv'
  clear ha hu hu'
  clear hra hrb
  obtain ⟨K, hK⟩ : ∃ K, K = makeIn 9 a b := ⟨_, rfl⟩
  have HK := hid hK
  rw [← hK]
  clear hK
  go_enter Tryd.func62, Tryd.ntmps62
  go_wp2_with (go_at_call 59; refine (bitsAll_any 2 _ ⟨by omega, by omega⟩).mono ?_; rintro e w1 ⟨G, rfl, hG⟩; have HG := hid hG; clear hG)
  go_loopw [10] (fun i wr => ∃ k : Nat, k ≤ 64 ∧ i = .int .i64 k ∧ NewRow W wr G (fun x => if x < k then codeF K x else 2)) (fun i _ => 64 - (intOf i).toNat)
  case atStart => exact ⟨0, Nat.zero_le _, rfl, HG.out.zero (F := codeF K)⟩
  case round =>
    obtain ⟨k, hk, rfl, hst⟩ := hrel
    have Hst := hid hst
    by_cases hlt : k < 64
    · have g0 := hst.at hlt
      have f0 := hst.fz k
      have z0 := hst.lt
      have ca := (Hra.out.later hst.old).at hlt
      have cb := (Hrb.out.later hst.old).at hlt
      have hr := (codeF_range a k).1
      have hs := (codeF_range b k).1
      have Ht : Hid (bitTwoF 9 (codeF a k) (codeF b k) = codeF K k) := by show _ = _; rw [two_xor Ha.out Hb.out hlt, HK.out]; rfl
      obtain ⟨x, hx⟩ : ∃ x, x = codeF a k := ⟨_, rfl⟩
      obtain ⟨y, hy⟩ : ∃ y, y = codeF b k := ⟨_, rfl⟩
      rw [← hx] at ca hr Ht
      rw [← hy] at cb hs Ht
      have j0 : (0 : Int) ≤ (k : Int) := by omega
      have j1 : (k : Int) < 64 := by omega
      clear hst hx hy
      go_wp2_with fail
      refine wp_region_still_tail 13 (by kernel_rfl) (by kernel_rfl) ?_
      simp only [List.take_succ_cons, List.take_zero, List.drop_succ_cons, List.drop_zero]
      repeat still_step
      still_call ((bitTwo_any 9 x y _ (by omega) hr hs).mono fun _ _ h => ⟨h.1, h.2.symm⟩)
      repeat still_step
      refine wpStill_nil ?_
      rw [Ht.out]
      change wpList _ _ _ _ _ wr.drew
      have hb0 : Below wr.heap.size wr wr.drew := (Below.refl _ _).drew
      have Hst2 := hid (Hst.out.later hb0)
      have g0 : wr.drew.cell? _ = _ := g0
      have f0 : wr.drew.frozen? _ = _ := f0
      generalize wr.drew = w2 at Hst2 g0 f0 ⊢
      clear hb0
      go_wp2_with fail
      go_roundw
      case rel => exact ⟨k + 1, by omega, by go_num, Hst2.out.step (F := codeF K)⟩
      case measure => simp [intOf]; omega
    · obtain rfl : 64 = k := by omega
      clear hst
      go_wp2_with fail
      go_ret
      exact MkPost.new (Hst.out.done (F := codeF K)) fun x _ => rfl

set_option maxRecDepth 100000 in
set_option maxHeartbeats 4000000 in
theorem mk_12 (ga gb : Nat) (a b : Kn) (W : World) (hra : RowAt W ga a) (hrb : RowAt W gb b) (ha : a.Apart) (hb : b.Apart) :
    Calls Tryd.prog 62 #[.int .i64 12, .slice (some ⟨ga, 0, none⟩) 64 64, .slice (some ⟨gb, 0, none⟩) 64 64] W (MkPost W ga (makeIn 12 a b)) := by
  have Hra := hid hra
  have Hrb := hid hrb
  have za : ga < W.heap.size := hra.lt
  have zb : gb < W.heap.size := hrb.lt
  have Ha := hid ha
  have c0 := hra.at (x := 0) (by omega)
  have hu := code_le2 ha (i := 0) (by omega)
  obtain ⟨u, hu'⟩ : ∃ u, u = codeF a 0 := ⟨_, rfl⟩
  rw [← hu'] at c0 hu
  have q0 : (decide (u ≤ 3) && decide (3 ≤ u)) = false := eq_no (by omega)
  have Hb := hid hb
  have d0 := hrb.at (x := 0) (by omega)
  have hv := code_le2 hb (i := 0) (by omega)
  obtain ⟨v, hv'⟩ : ∃ v, v = codeF b 0 := ⟨_, rfl⟩
  rw [← hv'] at d0 hv
  have q1 : (decide (v ≤ 3) && decide (3 ≤ v)) = false := eq_no (by omega)
  clear hb hv hv'
  clear ha hu hu'
  clear hra hrb
  go_enter Tryd.func62, Tryd.ntmps62
  go_wp2_with (go_at_call 59; refine (bitsAll_any 2 _ ⟨by omega, by omega⟩).mono ?_; rintro e w1 ⟨G, rfl, hG⟩; have HG := hid hG; clear hG)
  go_loopw [15] (fun i wr => ∃ k : Nat, 1 ≤ k ∧ k ≤ 64 ∧ i = .int .i64 k ∧ NewRow W wr G (fun x => if x < k then (if x = 0 then 2 else 0) else 2)) (fun i _ => 64 - (intOf i).toNat)
  case atStart => exact ⟨1, by omega, by omega, rfl, HG.out.congr fun x _ => by by_cases h : x < 1 <;> simp [h]; omega⟩
  case round =>
    obtain ⟨k, hk1, hk, rfl, hst⟩ := hrel
    have Hst := hid hst
    by_cases hlt : k < 64
    · have g0 := hst.at hlt
      have f0 := hst.fz k
      have z0 := hst.lt
      have He : Hid ((if k = 0 then (2 : Int) else 0) = 0) := if_neg (by omega)
      clear hst
      go_wp2_with fail
      go_roundw
      case rel =>
        have h := Hst.out.step (F := fun x => if x = 0 then (2 : Int) else 0)
        rw [He.out] at h
        exact ⟨k + 1, by omega, by omega, by go_num, h⟩
      case measure => simp [intOf]; omega
    · obtain rfl : 64 = k := by omega
      clear hst
      go_wp2_with fail
      go_ret
      exact MkPost.new (Hst.out.done (F := fun x => if x = 0 then (2 : Int) else 0)) fun x hx => (code_cmp hx).symm

set_option maxRecDepth 100000 in
set_option maxHeartbeats 4000000 in
theorem mk_13 (ga gb : Nat) (a b : Kn) (W : World) (hra : RowAt W ga a) (hrb : RowAt W gb b) (ha : a.Apart) (hb : b.Apart) :
    Calls Tryd.prog 62 #[.int .i64 13, .slice (some ⟨ga, 0, none⟩) 64 64, .slice (some ⟨gb, 0, none⟩) 64 64] W (MkPost W ga (makeIn 13 a b)) := by
  have Hra := hid hra
  have Hrb := hid hrb
  have za : ga < W.heap.size := hra.lt
  have zb : gb < W.heap.size := hrb.lt
  have Ha := hid ha
  have c0 := hra.at (x := 0) (by omega)
  have hu := code_le2 ha (i := 0) (by omega)
  obtain ⟨u, hu'⟩ : ∃ u, u = codeF a 0 := ⟨_, rfl⟩
  rw [← hu'] at c0 hu
  have q0 : (decide (u ≤ 3) && decide (3 ≤ u)) = false := eq_no (by omega)
  have Hb := hid hb
  have d0 := hrb.at (x := 0) (by omega)
  have hv := code_le2 hb (i := 0) (by omega)
  obtain ⟨v, hv'⟩ : ∃ v, v = codeF b 0 := ⟨_, rfl⟩
  rw [← hv'] at d0 hv
  have q1 : (decide (v ≤ 3) && decide (3 ≤ v)) = false := eq_no (by omega)
  clear hb hv hv'
  clear ha hu hu'
  clear hra hrb
  go_enter Tryd.func62, Tryd.ntmps62
  go_wp2_with (go_at_call 59; refine (bitsAll_any 2 _ ⟨by omega, by omega⟩).mono ?_; rintro e w1 ⟨G, rfl, hG⟩; have HG := hid hG; clear hG)
  go_loopw [15] (fun i wr => ∃ k : Nat, 1 ≤ k ∧ k ≤ 64 ∧ i = .int .i64 k ∧ NewRow W wr G (fun x => if x < k then (if x = 0 then 2 else 0) else 2)) (fun i _ => 64 - (intOf i).toNat)
  case atStart => exact ⟨1, by omega, by omega, rfl, HG.out.congr fun x _ => by by_cases h : x < 1 <;> simp [h]; omega⟩
  case round =>
    obtain ⟨k, hk1, hk, rfl, hst⟩ := hrel
    have Hst := hid hst
    by_cases hlt : k < 64
    · have g0 := hst.at hlt
      have f0 := hst.fz k
      have z0 := hst.lt
      have He : Hid ((if k = 0 then (2 : Int) else 0) = 0) := if_neg (by omega)
      clear hst
      go_wp2_with fail
      go_roundw
      case rel =>
        have h := Hst.out.step (F := fun x => if x = 0 then (2 : Int) else 0)
        rw [He.out] at h
        exact ⟨k + 1, by omega, by omega, by go_num, h⟩
      case measure => simp [intOf]; omega
    · obtain rfl : 64 = k := by omega
      clear hst
      go_wp2_with fail
      go_ret
      exact MkPost.new (Hst.out.done (F := fun x => if x = 0 then (2 : Int) else 0)) fun x hx => (code_cmp hx).symm

set_option maxRecDepth 100000 in
set_option maxHeartbeats 4000000 in
theorem mk_14 (ga gb : Nat) (a b : Kn) (W : World) (hra : RowAt W ga a) (hrb : RowAt W gb b) (ha : a.Apart) (hb : b.Apart) :
    Calls Tryd.prog 62 #[.int .i64 14, .slice (some ⟨ga, 0, none⟩) 64 64, .slice (some ⟨gb, 0, none⟩) 64 64] W (MkPost W ga (makeIn 14 a b)) := by
  have Hra := hid hra
  have Hrb := hid hrb
  have za : ga < W.heap.size := hra.lt
  have zb : gb < W.heap.size := hrb.lt
  have Ha := hid ha
  have c0 := hra.at (x := 0) (by omega)
  have hu := code_le2 ha (i := 0) (by omega)
  obtain ⟨u, hu'⟩ : ∃ u, u = codeF a 0 := ⟨_, rfl⟩
  rw [← hu'] at c0 hu
  have q0 : (decide (u ≤ 3) && decide (3 ≤ u)) = false := eq_no (by omega)
  have Hb := hid hb
  have d0 := hrb.at (x := 0) (by omega)
  have hv := code_le2 hb (i := 0) (by omega)
  obtain ⟨v, hv'⟩ : ∃ v, v = codeF b 0 := ⟨_, rfl⟩
  rw [← hv'] at d0 hv
  have q1 : (decide (v ≤ 3) && decide (3 ≤ v)) = false := eq_no (by omega)
  clear hb hv hv'
  clear ha hu hu'
  clear hra hrb
  go_enter Tryd.func62, Tryd.ntmps62
  go_wp2_with (go_at_call 59; refine (bitsAll_any 2 _ ⟨by omega, by omega⟩).mono ?_; rintro e w1 ⟨G, rfl, hG⟩; have HG := hid hG; clear hG)
  go_loopw [15] (fun i wr => ∃ k : Nat, 1 ≤ k ∧ k ≤ 64 ∧ i = .int .i64 k ∧ NewRow W wr G (fun x => if x < k then (if x = 0 then 2 else 0) else 2)) (fun i _ => 64 - (intOf i).toNat)
  case atStart => exact ⟨1, by omega, by omega, rfl, HG.out.congr fun x _ => by by_cases h : x < 1 <;> simp [h]; omega⟩
  case round =>
    obtain ⟨k, hk1, hk, rfl, hst⟩ := hrel
    have Hst := hid hst
    by_cases hlt : k < 64
    · have g0 := hst.at hlt
      have f0 := hst.fz k
      have z0 := hst.lt
      have He : Hid ((if k = 0 then (2 : Int) else 0) = 0) := if_neg (by omega)
      clear hst
      go_wp2_with fail
      go_roundw
      case rel =>
        have h := Hst.out.step (F := fun x => if x = 0 then (2 : Int) else 0)
        rw [He.out] at h
        exact ⟨k + 1, by omega, by omega, by go_num, h⟩
      case measure => simp [intOf]; omega
    · obtain rfl : 64 = k := by omega
      clear hst
      go_wp2_with fail
      go_ret
      exact MkPost.new (Hst.out.done (F := fun x => if x = 0 then (2 : Int) else 0)) fun x hx => (code_cmp hx).symm

set_option maxRecDepth 100000 in
set_option maxHeartbeats 4000000 in
theorem mk_15 (ga gb : Nat) (a b : Kn) (W : World) (hra : RowAt W ga a) (hrb : RowAt W gb b) (ha : a.Apart) (hb : b.Apart) :
    Calls Tryd.prog 62 #[.int .i64 15, .slice (some ⟨ga, 0, none⟩) 64 64, .slice (some ⟨gb, 0, none⟩) 64 64] W (MkPost W ga (makeIn 15 a b)) := by
  have Hra := hid hra
  have Hrb := hid hrb
  have za : ga < W.heap.size := hra.lt
  have zb : gb < W.heap.size := hrb.lt
  have Ha := hid ha
  have c0 := hra.at (x := 0) (by omega)
  have hu := code_le2 ha (i := 0) (by omega)
  obtain ⟨u, hu'⟩ : ∃ u, u = codeF a 0 := ⟨_, rfl⟩
  rw [← hu'] at c0 hu
  have q0 : (decide (u ≤ 3) && decide (3 ≤ u)) = false := eq_no (by omega)
  have Hb := hid hb
  have d0 := hrb.at (x := 0) (by omega)
  have hv := code_le2 hb (i := 0) (by omega)
  obtain ⟨v, hv'⟩ : ∃ v, v = codeF b 0 := ⟨_, rfl⟩
  rw [← hv'] at d0 hv
  have q1 : (decide (v ≤ 3) && decide (3 ≤ v)) = false := eq_no (by omega)
  clear hb hv hv'
  clear ha hu hu'
  clear hra hrb
  go_enter Tryd.func62, Tryd.ntmps62
  go_wp2_with (go_at_call 59; refine (bitsAll_any 2 _ ⟨by omega, by omega⟩).mono ?_; rintro e w1 ⟨G, rfl, hG⟩; have HG := hid hG; clear hG)
  go_loopw [15] (fun i wr => ∃ k : Nat, 1 ≤ k ∧ k ≤ 64 ∧ i = .int .i64 k ∧ NewRow W wr G (fun x => if x < k then (if x = 0 then 2 else 0) else 2)) (fun i _ => 64 - (intOf i).toNat)
  case atStart => exact ⟨1, by omega, by omega, rfl, HG.out.congr fun x _ => by by_cases h : x < 1 <;> simp [h]; omega⟩
  case round =>
    obtain ⟨k, hk1, hk, rfl, hst⟩ := hrel
    have Hst := hid hst
    by_cases hlt : k < 64
    · have g0 := hst.at hlt
      have f0 := hst.fz k
      have z0 := hst.lt
      have He : Hid ((if k = 0 then (2 : Int) else 0) = 0) := if_neg (by omega)
      clear hst
      go_wp2_with fail
      go_roundw
      case rel =>
        have h := Hst.out.step (F := fun x => if x = 0 then (2 : Int) else 0)
        rw [He.out] at h
        exact ⟨k + 1, by omega, by omega, by go_num, h⟩
      case measure => simp [intOf]; omega
    · obtain rfl : 64 = k := by omega
      clear hst
      go_wp2_with fail
      go_ret
      exact MkPost.new (Hst.out.done (F := fun x => if x = 0 then (2 : Int) else 0)) fun x hx => (code_cmp hx).symm

set_option maxRecDepth 100000 in
set_option maxHeartbeats 4000000 in
theorem mk_10n (ga gb : Nat) (a b : Kn) (W : World) (hra : RowAt W ga a) (hrb : RowAt W gb b) (ha : a.Apart) (hb : b.Apart) (hs : sureB b = false) :
    Calls Tryd.prog 62 #[.int .i64 10, .slice (some ⟨ga, 0, none⟩) 64 64, .slice (some ⟨gb, 0, none⟩) 64 64] W (MkPost W ga (makeIn 10 a b)) := by
  have Hra := hid hra
  have Hrb := hid hrb
  have za : ga < W.heap.size := hra.lt
  have zb : gb < W.heap.size := hrb.lt
  have Ha := hid ha
  have c0 := hra.at (x := 0) (by omega)
  have hu := code_le2 ha (i := 0) (by omega)
  obtain ⟨u, hu'⟩ : ∃ u, u = codeF a 0 := ⟨_, rfl⟩
  rw [← hu'] at c0 hu
  have q0 : (decide (u ≤ 3) && decide (3 ≤ u)) = false := eq_no (by omega)
  have Hb := hid hb
  have d0 := hrb.at (x := 0) (by omega)
  have hv := code_le2 hb (i := 0) (by omega)
  obtain ⟨v, hv'⟩ : ∃ v, v = codeF b 0 := ⟨_, rfl⟩
  rw [← hv'] at d0 hv
  have q1 : (decide (v ≤ 3) && decide (3 ≤ v)) = false := eq_no (by omega)
  clear hb hv hv'
  clear ha hu hu'
  clear hra hrb
  have Hs := hid hs
  clear hs
  go_enter Tryd.func62, Tryd.ntmps62
  go_wp2_with (first
    | (go_at_call 59; refine (bitsAll_any 2 _ ⟨by omega, by omega⟩).mono ?_; rintro e w1 ⟨G, rfl, hG⟩; have HG := hid hG; clear hG)
    | (go_at_call 103; (with_reducible refine (bitsSure_any gb b _ (Hrb.out.later HG.out.old) Hb.out).mono ?_); rintro e w' ⟨rfl, rfl⟩; rw [Hs.out]))
  go_ret
  exact MkPost.new HG.out fun x _ => by rw [mkl_10n Hs.out, code_none]

set_option maxRecDepth 100000 in
set_option maxHeartbeats 4000000 in
theorem mk_10 (ga gb : Nat) (a b : Kn) (W : World) (hra : RowAt W ga a) (hrb : RowAt W gb b) (ha : a.Apart) (hb : b.Apart) (hs : sureB b = true) :
    Calls Tryd.prog 62 #[.int .i64 10, .slice (some ⟨ga, 0, none⟩) 64 64, .slice (some ⟨gb, 0, none⟩) 64 64] W (MkPost W ga (makeIn 10 a b)) := by
  have Hra := hid hra
  have Hrb := hid hrb
  have za : ga < W.heap.size := hra.lt
  have zb : gb < W.heap.size := hrb.lt
  have Ha := hid ha
  have c0 := hra.at (x := 0) (by omega)
  have hu := code_le2 ha (i := 0) (by omega)
  obtain ⟨u, hu'⟩ : ∃ u, u = codeF a 0 := ⟨_, rfl⟩
  rw [← hu'] at c0 hu
  have q0 : (decide (u ≤ 3) && decide (3 ≤ u)) = false := eq_no (by omega)
  have Hb := hid hb
  have d0 := hrb.at (x := 0) (by omega)
  have hv := code_le2 hb (i := 0) (by omega)
  obtain ⟨v, hv'⟩ : ∃ v, v = codeF b 0 := ⟨_, rfl⟩
  rw [← hv'] at d0 hv
  have q1 : (decide (v ≤ 3) && decide (3 ≤ v)) = false := eq_no (by omega)
  clear hb hv hv'
  clear ha hu hu'
  clear hra hrb
  have Hs := hid hs
  have hlt64 := shX_lt b.on
  obtain ⟨s, hse⟩ : ∃ s, s = shX b.on := ⟨_, rfl⟩
  obtain ⟨K, hK⟩ : ∃ K, K = makeIn 10 a b := ⟨_, rfl⟩
  have HK : Hid (K = ⟨(a.off <<< s) ||| maskF s, a.on <<< s⟩) := by show _ = _; rw [hK, mkl_10 hs, hse]
  rw [← hK]
  have Hse := hid hse
  rw [← hse] at hlt64
  clear hs hK hse
  go_enter Tryd.func62, Tryd.ntmps62
  go_wp2_with (first
    | (go_at_call 59; refine (bitsAll_any 2 _ ⟨by omega, by omega⟩).mono ?_; rintro e w1 ⟨G, rfl, hG⟩; have HG := hid hG; clear hG)
    | (go_at_call 103; (with_reducible refine (bitsSure_any gb b _ (Hrb.out.later HG.out.old) Hb.out).mono ?_); rintro e w' ⟨rfl, rfl⟩; rw [Hs.out])
    | (go_at_call 101; (with_reducible refine (bitsNumber_any gb b _ (Hrb.out.later HG.out.old) Hb.out).mono ?_); rintro e w' ⟨rfl, rfl⟩))
  try rw [← Hse.out]
  go_loopw [14] (fun i wr => ∃ k : Nat, k ≤ 64 ∧ i = .int .i64 k ∧ NewRow W wr G (fun x => if x < k then codeF K x else 2)) (fun i _ => 64 - (intOf i).toNat)
  case atStart => exact ⟨0, Nat.zero_le _, rfl, HG.out.zero (F := codeF K)⟩
  case round =>
    obtain ⟨k, hk, rfl, hst⟩ := hrel
    have Hst := hid hst
    by_cases hlt : k < 64
    · have g0 := hst.at hlt
      have f0 := hst.fz k
      have z0 := hst.lt
      by_cases hm : k < s
      · have Ht : Hid (codeF K k = 0) := by show _ = _; rw [HK.out, code_shl _ _ hlt, if_pos hm]
        have q2 : decide ((k : Int) < (s : Int)) = true := decide_eq_true (by omega)
        clear hst
        go_wp2_with fail
        go_roundw
        case rel =>
          have h := Hst.out.step (F := codeF K)
          rw [Ht.out] at h
          exact ⟨k + 1, by omega, by go_num, h⟩
        case measure => simp [intOf]; omega
      · have ca := (Hra.out.later hst.old).at (x := k - s) (by omega)
        have Ht : Hid (codeF a (k - s) = codeF K k) := by show _ = _; rw [HK.out, code_shl _ _ hlt, if_neg hm]
        rw [Ht.out] at ca
        have q2 : decide ((k : Int) < (s : Int)) = false := decide_eq_false (by omega)
        have hks : ((k : Int) - (s : Int)).toNat = k - s := by omega
        clear hst
        go_wp2_with fail
        go_roundw
        case rel => exact ⟨k + 1, by omega, by go_num, Hst.out.step (F := codeF K)⟩
        case measure => simp [intOf]; omega
    · obtain rfl : 64 = k := by omega
      clear hst
      go_wp2_with fail
      go_ret
      exact MkPost.new (Hst.out.done (F := codeF K)) fun x _ => rfl

set_option maxRecDepth 100000 in
set_option maxHeartbeats 4000000 in
theorem mk_11n (ga gb : Nat) (a b : Kn) (W : World) (hra : RowAt W ga a) (hrb : RowAt W gb b) (ha : a.Apart) (hb : b.Apart) (hs : sureB b = false) :
    Calls Tryd.prog 62 #[.int .i64 11, .slice (some ⟨ga, 0, none⟩) 64 64, .slice (some ⟨gb, 0, none⟩) 64 64] W (MkPost W ga (makeIn 11 a b)) := by
  have Hra := hid hra
  have Hrb := hid hrb
  have za : ga < W.heap.size := hra.lt
  have zb : gb < W.heap.size := hrb.lt
  have Ha := hid ha
  have c0 := hra.at (x := 0) (by omega)
  have hu := code_le2 ha (i := 0) (by omega)
  obtain ⟨u, hu'⟩ : ∃ u, u = codeF a 0 := ⟨_, rfl⟩
  rw [← hu'] at c0 hu
  have q0 : (decide (u ≤ 3) && decide (3 ≤ u)) = false := eq_no (by omega)
  have Hb := hid hb
  have d0 := hrb.at (x := 0) (by omega)
  have hv := code_le2 hb (i := 0) (by omega)
  obtain ⟨v, hv'⟩ : ∃ v, v = codeF b 0 := ⟨_, rfl⟩
  rw [← hv'] at d0 hv
  have q1 : (decide (v ≤ 3) && decide (3 ≤ v)) = false := eq_no (by omega)
  clear hb hv hv'
  clear ha hu hu'
  clear hra hrb
  have Hs := hid hs
  clear hs
  go_enter Tryd.func62, Tryd.ntmps62
  go_wp2_with (first
    | (go_at_call 59; refine (bitsAll_any 2 _ ⟨by omega, by omega⟩).mono ?_; rintro e w1 ⟨G, rfl, hG⟩; have HG := hid hG; clear hG)
    | (go_at_call 103; (with_reducible refine (bitsSure_any gb b _ (Hrb.out.later HG.out.old) Hb.out).mono ?_); rintro e w' ⟨rfl, rfl⟩; rw [Hs.out]))
  go_ret
  exact MkPost.new HG.out fun x _ => by rw [mkl_11n Hs.out, code_none]

set_option maxRecDepth 100000 in
set_option maxHeartbeats 4000000 in
theorem mk_11 (ga gb : Nat) (a b : Kn) (W : World) (hra : RowAt W ga a) (hrb : RowAt W gb b) (ha : a.Apart) (hb : b.Apart) (hs : sureB b = true) :
    Calls Tryd.prog 62 #[.int .i64 11, .slice (some ⟨ga, 0, none⟩) 64 64, .slice (some ⟨gb, 0, none⟩) 64 64] W (MkPost W ga (makeIn 11 a b)) := by
  have Hra := hid hra
  have Hrb := hid hrb
  have za : ga < W.heap.size := hra.lt
  have zb : gb < W.heap.size := hrb.lt
  have Ha := hid ha
  have c0 := hra.at (x := 0) (by omega)
  have hu := code_le2 ha (i := 0) (by omega)
  obtain ⟨u, hu'⟩ : ∃ u, u = codeF a 0 := ⟨_, rfl⟩
  rw [← hu'] at c0 hu
  have q0 : (decide (u ≤ 3) && decide (3 ≤ u)) = false := eq_no (by omega)
  have Hb := hid hb
  have d0 := hrb.at (x := 0) (by omega)
  have hv := code_le2 hb (i := 0) (by omega)
  obtain ⟨v, hv'⟩ : ∃ v, v = codeF b 0 := ⟨_, rfl⟩
  rw [← hv'] at d0 hv
  have q1 : (decide (v ≤ 3) && decide (3 ≤ v)) = false := eq_no (by omega)
  clear hb hv hv'
  clear ha hu hu'
  clear hra hrb
  have Hs := hid hs
  have hlt64 := shX_lt b.on
  obtain ⟨s, hse⟩ : ∃ s, s = shX b.on := ⟨_, rfl⟩
  obtain ⟨K, hK⟩ : ∃ K, K = makeIn 11 a b := ⟨_, rfl⟩
  have HK : Hid (K = ⟨a.off.sshiftRight s, a.on.sshiftRight s⟩) := by show _ = _; rw [hK, mkl_11 hs, hse]
  rw [← hK]
  have Hse := hid hse
  rw [← hse] at hlt64
  clear hs hK hse
  go_enter Tryd.func62, Tryd.ntmps62
  go_wp2_with (first
    | (go_at_call 59; refine (bitsAll_any 2 _ ⟨by omega, by omega⟩).mono ?_; rintro e w1 ⟨G, rfl, hG⟩; have HG := hid hG; clear hG)
    | (go_at_call 103; (with_reducible refine (bitsSure_any gb b _ (Hrb.out.later HG.out.old) Hb.out).mono ?_); rintro e w' ⟨rfl, rfl⟩; rw [Hs.out])
    | (go_at_call 101; (with_reducible refine (bitsNumber_any gb b _ (Hrb.out.later HG.out.old) Hb.out).mono ?_); rintro e w' ⟨rfl, rfl⟩))
  try rw [← Hse.out]
  go_loopw [14] (fun i wr => ∃ k : Nat, k ≤ 64 ∧ i = .int .i64 k ∧ NewRow W wr G (fun x => if x < k then codeF K x else 2)) (fun i _ => 64 - (intOf i).toNat)
  case atStart => exact ⟨0, Nat.zero_le _, rfl, HG.out.zero (F := codeF K)⟩
  case round =>
    obtain ⟨k, hk, rfl, hst⟩ := hrel
    have Hst := hid hst
    by_cases hlt : k < 64
    · have g0 := hst.at hlt
      have f0 := hst.fz k
      have z0 := hst.lt
      by_cases hm : k + s ≤ 63
      · have ca := (Hra.out.later hst.old).at (x := k + s) (by omega)
        have Ht : Hid (codeF a (k + s) = codeF K k) := by show _ = _; rw [HK.out, code_shr _ _ hlt, show min (s + k) 63 = k + s by omega]
        rw [Ht.out] at ca
        clear hst
        go_wp2_with fail
        go_roundw
        case rel => exact ⟨k + 1, by omega, by go_num, Hst.out.step (F := codeF K)⟩
        case measure => simp [intOf]; omega
      · have ca := (Hra.out.later hst.old).at (x := 63) (by omega)
        have Ht : Hid (codeF a 63 = codeF K k) := by show _ = _; rw [HK.out, code_shr _ _ hlt, show min (s + k) 63 = 63 by omega]
        rw [Ht.out] at ca
        clear hst
        go_wp2_with fail
        go_roundw
        case rel => exact ⟨k + 1, by omega, by go_num, Hst.out.step (F := codeF K)⟩
        case measure => simp [intOf]; omega
    · obtain rfl : 64 = k := by omega
      clear hst
      go_wp2_with fail
      go_ret
      exact MkPost.new (Hst.out.done (F := codeF K)) fun x _ => rfl

theorem bitsMake_any (op : Int) (ga gb : Nat) (a b : Kn) (W : World) (hra : RowAt W ga a) (hrb : RowAt W gb b) (ha : a.Fit) (hb : b.Fit) :
    Calls Tryd.prog 62 #[.int .i64 op, .slice (some ⟨ga, 0, none⟩) 64 64, .slice (some ⟨gb, 0, none⟩) 64 64] W (MkPost W ga (makesF op a b)) := by
  by_cases h17 : 17 < op
  · have e : makesF op a b = Kn.none := by unfold makesF; rw [if_pos h17]
    rw [e]
    exact mk_more op ga gb a b W hra hrb h17
  have hop : op ≤ 17 := by omega
  cases hat : a.both with
  | true =>
    have e : makesF op a b = Kn.top := by unfold makesF; rw [if_neg h17, if_pos (by rw [hat]; rfl)]
    rw [e]
    exact mk_top op ga gb a b W hra hrb hop (ha.both.1 hat)
  | false =>
    have hA := Kn.both_apart.1 hat
    cases hbt : (!loneB op && b.both) with
    | true =>
      have e : makesF op a b = Kn.top := by unfold makesF; rw [if_neg h17, if_pos (by rw [hat, hbt]; rfl)]
      rw [e]
      rw [Bool.and_eq_true] at hbt
      have hl : ¬ (op = 1 ∨ op = 16 ∨ op = 17) := by
        have h := hbt.1
        unfold loneB at h
        simpa using h
      exact mk_top2 op ga gb a b W hra hrb hA hop (fun h => hl (.inl h)) (fun h => hl (.inr (.inl h))) (fun h => hl (.inr (.inr h))) (hb.both.1 hbt.2)
    | false =>
      have e : makesF op a b = makeIn op a b := by unfold makesF; rw [if_neg h17, if_neg (by rw [hat, hbt]; decide)]
      rw [e]
      clear e
      by_cases h1 : op = 1
      · subst h1; exact mk_1 ga gb a b W hra hrb hA
      by_cases h2 : op = 16
      · subst h2; exact mk_16 ga gb a b W hra hrb hA
      by_cases h3 : op = 17
      · subst h3; exact mk_17 ga gb a b W hra hrb hA
      have hl : loneB op = false := by unfold loneB; simp; omega
      rw [hl] at hbt
      have hB := Kn.both_apart.1 (show b.both = false by simpa using hbt)
      by_cases h0 : op ≤ 0
      · have e : makeIn op a b = Kn.none := by
          unfold makeIn
          rw [if_neg (by omega), if_neg (by omega), if_neg (by omega), if_neg (by omega), if_neg (by omega), if_neg (by omega), if_neg (by omega), if_neg (by omega), if_neg (by omega), if_neg (by omega), if_neg (by omega), if_neg (by omega)]
        rw [e]
        exact mk_0 op ga gb a b W hra hrb hA hB h0
      have hs : op = 2 ∨ op = 3 ∨ op = 4 ∨ op = 5 ∨ op = 6 ∨ op = 7 ∨ op = 8 ∨ op = 9 ∨ op = 10 ∨ op = 11 ∨ op = 12 ∨ op = 13 ∨ op = 14 ∨ op = 15 := by omega
      clear h17 hop h1 h2 h3 hl h0 hbt
      rcases hs with rfl | rfl | rfl | rfl | rfl | rfl | rfl | rfl | rfl | rfl | rfl | rfl | rfl | rfl
      · exact mk_2 ga gb a b W hra hrb hA hB
      · exact mk_3 ga gb a b W hra hrb hA hB
      · exact mk_4 ga gb a b W hra hrb hA hB
      · exact mk_5 ga gb a b W hra hrb hA hB
      · exact mk_6 ga gb a b W hra hrb hA hB
      · exact mk_7 ga gb a b W hra hrb hA hB
      · exact mk_8 ga gb a b W hra hrb hA hB
      · exact mk_9 ga gb a b W hra hrb hA hB
      · cases hs : sureB b with
        | true => exact mk_10 ga gb a b W hra hrb hA hB hs
        | false => exact mk_10n ga gb a b W hra hrb hA hB hs
      · cases hs : sureB b with
        | true => exact mk_11 ga gb a b W hra hrb hA hB hs
        | false => exact mk_11n ga gb a b W hra hrb hA hB hs
      · exact mk_12 ga gb a b W hra hrb hA hB
      · exact mk_13 ga gb a b W hra hrb hA hB
      · exact mk_14 ga gb a b W hra hrb hA hB
      · exact mk_15 ga gb a b W hra hrb hA hB

end Go.Proofs.YtaehkcnankijfaaDoor
