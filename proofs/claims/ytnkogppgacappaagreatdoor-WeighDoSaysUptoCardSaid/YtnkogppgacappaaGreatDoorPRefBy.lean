/- turneryref6.WeighBy: the document's unit with its blocks laid by counts. -/
import Derived.Test.YtnkogppgacappaaGreatDoorPBy
import Derived.Test.YtnkogppgacappaaGreatDoorPRefTurn
import Derived.Test.YtnkogppgacappaaGreatDoorPRefU
import Derived.Test.YtnkogppgacappaaGreatDoorPFits
import Derived.Test.YtnkogppgacappaaGreatDoorPLawLay
namespace Go.Proofs.YtnkogppgacappaaGreatDoor
open Go.RowKit

/-- turneryref6.WeighTurn of a function in its form, at the order that weigh.lay gives. -/
theorem refTurn_of {S S'' : Nat → Prop} {fs : List DFunc} (f : DFunc) (C : List Int) (names : List ByteArray) (hh : headE names f = 0) (hbd : bodyE fs f = 0) (hsm : SmallF f)
    (nm : ByteArray) (p r : Int) (n : Nat) (hn : f.blocks.length = n) (ba : Option Addr) (bc : Nat) (v : Value) (w : World)
    (hb : SlAt S w 6 rBlock (.slice ba n bc) f.blocks) (ho : SlAt S'' w 1 rInt v ((layF f.blocks (cntOf C)).map fun b : Nat => (b : Int))) :
    Calls Tryz.prog 32 #[.agg #[.string nm, .int .i64 p, .int .i64 r, .slice ba n bc], v] w fun e w' =>
      ∃ a c, e = .returned (.agg #[.string nm, .int .i64 p, .int .i64 r, .slice a n c]) ∧ SlAt (iv w.heap.size w'.heap.size) w' 6 rBlock (.slice a n c) (byF f C).blocks ∧ Below w.heap.size w w' := by
  subst hn
  obtain ⟨-, -, -, -, -, -, h1, h40, -⟩ := headE_ok hh
  obtain ⟨hp, h0, hO⟩ := lay_perm hbd (by omega) (cntOf C)
  have hf := body_flow hbd
  have hml : ((layF f.blocks (cntOf C)).map fun b : Nat => (b : Int)).length = f.blocks.length := by rw [List.length_map]; exact hp.len
  obtain ⟨oa, oc, rfl⟩ := sl_len ho
  have hg : ∀ k (x : DBlock), f.blocks[k]? = some x → k < f.blocks.length ∧ f.blocks.getD k noBlock = x := fun k x hx => by
    refine ⟨(List.getElem?_eq_some_iff.1 hx).1, ?_⟩
    rw [List.getD_eq_getElem?_getD, hx]; rfl
  have hto : ∀ (k : Nat) (x : DBlock), f.blocks[k]? = some x → x.fin.to.length ≤ 2 ∧ ∀ t ∈ x.fin.to, 0 ≤ t ∧ t < (f.blocks.length : Int) := fun k x hx => by
    obtain ⟨hk, hgd⟩ := hg k x hx
    have he := (bodyE_zero.1 hbd).1 k hk
    unfold endsE at he
    rw [hx] at he
    have he' := endE_iff.1 he
    exact ⟨by omega, fun t ht => by have := he'.2.2.1 t ht; omega⟩
  rw [hml] at ho ⊢
  exact refTurn_any (S := S) (S'' := S'') nm p r ba bc f.blocks oa oc (layF f.blocks (cntOf C)) f.blocks.length w hb ho (by omega) h40 rfl hp hsm.each hf hto (fun b x hx q hq => by
      obtain ⟨hk, hgd⟩ := hg b x hx
      exact hf.phi b hk q (by rw [hgd]; exact hq))


theorem cell_four {W : World} {R i B o : Nat} {v u0 u1 u2 u3 : Value} (h : W.cell? ⟨B, o, none⟩ = some v) (hB : B ≠ R) : ((((W.setCell ⟨R, i, none⟩ u0).setCell ⟨R, i + 1, none⟩ u1).setCell ⟨R, i + 2, none⟩ u2).setCell ⟨R, i + 3, none⟩ u3).cell? ⟨B, o, none⟩ = some v := by
  rw [cell_set_ne _ hB, cell_set_ne _ hB, cell_set_ne _ hB, cell_set_ne _ hB]; exact h

set_option maxRecDepth 100000 in
set_option maxHeartbeats 8000000 in
theorem refBy_any {S S' : Nat → Prop} (ga : Option Addr) (gc : Nat) (fa : Option Addr) (fc : Nat) (gs : List DGlobal) (fs : List DFunc) (ca : Option Addr) (cc : Nat) (Cs : List (List Int)) (w : World)
    (hg : SlAt S w 3 rGlobal (.slice ga gs.length gc) gs) (hf : SlAt S w 4 rFunc (.slice fa fs.length fc) fs) (hC : SlAt S' w 1 rRow (.slice ca Cs.length cc) Cs)
    (hgl : gs.length ≤ 1048576) (hfl : fs.length ≤ 1048576) (hfit : fitsF ⟨gs, fs⟩ Cs = (0, 0)) :
    Calls Tryz.prog 13 #[.agg #[.slice ga gs.length gc, .slice fa fs.length fc], .slice ca Cs.length cc] w fun e w' =>
      ∃ ga2 gc2 fa2 fc2, e = .returned (.agg #[.slice ga2 gs.length gc2, .slice fa2 fs.length fc2]) ∧ SlAt (iv w.heap.size w'.heap.size) w' 3 rGlobal (.slice ga2 gs.length gc2) gs ∧
        SlAt (iv w.heap.size w'.heap.size) w' 4 rFunc (.slice fa2 fs.length fc2) (byL fs Cs) ∧ Below w.heap.size w w' := by
  obtain ⟨hck, hlen, hrows⟩ := fitsF_inv hfit
  dsimp only at hlen hrows
  have hn0 : 0 < fs.length := checkF_pos (u := ⟨gs, fs⟩) hck
  obtain ⟨fb, foff, fcs, hfa, -⟩ := hf.get (k := 0) hn0
  subst hfa
  obtain ⟨HsG, HsF⟩ := checkF_small (u := ⟨gs, fs⟩) hck
  have Hg := hid hg
  have Hf := hid hf
  have HC := hid hC
  have Hck := hid hck
  have Hlen := hid hlen
  have Hrows := hid hrows
  clear hg hf hC hck hlen hrows hfit
  go_enter Tryz.func13, Tryz.ntmps13
  obtain ⟨W, hW⟩ : ∃ W, W = (w.alloc (.cells #[.slice ga gs.length gc, .slice (some ⟨fb, foff, none⟩) fs.length fc] 25)).alloc (.cells #[.slice none 0 0, .slice none 0 0] 25) := ⟨_, rfl⟩
  have hbW : Below w.heap.size w W := by rw [hW]; (repeat (first | exact Below.refl _ _ | refine Below.alloc ?_ (by first | omega | (simp <;> omega)) _ | refine Below.setCell ?_ (by first | omega | (simp <;> omega)) _ | refine below_drewN ?_ _ | refine Below.drew ?_))
  have hWs : W.heap.size = w.heap.size + 2 := by rw [hW]; simp
  have W0 : Hid (CellsAt W w.heap.size 0 [.slice ga gs.length gc, .slice (some ⟨fb, foff, none⟩) fs.length fc]) := by
    intro j u hj; rw [hW, Nat.zero_add, World.cell?_alloc2_first]; simpa using hj
  have R0 : Hid (CellsAt W (w.heap.size + 1) 0 [.slice none 0 0, .slice none 0 0]) := by
    intro j u hj; rw [hW, Nat.zero_add, World.cell?_alloc2_new]; simpa using hj
  have RF : Hid (∀ j, W.frozen? ⟨w.heap.size + 1, j, none⟩ = false) := by intro j; rw [hW]; simp
  go_wp2_with fail
  rw [← hW]
  have HbW := hid hbW
  refine (clone_any (S := S) _ _ _ _ gs fs W (Hg.out.later rGlobal_mono hbW) (Hf.out.later rFunc_mono hbW) hgl hfl HsG HsF).mono ?_
  rintro e w3 ⟨gv, fv, A, rfl, hA1, hA2, hgv, hfv, hb3⟩
  obtain ⟨xss, hrow, hlim, -⟩ := id hfv
  rcases hrow.2 with ⟨-, hbad⟩ | ⟨R, cap, cur, rfl, hR1, hR2, hR3, hR4, hR5, -⟩
  · omega
  have hRlt : R < w3.heap.size := hlim R rfl
  obtain ⟨ga2, gc2, rfl⟩ := hgv.shape
  have Hgv := hid hgv
  have Hfv := hid hfv
  clear hrow hlim hgv hfv hW hbW
  go_wp2_with fail
  obtain ⟨W6, hW6⟩ : ∃ W6, W6 = w3.alloc (.cells #[.slice ga2 gs.length gc2, .slice (some ⟨R, 0, none⟩) fs.length cap] 25) := ⟨_, rfl⟩
  have hs6 : W6.heap.size = w3.heap.size + 1 := by rw [hW6]; simp
  have hb26 : Below W.heap.size W W6 := by rw [hW6]; (repeat (first | exact Below.refl _ _ | exact (hb3).mono (by first | omega | (simp <;> omega) | (have hh := (hb3).size; (try simp at hh); omega) | (have hh := (hb3).size; (try simp at hh); (try simp); omega)) | refine Below.trans ?_ ((hb3).mono (by first | omega | (simp <;> omega) | (have hh := (hb3).size; (try simp at hh); omega) | (have hh := (hb3).size; (try simp at hh); (try simp); omega))) | refine Below.alloc ?_ (by first | omega | (simp <;> omega) | (have hh := (hb3).size; (try simp at hh); omega) | (have hh := (hb3).size; (try simp at hh); (try simp); omega)) _ | refine Below.setCell ?_ (by first | omega | (simp <;> omega) | (have hh := (hb3).size; (try simp at hh); omega) | (have hh := (hb3).size; (try simp at hh); (try simp); omega)) _ | refine below_drewN ?_ _ | refine Below.drew ?_))
  have BU : CellsAt W6 w3.heap.size 0 [.slice ga2 gs.length gc2, .slice (some ⟨R, 0, none⟩) fs.length cap] := by
    intro j u hj; rw [hW6, Nat.zero_add, World.cell?_alloc_new]; simpa using hj
  have hst6 : RSt w W6 W6 R cap (fun j => byF (fs.getD j noFunc) (Cs.getD j [])) 0 := by
    refine ⟨HbW.out.trans (hb26.mono (by omega)), Nat.le_refl _, fun _ _ _ => rfl, ⟨cur, ?_, hR5⟩, fun j hj => absurd hj (Nat.not_lt_zero _)⟩
    rw [hW6, Below.heap_alloc _ _ _ hRlt]; exact hR2
  have hk6 : ∀ b, b < w3.heap.size → W6.heap[b]? = w3.heap[b]? := fun b hb => by rw [hW6, Below.heap_alloc _ _ _ hb]
  have hz23 : W.heap.size ≤ w3.heap.size := hb3.size
  have hzU : w3.heap.size ≠ R := by omega
  have hRw : W.heap.size + 3 ≤ R := by omega
  have HR3 := hid hR3
  have HR4 : Hid (cap ≤ 9223372036854775807) := by have h := hR4; unfold maxLen at h; exact h
  have HgA : Hid (SlAt (iv (W.heap.size + 3) A) W6 3 rGlobal (.slice ga2 gs.length gc2) gs) := (Hgv.out.kept (w' := W6) rGlobal_mono (fun b h1 h2 => hk6 b (by omega))).toSl rGlobal_mono (by decide)
  have HAR : Hid (A ≤ R) := hR1
  rw [← hW6]
  have Hst6 := hid hst6
  have HBU := hid BU
  have Hs6 := hid hs6
  have Hb26 := hid hb26
  have HWs := hid hWs
  clear hW6 hst6 BU hs6 hb26 hb3 hR1 hR2 hR3 hR4 hR5 hk6 hA1 hWs
  go_loopw [6] (fun i wr => ∃ (k : Nat), k ≤ fs.length ∧ i = .int .i64 k ∧ RSt w W6 wr R cap (fun j => byF (fs.getD j noFunc) (Cs.getD j [])) k) (fun i _ => fs.length - (intOf i).toNat)
  case atStart => exact ⟨0, Nat.zero_le _, rfl, Hst6.out⟩
  case round =>
    obtain ⟨k, hk, rfl, hs⟩ := hrel
    have Hs := hid hs
    have z26 : W.heap.size ≤ W6.heap.size := Hb26.out.size
    have g0 : wr.cell? ⟨w.heap.size, 0, none⟩ = some (.slice ga gs.length gc) := hs.cell (cell_later' W0.out.get2.1 Hb26.out) (by have := HWs.out; omega)
    have g1 : wr.cell? ⟨w.heap.size, 1, none⟩ = some (.slice (some ⟨fb, foff, none⟩) fs.length fc) := hs.cell (cell_later' (by have h := W0.out.get2.2; rw [Nat.zero_add] at h; exact h) Hb26.out) (by have := HWs.out; omega)
    have u0 : wr.cell? ⟨w3.heap.size, 0, none⟩ = some (.slice ga2 gs.length gc2) := hs.cell HBU.out.get2.1 hzU
    have u1 : wr.cell? ⟨w3.heap.size, 1, none⟩ = some (.slice (some ⟨R, 0, none⟩) fs.length cap) := hs.cell (by have h := HBU.out.get2.2; rw [Nat.zero_add] at h; exact h) hzU
    have zr0 : w.heap.size < wr.heap.size := cell_lt g0
    have zr3 : w3.heap.size < wr.heap.size := cell_lt u0
    by_cases hkl : k < fs.length
    · have hkC : k < Cs.length := by have := Hlen.out; omega
      obtain ⟨b, off, ra, rc, rfl, d1, hrowk⟩ := rows_at (HC.out.later rRow_mono hs.below) hkC
      obtain ⟨fb', foff', xa, xc, hfe, hcs0, hxb0, hi1, hi2⟩ := func_at Hf.out hkl
      cases hfe
      have hcs := hcs0.later hs.below
      have hxb := hxb0.later rBlock_mono hs.below
      obtain ⟨c0, c1, c2, c3⟩ := hcs.get4
      have zb : b < w.heap.size := by
        obtain ⟨b2, off2, ra2, rc2, he2, d2, -⟩ := rows_at HC.out hkC
        cases he2
        exact cell_lt d2
      have zf : fb < w.heap.size := cell_lt hcs0.get4.1
      have hlk : Cs[k].length = fs[k].blocks.length := (rowE_zero hkl hkC).1 (Hrows.out k hkC)
      obtain ⟨hh, hbd⟩ := checkF_at (u := ⟨gs, fs⟩) Hck.out (List.getElem?_eq_getElem hkl)
      have hsmf := HsF _ (List.getElem_mem hkl)
      obtain ⟨n, hn⟩ : ∃ n, fs[k].blocks.length = n := ⟨_, rfl⟩
      have Hlk : Hid (Cs[k].length = n) := by show _ = _; rw [hlk, hn]
      have hn1 : 0 < n := by have h := headE_ok hh; omega
      have hn40 : n ≤ 40 := by have h := headE_ok hh; omega
      have hto : ∀ (i : Nat) (x : DBlock), fs[k].blocks[i]? = some x → ∀ t ∈ x.fin.to, 0 ≤ t ∧ t < (fs[k].blocks.length : Int) := fun i x hx t ht => by
        have he := (bodyE_zero.1 hbd).1 i (List.getElem?_eq_some_iff.1 hx).1
        unfold endsE at he
        rw [hx] at he
        have := (endE_iff.1 he).2.2.1 t ht
        omega
      rw [hlk, hn] at d1 hrowk
      rw [hn] at c3 hxb
      have Hn := hid hn
      have Hxb := hid hxb
      have Hrowk := hid hrowk
      have Hh := hid hh
      have Hbd := hid hbd
      have Hsmf := hid hsmf
      have Hi1 := hid hi1
      have Hi2 := hid hi2
      have Hto := hid hto
      obtain ⟨LL, hLL⟩ : ∃ LL : List Int, LL = (layF fs[k].blocks (cntOf Cs[k])).map fun b : Nat => (b : Int) := ⟨_, rfl⟩
      have Hlll : Hid (LL.length = n) := by show _ = _; rw [hLL, List.length_map, (lay_perm hbd (by omega) (cntOf Cs[k])).1.len, hn]
      have HLL := hid hLL
      have Hgd : Hid (byF (fs.getD k noFunc) (Cs.getD k []) = byF fs[k] Cs[k]) := by
        show _ = _
        rw [List.getD_eq_getElem?_getD, List.getD_eq_getElem?_getD, List.getElem?_eq_getElem hkl, List.getElem?_eq_getElem hkC]; rfl
      have HS0 : Hid (wr.cell? ⟨w.heap.size, 0, none⟩ = some (.slice ga gs.length gc) ∧ wr.cell? ⟨w.heap.size, 1, none⟩ = some (.slice (some ⟨fb, foff, none⟩) fs.length fc) ∧ wr.cell? ⟨w3.heap.size, 0, none⟩ = some (.slice ga2 gs.length gc2) ∧ wr.cell? ⟨w3.heap.size, 1, none⟩ = some (.slice (some ⟨R, 0, none⟩) fs.length cap) ∧ wr.cell? ⟨b, off + k, none⟩ = some (.slice ra n rc) ∧ wr.cell? ⟨fb, foff + k * 4, none⟩ = some (.string fs[k].name) ∧ wr.cell? ⟨fb, foff + k * 4 + 1, none⟩ = some (.int .i64 fs[k].params) ∧ wr.cell? ⟨fb, foff + k * 4 + 2, none⟩ = some (.int .i64 fs[k].regs) ∧ wr.cell? ⟨fb, foff + k * 4 + 3, none⟩ = some (.slice xa n xc)) := ⟨g0, g1, u0, u1, d1, c0, c1, c2, c3⟩
      have HSd : Hid (wr.drew.cell? ⟨w.heap.size, 0, none⟩ = some (.slice ga gs.length gc) ∧ wr.drew.cell? ⟨w.heap.size, 1, none⟩ = some (.slice (some ⟨fb, foff, none⟩) fs.length fc) ∧ wr.drew.cell? ⟨w3.heap.size, 0, none⟩ = some (.slice ga2 gs.length gc2) ∧ wr.drew.cell? ⟨w3.heap.size, 1, none⟩ = some (.slice (some ⟨R, 0, none⟩) fs.length cap) ∧ wr.drew.cell? ⟨b, off + k, none⟩ = some (.slice ra n rc) ∧ wr.drew.cell? ⟨fb, foff + k * 4, none⟩ = some (.string fs[k].name) ∧ wr.drew.cell? ⟨fb, foff + k * 4 + 1, none⟩ = some (.int .i64 fs[k].params) ∧ wr.drew.cell? ⟨fb, foff + k * 4 + 2, none⟩ = some (.int .i64 fs[k].regs) ∧ wr.drew.cell? ⟨fb, foff + k * 4 + 3, none⟩ = some (.slice xa n xc)) := HS0.out
      have Hxbd : Hid (SlAt S wr.drew 6 rBlock (.slice xa fs[k].blocks.length xc) fs[k].blocks) := by show SlAt _ _ _ _ _ _; rw [Hn.out]; exact Hxb.out.later rBlock_mono (Below.refl _ _).drew
      have Hrkd : Hid (SlAt S' wr.drew 1 rInt (.slice ra Cs[k].length rc) Cs[k]) := by show SlAt _ _ _ _ _ _; rw [Hlk.out]; exact Hrowk.out.later rInt_mono (Below.refl _ _).drew
      have hRo : R < wr.heap.size := by have := Hs.out.size; have := Hs6.out; omega
      have hbR : b ≠ R := by have := HWs.out; omega
      have hfR : fb ≠ R := by have := HWs.out; omega
      have hwR : w.heap.size ≠ R := by have := HWs.out; omega
      clear hs hcs hcs0 hxb hxb0 hrowk hn hlk hh hbd hsmf hi1 hi2 hto hLL c0 c1 c2 c3 d1
      go_wp2_with fail
      go_region_held3 (fun w' => w'.cell? ⟨w.heap.size, 0, none⟩ = some (.slice ga gs.length gc) ∧ w'.cell? ⟨w.heap.size, 1, none⟩ = some (.slice (some ⟨fb, foff, none⟩) fs.length fc) ∧ w'.cell? ⟨w3.heap.size, 0, none⟩ = some (.slice ga2 gs.length gc2) ∧ w'.cell? ⟨w3.heap.size, 1, none⟩ = some (.slice (some ⟨R, 0, none⟩) fs.length cap) ∧ w'.cell? ⟨b, off + k, none⟩ = some (.slice ra n rc) ∧ w'.cell? ⟨fb, foff + k * 4, none⟩ = some (.string fs[k].name) ∧ w'.cell? ⟨fb, foff + k * 4 + 1, none⟩ = some (.int .i64 fs[k].params) ∧ w'.cell? ⟨fb, foff + k * 4 + 2, none⟩ = some (.int .i64 fs[k].regs) ∧ w'.cell? ⟨fb, foff + k * 4 + 3, none⟩ = some (.slice xa n xc)) ((first | with_reducible exact HS9.out | with_reducible exact HS8.out | with_reducible exact HS7.out | with_reducible exact HSd.out))
        ((first
          | (go_at_call 33; (with_reducible refine (refLay_any' (S := S) (S' := S') _ _ _ xa xc fs[k].blocks ra rc Cs[k] n wr.drew Hxbd.out Hrkd.out hn1 (by omega) Hn.out Hlk.out Hto.out LL HLL.out).mono ?_); rintro e w7 ⟨lva, lvc, rfl, hlv, hb7⟩
             rw [Hlll.out] at hlv
             have hb07 : Below wr.heap.size wr w7 := (Below.refl wr.heap.size wr).drew.trans hb7
             have HS7 : Hid (w7.cell? ⟨w.heap.size, 0, none⟩ = some (.slice ga gs.length gc) ∧ w7.cell? ⟨w.heap.size, 1, none⟩ = some (.slice (some ⟨fb, foff, none⟩) fs.length fc) ∧ w7.cell? ⟨w3.heap.size, 0, none⟩ = some (.slice ga2 gs.length gc2) ∧ w7.cell? ⟨w3.heap.size, 1, none⟩ = some (.slice (some ⟨R, 0, none⟩) fs.length cap) ∧ w7.cell? ⟨b, off + k, none⟩ = some (.slice ra n rc) ∧ w7.cell? ⟨fb, foff + k * 4, none⟩ = some (.string fs[k].name) ∧ w7.cell? ⟨fb, foff + k * 4 + 1, none⟩ = some (.int .i64 fs[k].params) ∧ w7.cell? ⟨fb, foff + k * 4 + 2, none⟩ = some (.int .i64 fs[k].regs) ∧ w7.cell? ⟨fb, foff + k * 4 + 3, none⟩ = some (.slice xa n xc)) := by
               obtain ⟨s0, s1, s2, s3, s4, s5, s6, s7, s8⟩ := HS0.out
               exact ⟨cell_later' s0 hb07, cell_later' s1 hb07, cell_later' s2 hb07, cell_later' s3 hb07, cell_later' s4 hb07, cell_later' s5 hb07, cell_later' s6 hb07, cell_later' s7 hb07, cell_later' s8 hb07⟩
             have Hb07 := hid hb07
             have Hlv := hid hlv
             simp only [Hlll.out]
             clear hb07 hlv hb7)
          | (go_at_call 32; (with_reducible refine (refTurn_of (S := S) (fs := fs) fs[k] Cs[k] _ Hh.out Hbd.out Hsmf.out _ _ _ n Hn.out xa xc _ w7 (Hxb.out.later rBlock_mono Hb07.out) (by rw [← HLL.out]; exact Hlv.out)).mono ?_); rintro e w8 ⟨ta, tc, rfl, htv, hb8⟩
             have hb08 : Below wr.heap.size wr w8 := Hb07.out.trans (hb8.mono Hb07.out.size)
             have Hs8 := hid (Hs.out.later hb08 hRo)
             have HS8 : Hid (w8.cell? ⟨w.heap.size, 0, none⟩ = some (.slice ga gs.length gc) ∧ w8.cell? ⟨w.heap.size, 1, none⟩ = some (.slice (some ⟨fb, foff, none⟩) fs.length fc) ∧ w8.cell? ⟨w3.heap.size, 0, none⟩ = some (.slice ga2 gs.length gc2) ∧ w8.cell? ⟨w3.heap.size, 1, none⟩ = some (.slice (some ⟨R, 0, none⟩) fs.length cap) ∧ w8.cell? ⟨b, off + k, none⟩ = some (.slice ra n rc) ∧ w8.cell? ⟨fb, foff + k * 4, none⟩ = some (.string fs[k].name) ∧ w8.cell? ⟨fb, foff + k * 4 + 1, none⟩ = some (.int .i64 fs[k].params) ∧ w8.cell? ⟨fb, foff + k * 4 + 2, none⟩ = some (.int .i64 fs[k].regs) ∧ w8.cell? ⟨fb, foff + k * 4 + 3, none⟩ = some (.slice xa n xc)) := by
               obtain ⟨s0, s1, s2, s3, s4, s5, s6, s7, s8⟩ := HS0.out
               exact ⟨cell_later' s0 hb08, cell_later' s1 hb08, cell_later' s2 hb08, cell_later' s3 hb08, cell_later' s4 hb08, cell_later' s5 hb08, cell_later' s6 hb08, cell_later' s7 hb08, cell_later' s8 hb08⟩
             have HS9 : Hid (((((w8.setCell ⟨R, k * 4, none⟩ (.string fs[k].name)).setCell ⟨R, k * 4 + 1, none⟩ (.int .i64 fs[k].params)).setCell ⟨R, k * 4 + 2, none⟩ (.int .i64 fs[k].regs)).setCell ⟨R, k * 4 + 3, none⟩ (.slice ta n tc)).cell? ⟨w.heap.size, 0, none⟩ = some (.slice ga gs.length gc) ∧ ((((w8.setCell ⟨R, k * 4, none⟩ (.string fs[k].name)).setCell ⟨R, k * 4 + 1, none⟩ (.int .i64 fs[k].params)).setCell ⟨R, k * 4 + 2, none⟩ (.int .i64 fs[k].regs)).setCell ⟨R, k * 4 + 3, none⟩ (.slice ta n tc)).cell? ⟨w.heap.size, 1, none⟩ = some (.slice (some ⟨fb, foff, none⟩) fs.length fc) ∧ ((((w8.setCell ⟨R, k * 4, none⟩ (.string fs[k].name)).setCell ⟨R, k * 4 + 1, none⟩ (.int .i64 fs[k].params)).setCell ⟨R, k * 4 + 2, none⟩ (.int .i64 fs[k].regs)).setCell ⟨R, k * 4 + 3, none⟩ (.slice ta n tc)).cell? ⟨w3.heap.size, 0, none⟩ = some (.slice ga2 gs.length gc2) ∧ ((((w8.setCell ⟨R, k * 4, none⟩ (.string fs[k].name)).setCell ⟨R, k * 4 + 1, none⟩ (.int .i64 fs[k].params)).setCell ⟨R, k * 4 + 2, none⟩ (.int .i64 fs[k].regs)).setCell ⟨R, k * 4 + 3, none⟩ (.slice ta n tc)).cell? ⟨w3.heap.size, 1, none⟩ = some (.slice (some ⟨R, 0, none⟩) fs.length cap) ∧ ((((w8.setCell ⟨R, k * 4, none⟩ (.string fs[k].name)).setCell ⟨R, k * 4 + 1, none⟩ (.int .i64 fs[k].params)).setCell ⟨R, k * 4 + 2, none⟩ (.int .i64 fs[k].regs)).setCell ⟨R, k * 4 + 3, none⟩ (.slice ta n tc)).cell? ⟨b, off + k, none⟩ = some (.slice ra n rc) ∧ ((((w8.setCell ⟨R, k * 4, none⟩ (.string fs[k].name)).setCell ⟨R, k * 4 + 1, none⟩ (.int .i64 fs[k].params)).setCell ⟨R, k * 4 + 2, none⟩ (.int .i64 fs[k].regs)).setCell ⟨R, k * 4 + 3, none⟩ (.slice ta n tc)).cell? ⟨fb, foff + k * 4, none⟩ = some (.string fs[k].name) ∧ ((((w8.setCell ⟨R, k * 4, none⟩ (.string fs[k].name)).setCell ⟨R, k * 4 + 1, none⟩ (.int .i64 fs[k].params)).setCell ⟨R, k * 4 + 2, none⟩ (.int .i64 fs[k].regs)).setCell ⟨R, k * 4 + 3, none⟩ (.slice ta n tc)).cell? ⟨fb, foff + k * 4 + 1, none⟩ = some (.int .i64 fs[k].params) ∧ ((((w8.setCell ⟨R, k * 4, none⟩ (.string fs[k].name)).setCell ⟨R, k * 4 + 1, none⟩ (.int .i64 fs[k].params)).setCell ⟨R, k * 4 + 2, none⟩ (.int .i64 fs[k].regs)).setCell ⟨R, k * 4 + 3, none⟩ (.slice ta n tc)).cell? ⟨fb, foff + k * 4 + 2, none⟩ = some (.int .i64 fs[k].regs) ∧ ((((w8.setCell ⟨R, k * 4, none⟩ (.string fs[k].name)).setCell ⟨R, k * 4 + 1, none⟩ (.int .i64 fs[k].params)).setCell ⟨R, k * 4 + 2, none⟩ (.int .i64 fs[k].regs)).setCell ⟨R, k * 4 + 3, none⟩ (.slice ta n tc)).cell? ⟨fb, foff + k * 4 + 3, none⟩ = some (.slice xa n xc)) := by
               obtain ⟨s0, s1, s2, s3, s4, s5, s6, s7, s8⟩ := HS8.out
               exact ⟨cell_four s0 hwR, cell_four s1 hwR, cell_four s2 hzU, cell_four s3 hzU, cell_four s4 hbR, cell_four s5 hfR, cell_four s6 hfR, cell_four s7 hfR, cell_four s8 hfR⟩
             obtain ⟨cur8, hr8, hsz8⟩ := Hs8.out.row
             have hkc : k < cap := by have := HR3.out; omega
             have cR : ∀ j, j < 4 → ∃ u, w8.cell? ⟨R, k * 4 + j, none⟩ = some u := fun j hj => ⟨_, (cell_row hr8).trans (Array.getElem?_eq_getElem (by omega))⟩
             have fR : ∀ j, w8.frozen? ⟨R, j, none⟩ = false := fun j => by simp [World.frozen?, hr8]
             have y0 := fR (k * 4)
             have y1 := fR (k * 4 + 1)
             have y2 := fR (k * 4 + 2)
             have y3 := fR (k * 4 + 3)
             obtain ⟨o0, e0⟩ := cR 0 (by omega)
             obtain ⟨o1, e1⟩ := cR 1 (by omega)
             obtain ⟨o2, e2⟩ := cR 2 (by omega)
             obtain ⟨o3, e3⟩ := cR 3 (by omega)
             rw [Nat.add_zero] at e0
             have zR8 : R < w8.heap.size := cell_lt e0
             have Hnx : Hid (RSt w W6 ((((w8.setCell ⟨R, k * 4, none⟩ (.string fs[k].name)).setCell ⟨R, k * 4 + 1, none⟩ (.int .i64 fs[k].params)).setCell ⟨R, k * 4 + 2, none⟩ (.int .i64 fs[k].regs)).setCell ⟨R, k * 4 + 3, none⟩ (.slice ta n tc)) R cap (fun j => byF (fs.getD j noFunc) (Cs.getD j [])) (k + 1)) := by
               refine Hs8.out.next (by have := HWs.out; omega) (by have := Hs6.out; omega) hkc _ _ _ _ ?_
               show rFunc _ _ _ (byF (fs.getD k noFunc) (Cs.getD k []))
               rw [Hgd.out]
               exact ⟨_, rfl, htv.mono rBlock_mono (fun b hb => ⟨by have := hb.1; have := Hb07.out.size; have := Hs.out.size; omega, hb.2⟩) (Stays.refl _ _), Hi1.out, Hi2.out⟩
             clear cR fR hr8 hsz8 hb08 hb8 htv)))
      all_goals
        go_wp2_with fail
        go_roundw
        case rel => exact ⟨k + 1, by omega, by go_num, Hnx.out⟩
        case measure => simp [intOf]; omega
    · have hkn : k = fs.length := by omega
      have Hsn : Hid (RSt w W6 wr R cap (fun j => byF (fs.getD j noFunc) (Cs.getD j [])) fs.length) := by have h := Hs.out; rw [hkn] at h; exact h
      have hz1R : w.heap.size + 1 ≠ R := by have := HWs.out; omega
      have hk1 := hs.keep (w.heap.size + 1) (by have := HWs.out; omega) hz1R
      have KR := cellsK (R0.out.later Hb26.out) hk1
      have fR : ∀ j, wr.frozen? ⟨w.heap.size + 1, j, none⟩ = false := fun j => by
        rw [World.frozen?_of_block (w := W6) (a := ⟨w.heap.size + 1, j, none⟩) hk1, Hb26.out.frozen (p := ⟨w.heap.size + 1, j, none⟩) (by have := HWs.out; dsimp only; omega)]; exact RF.out j
      have f0 := fR 0
      have f1 := fR 1
      obtain ⟨r0, r1⟩ := KR.get2
      simp only [Nat.zero_add] at r1
      have zr1 : w.heap.size + 1 < wr.heap.size := cell_lt r0
      have hgr : SlAt (iv (w.heap.size + 2) wr.heap.size) wr 3 rGlobal (.slice ga2 gs.length gc2) gs := by
        have hz := hs.size
        have hA := HAR.out
        refine HgA.out.mono rGlobal_mono (fun b hb => ⟨by have := hb.1; have := HWs.out; omega, by have := hb.2; omega⟩) (stays_at fun b hb _ => hs.keep b (by have := hb.2; omega) (by have := hb.2; omega))
      have hfr : SlAt (iv (w.heap.size + 2) wr.heap.size) wr 4 rFunc (.slice (some ⟨R, 0, none⟩) fs.length cap) (byL fs Cs) :=
        Hsn.out.sl HR3.out HR4.out (by have := HWs.out; omega) (by have := Hs6.out; omega) (byL_len fs Cs) (fun j f hj => by
          have hjl : j < fs.length := by rw [← byL_len fs Cs]; exact (List.getElem?_eq_some_iff.1 hj).1
          unfold byL at hj
          rw [List.getElem?_map, List.getElem?_range hjl] at hj
          exact (Option.some.inj hj).symm)
      have Hgr := hid hgr
      have Hfr := hid hfr
      have Hbwr := hid hs.below
      have q := set_two (u := .slice ga2 gs.length gc2) (v := .slice (some ⟨R, 0, none⟩) fs.length cap) r0 r1
      have Hq := hid q
      clear hs KR hk1 hgr hfr hkn g0 fR q
      go_wp2_with fail
      have hle : w.heap.size ≤ w.heap.size + 1 := Nat.le_succ _
      have hbE := (Hbwr.out.setCell (p := ⟨w.heap.size + 1, 0, none⟩) hle (.slice ga2 gs.length gc2)).setCell (p := ⟨w.heap.size + 1, 1, none⟩) hle (.slice (some ⟨R, 0, none⟩) fs.length cap)
      obtain ⟨WE, hWE⟩ : ∃ WE, WE = (wr.setCell ⟨w.heap.size + 1, 0, none⟩ (.slice ga2 gs.length gc2)).setCell ⟨w.heap.size + 1, 1, none⟩ (.slice (some ⟨R, 0, none⟩) fs.length cap) := ⟨_, rfl⟩
      have hsE : WE.heap.size = wr.heap.size := by rw [hWE]; simp [World.setCell]
      have hstE : Stays (iv (w.heap.size + 2) wr.heap.size) wr WE := stays_at fun b hb _ => by
        have := hb.1
        rw [hWE]
        iterate 2 rw [Below.heap_setCell _ _ _ _ (by dsimp only; omega)]
      obtain ⟨h0, h1⟩ := Hq.out
      rw [← hWE] at h0 h1 hbE ⊢
      have hle2 : ∀ b, iv (w.heap.size + 2) wr.heap.size b → iv w.heap.size WE.heap.size b := fun b hb => ⟨by have := hb.1; omega, by rw [hsE]; exact hb.2⟩
      refine bodyPost_ret (v := .agg #[.slice ga2 gs.length gc2, .slice (some ⟨R, 0, none⟩) fs.length cap]) ?_ rfl ⟨ga2, gc2, _, cap, rfl, Hgr.out.mono rGlobal_mono hle2 hstE, Hfr.out.mono rFunc_mono hle2 hstE, hbE⟩
      simp [results, Tryz.results13, go_sem, h0, h1]

end Go.Proofs.YtnkogppgacappaaGreatDoor
