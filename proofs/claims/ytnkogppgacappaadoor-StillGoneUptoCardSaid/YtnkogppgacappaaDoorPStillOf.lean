/- still.Of: check, then which words never change. -/
import Derived.Test.YtnkogppgacappaaDoorPPost
import Derived.Test.YtnkogppgacappaaDoorPGlobs
import Derived.Test.YtnkogppgacappaaDoorPSsa0
import Derived.Deep.RegionWith
import Derived.Deep.RegionHeld3
namespace Go.Proofs.YtnkogppgacappaaDoor
open Go.RowKit

def ofS(u:DUnit):List Bool×Int×Int:=if checkF u≠(0,0) then ([],(checkF u).1,(checkF u).2) else (stillF (wordsL u.globals) (insU u.funcs),0,0)

theorem res_of {fn : Func} (hfn : fn.results = #[.tmp 2, .cell 3 28]) {tmps : Array Value} {b : Nat} {v : Value} (hv : tmps.getD 2 undef = v) (ht : tmps.getD 3 undef = .pointer (some ⟨b, 0, none⟩)) {c a : Int} {W : World}
 (h0:W.cell? ⟨b,0,none⟩=some (.int .i64 c)) (h1:W.cell? ⟨b,1,none⟩=some (.int .i64 a)):(results fn tmps).run Tryd.prog W = .ok (.tuple #[v,.agg #[.int .i64 c,.int .i64 a]]) W:=by
 simp only [Array.getD_eq_getD_getElem?] at ht hv;simp [results,hfn,ht,hv,go_sem,h0,h1]

set_option maxRecDepth 100000 in
set_option maxHeartbeats 4000000 in
theorem stillOf_any {S : Nat → Prop} (ga : Option Addr) (gc : Nat) (fa : Option Addr) (fc : Nat) (gs : List DGlobal) (fs : List DFunc) (w : World)
 (hg:SlAt S w 3 rGlobal (.slice ga gs.length gc) gs) (hf:SlAt S w 4 rFunc (.slice fa fs.length fc) fs) (hw:Ways w) (hS:∀b,S b→b<w.heap.size)
 (hgl:gs.length≤1048576) (hfl:fs.length≤1048576) (hsm:∀(k:Nat) (f:DFunc),fs[k]?=some f→manyOf f.blocks≤1048576∧f.blocks.length≤1048576) :
 Calls Tryd.prog 12 #[.agg #[.slice ga gs.length gc,.slice fa fs.length fc]] w fun e w' =>
  ∃a c,e = .returned (.tuple #[.slice a (ofS ⟨gs,fs⟩).1.length c,.agg #[.int .i64 (ofS ⟨gs,fs⟩).2.1,.int .i64 (ofS ⟨gs,fs⟩).2.2]])∧SlAt (fun b=>w.heap.size≤b) w' 1 rBool (.slice a (ofS ⟨gs,fs⟩).1.length c) (ofS ⟨gs,fs⟩).1∧Below w.heap.size w w':=by
 have Hg:=hid hg;have Hf:=hid hf;have Hw:=hid hw;have Hsm:=hid hsm;have HS:=hid hS;clear hg hf hw hsm hS;go_enter Tryd.func12,Tryd.ntmps12;obtain⟨W,hW⟩:∃W,W=(w.alloc (.cells #[.slice ga gs.length gc,.slice fa fs.length fc] 25)).alloc (.cells #[.int .i64 0,.int .i64 0] 28):=⟨_,rfl⟩
 have hbW:Below w.heap.size w W:=by rw [hW];(repeat (first | exact Below.refl _ _ | refine Below.alloc ?_ (by first|omega|(simp<;>omega)) _ | refine Below.setCell ?_ (by first|omega|(simp<;>omega)) _ | refine below_drewN ?_ _ | refine Below.drew ?_))
 have HbW:=hid hbW;have W0:Hid (W.cell? ⟨w.heap.size,0,none⟩=some (.slice ga gs.length gc)):=by show _=_;rw [hW];simp
 have W1:Hid (W.cell? ⟨w.heap.size,1,none⟩=some (.slice fa fs.length fc)):=by show _=_;rw [hW];simp
 have R0:Hid (W.cell? ⟨w.heap.size+1,0,none⟩=some (.int .i64 0)):=by show _=_;rw [hW];simp
 have R1:Hid (W.cell? ⟨w.heap.size+1,1,none⟩=some (.int .i64 0)):=by show _=_;rw [hW];simp
 have F0:Hid (W.frozen? ⟨w.heap.size+1,0,none⟩=false):=by show _=_;rw [hW];simp
 have F1:Hid (W.frozen? ⟨w.heap.size+1,1,none⟩=false):=by show _=_;rw [hW];simp
 have hWs:W.heap.size=w.heap.size+2:=by rw [hW];simp
 go_wp2_with fail;rw [←hW];have hwW:Ways W:=Ways.below Hw.out hbW;refine (check_any (S:=S) ga gc fa fc gs fs W (Hg.out.later rGlobal_mono hbW) (Hf.out.later rFunc_mono hbW) hwW hgl hfl Hsm.out).mono ?_;rintro e w1 ⟨rfl,hb1⟩;have Hb1:=hid hb1;have g0:=cell_later' W0.out hb1;have g1:=cell_later' W1.out hb1;have g2:=cell_later' R0.out hb1;have g3:=cell_later' R1.out hb1;have k2:=(hb1.frozen (p:=⟨w.heap.size+1,0,none⟩) (by simp;omega)).trans F0.out;have k3:=(hb1.frozen (p:=⟨w.heap.size+1,1,none⟩) (by simp;omega)).trans F1.out;have z1:w.heap.size+1<w1.heap.size:=cell_lt g2;have z0:w.heap.size<w1.heap.size:=cell_lt g0;obtain⟨c,hc⟩:∃c,c=(checkF ⟨gs,fs⟩).1:=⟨_,rfl⟩
 obtain⟨d,hd⟩:∃d,d=(checkF ⟨gs,fs⟩).2:=⟨_,rfl⟩
 have Hcd:Hid (checkF ⟨gs,fs⟩=(c,d)):=by show _=_;rw [hc,hd]
 rw [←hc,←hd];have Hw1:Hid (Below w.heap.size w w1):=HbW.out.trans (hb1.mono (by omega));clear hb1 hW hbW hc hd hwW
 by_cases hok:c=0∧d=0
 · obtain⟨rfl,rfl⟩:=hok
   have Hr:Hid (ofS ⟨gs,fs⟩=(stillF (wordsL gs) (insU fs),0,0)):=by
    show _=_;unfold ofS;rw [Hcd.out,if_neg (by simp)]
   obtain⟨h10,hsz,hup,hl200⟩:=checkF_globs (u:=⟨gs,fs⟩) (by rw [Hcd.out]);have Hsz:=hid hsz;have hsl:(stillF (wordsL gs) (insU fs)).length=(wordsL gs).length:=by
    unfold stillF
    by_cases h:(insU fs).any wildB=true
    · rw [if_pos h,List.length_replicate]
    · rw [if_neg h,calmL_len]
   have Hsl:=hid hsl;have hnl:(wordsL gs).length≤200:=hl200;obtain⟨N,hN⟩:∃N,N=(wordsL gs).length:=⟨_,rfl⟩
   have HN:=hid hN;rw [←hN] at hnl;clear hsz hup hl200 hsl hN;go_wp2_with fail;obtain⟨W2,hW2⟩:∃W2,W2=w1.alloc (.cells #[.int .i64 0,.int .i64 0] 28):=⟨_,rfl⟩
   rw [←hW2];have hb2:Below w1.heap.size w1 W2:=by rw [hW2];(repeat (first | exact Below.refl _ _ | refine Below.alloc ?_ (by first|omega|(simp<;>omega)) _ | refine Below.setCell ?_ (by first|omega|(simp<;>omega)) _ | refine below_drewN ?_ _ | refine Below.drew ?_))
   have HS0:Hid (W2.cell? ⟨w.heap.size,0,none⟩=some (.slice ga gs.length gc)∧W2.cell? ⟨w.heap.size,1,none⟩=some (.slice fa fs.length fc)):=⟨cell_later' g0 hb2,cell_later' g1 hb2⟩
   have HSd:Hid (W2.drew.cell? ⟨w.heap.size,0,none⟩=some (.slice ga gs.length gc)∧W2.drew.cell? ⟨w.heap.size,1,none⟩=some (.slice fa fs.length fc)):=HS0.out;have e2:=cell_later' g2 hb2;have e3:=cell_later' g3 hb2;have f2:=(hb2.frozen (p:=⟨w.heap.size+1,0,none⟩) z1).trans k2;have f3:=(hb2.frozen (p:=⟨w.heap.size+1,1,none⟩) z1).trans k3;have E2:=hid e2;have E3:=hid e3;have F2:=hid f2;have F3:=hid f3;have z2:w.heap.size+1<W2.heap.size:=cell_lt e2;have Hw2:Hid (Below w.heap.size w W2.drew):=(Hw1.out.trans (hb2.mono Hw1.out.size)).drew;clear hW2 hb2 g0 g1 g2 g3 k2 k3 e2 e3 f2 f3
   go_region_held3 (fun w' => w'.cell? ⟨w.heap.size, 0, none⟩ = some (.slice ga gs.length gc) ∧ w'.cell? ⟨w.heap.size, 1, none⟩ = some (.slice fa fs.length fc)) ((first | with_reducible exact HS9.out | with_reducible exact HS8.out | with_reducible exact HS7.out | with_reducible exact HSd.out))
    ((first
      | (go_at_call 18; (with_reducible refine (words_any (S := S) ga fa gc fs.length fc gs W2.drew (Hg.out.later rGlobal_mono Hw2.out) h10 Hsz.out).mono ?_); rintro e w7 ⟨v7, rfl, hv7, hb7⟩
         obtain ⟨ma, mc, rfl⟩ := hv7.shape
         have hm7 := hv7.sl
         rw [← HN.out] at hm7 ⊢
         have Hm7 := hid hm7
         have hb27 : Below W2.heap.size W2 w7 := (Below.refl W2.heap.size W2).drew.trans hb7
         have HS7 : Hid (w7.cell? ⟨w.heap.size, 0, none⟩ = some (.slice ga gs.length gc) ∧ w7.cell? ⟨w.heap.size, 1, none⟩ = some (.slice fa fs.length fc)) := ⟨cell_later' HS0.out.1 hb27, cell_later' HS0.out.2 hb27⟩
         have Hw7 : Hid (Below w.heap.size w w7) := Hw2.out.trans (hb7.mono Hw2.out.size)
         have Hb27 := hid hb27
         clear hv7 hm7 hb7 hb27)
      | (go_at_call 19; (with_reducible refine (still_any (S := S) ga fa gs.length gc fc fs ma mc N (wordsL gs) w7 (Hf.out.later rFunc_mono Hw7.out) (fun b hb => Nat.lt_of_lt_of_le (HS.out b hb) Hw7.out.size) Hm7.out HN.out.symm (by omega) hfl (fun f hf => by
          obtain ⟨k, hk, rfl⟩ := List.getElem_of_mem hf
          obtain ⟨a1, a2⟩ := Hsm.out k _ (List.getElem?_eq_getElem hk)
          exact ⟨a2, fun x hx => by have := manyOf_mem hx; omega⟩)).mono ?_); rintro e w8 ⟨ra, rc, rfl, hv8, hb8⟩
         have hb28 : Below W2.heap.size W2 w8 := Hb27.out.trans (hb8.mono Hb27.out.size)
         have HS8 : Hid (w8.cell? ⟨w.heap.size, 0, none⟩ = some (.slice ga gs.length gc) ∧ w8.cell? ⟨w.heap.size, 1, none⟩ = some (.slice fa fs.length fc)) := ⟨cell_later' HS0.out.1 hb28, cell_later' HS0.out.2 hb28⟩
         have Hw8 : Hid (Below w.heap.size w w8) := Hw7.out.trans (hb8.mono Hw7.out.size)
         have Hv8 := hid hv8
         have e2 := cell_later' E2.out hb28
         have e3 := cell_later' E3.out hb28
         have f2 := (hb28.frozen (p := ⟨w.heap.size + 1, 0, none⟩) z2).trans F2.out
         have f3 := (hb28.frozen (p := ⟨w.heap.size + 1, 1, none⟩) z2).trans F3.out
         have HS9 : Hid (((w8.setCell ⟨w.heap.size + 1, 0, none⟩ (.int .i64 0)).setCell ⟨w.heap.size + 1, 1, none⟩ (.int .i64 0)).cell? ⟨w.heap.size, 0, none⟩ = some (.slice ga gs.length gc) ∧ ((w8.setCell ⟨w.heap.size + 1, 0, none⟩ (.int .i64 0)).setCell ⟨w.heap.size + 1, 1, none⟩ (.int .i64 0)).cell? ⟨w.heap.size, 1, none⟩ = some (.slice fa fs.length fc)) := by
          refine ⟨?_, ?_⟩
          · rw [World.cell?_setCell_far _ _ _ _ (by dsimp only; omega), World.cell?_setCell_far _ _ _ _ (by dsimp only; omega)]; exact HS8.out.1
          · rw [World.cell?_setCell_far _ _ _ _ (by dsimp only; omega), World.cell?_setCell_far _ _ _ _ (by dsimp only; omega)]; exact HS8.out.2
         clear hv8 hb8 hb28)))
   all_goals go_wp2_with fail
   all_goals
    have q:=set_two (u := .int .i64 0) (v := .int .i64 0) e2 e3;rw [Hr.out];dsimp only;rw [Hsl.out,←HN.out];refine bodyPost_ret (res_of rfl rfl rfl (c:=0) (a:=0) q.1 q.2) rfl ⟨_,_,rfl,?_,?_⟩
    · refine Hv8.out.mono rBool_mono (fun b hb=>?_) ((stays_set _ ?_).trans (stays_set _ ?_))
      · have h1:w7.heap.size≤b:=hb
        have:=Hw7.out.size;show w.heap.size≤b;omega
      · intro b hb;have:=Hw7.out.size;have:=Hb27.out.size;have h1:w7.heap.size≤b:=hb;dsimp only;omega
      · intro b hb;have:=Hw7.out.size;have:=Hb27.out.size;have h1:w7.heap.size≤b:=hb;dsimp only;omega
    · have h:=Hw8.out;(have hz0:=(h).size;have hy0:=hz0;(try simp at hy0);repeat (first | exact Below.refl _ _ | refine Below.trans ?_ ((h).mono (by first|omega|(simp<;>omega))) | refine Below.alloc ?_ (by first|omega|(simp<;>omega)) _ | refine Below.setCell ?_ (by first|omega|(simp<;>omega)) _ | refine below_drewN ?_ _ | refine Below.drew ?_))
 · have Hr:Hid (ofS ⟨gs,fs⟩=([],c,d)):=by
    show _=_;unfold ofS;rw [Hcd.out,if_pos (fun e=>hok (by simpa using e))]
   have hq:((decide (c<0)||decide (0<c))||(decide (d<0)||decide (0<d)))=true:=by rw [Bool.eq_iff_iff];simp;omega
   go_wp2_with fail;obtain⟨W2,hW2⟩:∃W2,W2=w1.alloc (.cells #[.int .i64 c,.int .i64 d] 28):=⟨_,rfl⟩
   rw [←hW2];have hb2:Below w1.heap.size w1 W2:=by rw [hW2];(repeat (first | exact Below.refl _ _ | refine Below.alloc ?_ (by first|omega|(simp<;>omega)) _ | refine Below.setCell ?_ (by first|omega|(simp<;>omega)) _ | refine below_drewN ?_ _ | refine Below.drew ?_))
   have e0:W2.cell? ⟨w1.heap.size,0,none⟩=some (.int .i64 c):=by rw [hW2];simp
   have e1:W2.cell? ⟨w1.heap.size,1,none⟩=some (.int .i64 d):=by rw [hW2];simp
   have e2:=cell_later' g2 hb2;have e3:=cell_later' g3 hb2;have f2:=(hb2.frozen (p:=⟨w.heap.size+1,0,none⟩) z1).trans k2;have f3:=(hb2.frozen (p:=⟨w.heap.size+1,1,none⟩) z1).trans k3;have Hw2:Hid (Below w.heap.size w W2):=Hw1.out.trans (hb2.mono Hw1.out.size);clear hW2 hb2 g0 g1 g2 g3 k2 k3;go_region_with (first | fail)
   all_goals go_wp2_with fail
   all_goals
    have q:=set_two (w:=W2.drew) (u := .int .i64 c) (v := .int .i64 d) e2 e3;rw [Hr.out];refine bodyPost_ret (res_of rfl rfl rfl (c:=c) (a:=d) q.1 q.2) rfl ⟨none,0,rfl,sl_none,?_⟩;have h:=Hw2.out;(have hz0:=(h).size;have hy0:=hz0;(try simp at hy0);repeat (first | exact Below.refl _ _ | refine Below.trans ?_ ((h).mono (by first|omega|(simp<;>omega))) | refine Below.alloc ?_ (by first|omega|(simp<;>omega)) _ | refine Below.setCell ?_ (by first|omega|(simp<;>omega)) _ | refine below_drewN ?_ _ | refine Below.drew ?_))

end Go.Proofs.YtnkogppgacappaaDoor
