/- A list of lists of numbers that comes as an argument. StillRest: the law's walk. -/
import Derived.Test.YtnkogppgacappaaGreatDoorPSsa0
import Derived.Test.YtnkogppgacappaaGreatDoorPRefA
import Derived.Test.YtnkogppgacappaaGreatDoorPStillOk
import Derived.Test.YtnkogppgacappaaGreatDoorPSameU
import Derived.BigRegion
import Derived.Deep.DeepCutAuto
import Derived.Deep.RegionHeld3
namespace Go.Proofs.YtnkogppgacappaaGreatDoor
open Go.RowKit Go.ChangeShapes Go.WideShapes Go.ChangeAt Go.Deep

end Go.Proofs.YtnkogppgacappaaGreatDoor

namespace Go.Proofs.YtnkogppgacappaaGreatDoor
open Go.RowKit

set_option maxRecDepth 100000 in
set_option maxHeartbeats 4000000 in
theorem stillRest_any (w : World) (hw : Ways w) (ga : Option Addr) (gc : Nat) (fa : Option Addr) (fc : Nat) (gs : List DGlobal) (fs : List DFunc) (hg : SlAt (fun b => b < w.heap.size) w 3 rGlobal (.slice ga gs.length gc) gs) (hf : SlAt (fun b => b < w.heap.size) w 4 rFunc (.slice fa fs.length fc) fs)
 (hsm:Small gs fs) :
 Calls Tryz.prog 5 #[.agg #[.slice ga gs.length gc,.slice fa fs.length fc]] w fun e w'=>e = .returned (.bool true)∧Below w.heap.size w w':=by
 have Hnum:=hid (NumU_of (gs:=gs) hf);have Hi64:=hid (words_i64 hg);have hgl:=hsm.globals;have hfl:=hsm.funcs;have Hg:=hid hg;have Hf:=hid hf;have Hw:=hid hw;have Hsm:=hid hsm;clear hg hf hw hsm;go_enter Tryz.func5,Tryz.ntmps5;obtain⟨W,hW⟩:∃W,W=(w.alloc (.cells #[.slice ga gs.length gc,.slice fa fs.length fc] 25)):=⟨_,rfl⟩
 have hbW:Below w.heap.size w W:=by rw [hW];(repeat (first | exact Below.refl _ _ | refine Below.alloc ?_ (by first|omega|(simp<;>omega)) _ | refine Below.setCell ?_ (by first|omega|(simp<;>omega)) _ | refine below_drewN ?_ _ | refine Below.drew ?_))
 have h0:W.heap[w.heap.size]?=some (.cells #[.slice ga gs.length gc,.slice fa fs.length fc] 25 (0,0)):=by rw [hW];exact heap_alloc_new _ _
 have hWs:W.heap.size=w.heap.size+1:=by rw [hW];simp
 go_upto_region 1 with (fail)
 rw [←hW];obtain⟨UB,hUB⟩:∃UB,UB=w.heap.size:=⟨_,rfl⟩
 rw [←hUB] at h0 ⊢;have HUB:Hid (UB=w.heap.size∧W.heap.size=UB+1):=⟨hUB,by omega⟩
 have HbW:=hid hbW;obtain⟨c0,c1⟩:=(cells_of (cs:=[_,_]) h0).get2;rw [Nat.zero_add] at c1;have zB:UB<W.heap.size:=cell_lt c0;have hby:=still_say (S:=fun b=>b<w.heap.size) ga gc fa fc gs fs W (Hg.out.later rGlobal_mono hbW) (Hf.out.later rFunc_mono hbW) (Ways.below Hw.out hbW) (fun b hb=>by omega) Hsm.out;have Hby:=hid hby;clear hW hWs hUB hbW h0 hby;go_upto_region 2 with (go_at_call 14;refine Hby.out.mono ?_;rintro e w1 ⟨va,vn,vc,wa,wn,wc,c,d,rfl,hb1,hcase⟩;have Hb1:=hid hb1;have Hcase:=hid hcase;clear hb1 hcase)
 obtain⟨W2,hW2⟩:∃W2,W2=(w1.alloc (.cells #[.slice va vn vc,.slice wa wn wc] 25)).alloc (.cells #[.int .i64 c,.int .i64 d] 27):=⟨_,rfl⟩
 obtain⟨h2s,hv0,hx0⟩:=two_cells w1 (.cells #[.slice va vn vc,.slice wa wn wc] 25) (.cells #[.int .i64 c,.int .i64 d] 27);rw [←hW2] at h2s hv0 hx0 ⊢;have hb2:Below w1.heap.size w1 W2:=by rw [hW2];(repeat (first | exact Below.refl _ _ | refine Below.alloc ?_ (by first|omega|(simp<;>omega)) _ | refine Below.setCell ?_ (by first|omega|(simp<;>omega)) _ | refine below_drewN ?_ _ | refine Below.drew ?_))
 have Hb2:Hid (Below W.heap.size W W2):=Hb1.out.trans (hb2.mono Hb1.out.size);have Hb12:=hid hb2;have Hw2:Hid (Below w.heap.size w W2):=HbW.out.trans (Hb2.out.mono HbW.out.size);obtain⟨VB,hVB⟩:∃VB,VB=w1.heap.size:=⟨_,rfl⟩
 obtain⟨FB,hFB⟩:∃FB,FB=w1.heap.size+1:=⟨_,rfl⟩
 rw [←hFB] at hx0 ⊢;rw [←hVB] at hv0 ⊢;have Hcl:Hid (∀V,Below W2.heap.size W2 V→V.cell? ⟨VB,0,none⟩=some (.slice va vn vc)∧V.cell? ⟨VB,1,none⟩=some (.slice wa wn wc)∧V.cell? ⟨FB,0,none⟩=some (.int .i64 c)∧V.cell? ⟨FB,1,none⟩=some (.int .i64 d)):=fun V hV=>by
  obtain⟨v0,v1⟩:=(cells_of (cs:=[_,_]) ((hV.block VB (by omega)).trans hv0)).get2;obtain⟨x0,x1⟩:=(cells_of (cs:=[_,_]) ((hV.block FB (by omega)).trans hx0)).get2;rw [Nat.zero_add] at v1 x1;exact⟨v0,v1,x0,x1⟩
 obtain⟨v0,v1,x0,x1⟩:=Hcl.out W2 (Below.refl _ _);have zV2:VB<W2.heap.size:=cell_lt v0;have zF2:FB<W2.heap.size:=cell_lt x0;clear hW2 h2s hv0 hx0 hb2 hVB hFB c0 c1 zB
 by_cases hc0:c=0
 · obtain⟨rfl,rfl,rfl,Hck,Hgv,Hfv⟩:d=0∧vn=gs.length∧wn=fs.length∧Hid (checkF ⟨gs,fs⟩=(0,0))∧Hid (SlAt (iv W.heap.size w1.heap.size) w1 3 rGlobal (.slice va vn vc) gs)∧Hid (SlAt (iv W.heap.size w1.heap.size) w1 4 rFunc (.slice wa wn wc) (stillT gs fs)):=by
    rcases Hcase.out with h | h
    · exact absurd hc0 h.1
    · exact⟨h.2.1,h.2.2.1,h.2.2.2.1,h.2.2.2.2.1,h.2.2.2.2.2.1,h.2.2.2.2.2.2⟩
   subst hc0;obtain⟨k1,k2⟩:=stillT_check Hck.out Hnum.out Hi64.out;have hT2:=still_ok (S:=iv W.heap.size w1.heap.size) va vc wa fs.length wc gs (stillT gs fs) W2 (Hgv.out.later rGlobal_mono Hb12.out) (Hfv.out.later rFunc_mono Hb12.out) (stillT_len gs fs) (Ways.below Hw.out Hw2.out) (fun b h=>Nat.lt_of_lt_of_le h.2 Hb12.out.size) k1;rw [stillT_twice Hck.out Hnum.out Hi64.out] at hT2;have HT2:=hid hT2;obtain⟨hsg,hsf⟩:=checkF_small (u:=⟨gs,stillT gs fs⟩) k1;have Hsmg:=hid hsg;have Hsmf:=hid hsf;have hlpos:0<fs.length:=checkF_pos (u:=⟨gs,fs⟩) Hck.out;have hpos2:(0:Int)<(fs.length:Int):=by omega
   have Hlm:=hid (stillT_len gs fs);clear Hcase k1 k2 hT2 hsg hsf;go_upto_region 5 with (go_at_call 14;refine HT2.out.mono ?_;rintro e w3 ⟨ta,tc,ua,uc,rfl,hg3,hf3,hb3⟩;have Hg3:=hid hg3;have Hf3:=hid hf3;have Hb3:=hid hb3;clear hg3 hf3 hb3)
   obtain⟨W4,hW4⟩:∃W4,W4=(w3.alloc (.cells #[.slice ta gs.length tc,.slice ua fs.length uc] 25)).alloc (.cells #[.int .i64 0,.int .i64 0] 27):=⟨_,rfl⟩
   obtain⟨h4s,ht0,hy0⟩:=two_cells w3 (.cells #[.slice ta gs.length tc,.slice ua fs.length uc] 25) (.cells #[.int .i64 0,.int .i64 0] 27);rw [←hW4] at h4s ht0 hy0 ⊢;have hb4:Below w3.heap.size w3 W4:=by rw [hW4];(repeat (first | exact Below.refl _ _ | refine Below.alloc ?_ (by first|omega|(simp<;>omega)) _ | refine Below.setCell ?_ (by first|omega|(simp<;>omega)) _ | refine below_drewN ?_ _ | refine Below.drew ?_))
   have Hb34:=hid hb4;have Hb4:Hid (Below W2.heap.size W2 W4):=Hb3.out.trans (hb4.mono Hb3.out.size);have Hw4:Hid (Below w.heap.size w W4):=Hw2.out.trans (Hb4.out.mono Hw2.out.size);obtain⟨TB,hTB⟩:∃TB,TB=w3.heap.size:=⟨_,rfl⟩
   obtain⟨YB,hYB⟩:∃YB,YB=w3.heap.size+1:=⟨_,rfl⟩
   rw [←hYB] at hy0 ⊢;rw [←hTB] at ht0 ⊢;obtain⟨t0,t1⟩:=(cells_of (cs:=[_,_]) ht0).get2;obtain⟨y0,y1⟩:=(cells_of (cs:=[_,_]) hy0).get2;rw [Nat.zero_add] at t1 y1;obtain⟨v0,v1,-,-⟩:=Hcl.out W4 Hb4.out;have zV4:=cell_lt v0;have zT4:=cell_lt t0;have zY4:=cell_lt y0
   have Hun := hid (units_same' (S := iv W.heap.size w1.heap.size) (S' := iv W2.heap.size w3.heap.size) va ta wa ua vc tc wc uc gs (stillT gs fs) fs.length W4
    (Hgv.out.later rGlobal_mono (Hb12.out.trans (Hb4.out.mono Hb12.out.size))) (Hg3.out.later rGlobal_mono Hb34.out) (Hfv.out.later rFunc_mono (Hb12.out.trans (Hb4.out.mono Hb12.out.size))) (Hf3.out.later rFunc_mono Hb34.out) Hlm.out hgl Hsmg.out hfl Hsmf.out)
   clear hW4 h4s ht0 hy0 hb4 hTB hYB x0 x1 zV2 zF2;go_wp2_with (go_at_call 12;refine Hun.out.mono ?_;rintro e w7 ⟨rfl,hb7⟩);go_ret;exact⟨rfl,by have h:=Hw4.out;(have hz0:=(hb7).size;have hy0:=hz0;(try simp at hy0);have hz1:=(h).size;have hy1:=hz1;(try simp at hy1);repeat (first | exact Below.refl _ _ | refine Below.trans ?_ ((hb7).mono (by first|omega|(simp<;>omega))) | refine Below.trans ?_ ((h).mono (by first|omega|(simp<;>omega))) | refine Below.alloc ?_ (by first|omega|(simp<;>omega)) _ | refine Below.setCell ?_ (by first|omega|(simp<;>omega)) _ | refine below_drewN ?_ _ | refine Below.drew ?_))⟩
 · obtain⟨rfl,rfl⟩:vn=0∧wn=0:=by
    rcases Hcase.out with h | h
    · exact⟨h.2.1,h.2.2.1⟩
    · exact absurd h.1 hc0
   have hq:(decide (c<0)||decide (0<c))=true:=ne_yes hc0;clear Hcase hc0
   go_wp2_with (first
    | (go_at_call 9; refine (none_any _ _ _ _ 0 0 _).mono ?_; rintro e w6 ⟨rfl, hb6⟩))
   go_ret;exact⟨rfl,by have h:=Hw2.out;(have hz0:=(hb6).size;have hy0:=hz0;(try simp at hy0);have hz1:=(h).size;have hy1:=hz1;(try simp at hy1);repeat (first | exact Below.refl _ _ | refine Below.trans ?_ ((hb6).mono (by first|omega|(simp<;>omega))) | refine Below.trans ?_ ((h).mono (by first|omega|(simp<;>omega))) | refine Below.alloc ?_ (by first|omega|(simp<;>omega)) _ | refine Below.setCell ?_ (by first|omega|(simp<;>omega)) _ | refine below_drewN ?_ _ | refine Below.drew ?_))⟩

end Go.Proofs.YtnkogppgacappaaGreatDoor
