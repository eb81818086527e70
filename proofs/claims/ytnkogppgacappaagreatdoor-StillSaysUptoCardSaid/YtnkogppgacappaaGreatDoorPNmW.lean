/- tidy's namer: the walks of name and val. -/
import Derived.Test.YtnkogppgacappaaGreatDoorPNm3
import Derived.BigRegion
import Derived.Deep.DeepCutAuto
namespace Go.Proofs.YtnkogppgacappaaGreatDoor
open Go.RowKit

set_option maxRecDepth 100000 in
set_option maxHeartbeats 1000000 in
theorem nmName_any {T NB n:Nat}{s:Nm}(hn:n≤1048576)(w:World)(h:NmSt w T NB n s)(r:Int)(hr:0≤r∧r<n) :
 Calls Tryz.prog 106 #[.pointer (some ⟨NB,0,none⟩),.int .i64 r] w fun e w'=>e = .returned (.int .i64 (nmR s r))∧NmSt w' T NB n (nmS s r)∧Kp (NmF T NB) w w':=by
 obtain⟨q,rfl⟩:=Int.eq_ofNat_of_zero_le hr.1;have hq:q<n:=by omega
 have hg:s.now[q]?=some (s.now.getD q 0):=by rw [List.getD_eq_getElem?_getD,List.getElem?_eq_getElem (by rw [h.ok.len];exact hq)];rfl
 obtain⟨x,hx⟩:∃x,x=s.now.getD q 0:=⟨_,rfl⟩
 obtain⟨m,hm⟩:∃m,m=s.many:=⟨_,rfl⟩
 have hc:w.cell? ⟨T,q,none⟩=some (.int .i64 x):=by
  rw [cell_row h.row,List.getElem?_toArray,List.getElem?_map,hg,hx];rfl
 have hz:w.frozen? ⟨T,q,none⟩=false:=thawed h.row q;have hbox:=h.box;rw [←hm] at hbox;obtain⟨n0,n1⟩:=(cells_of (cs:=[_,_]) hbox).get2;rw [Nat.zero_add] at n1;have z1:=thawed hbox 1;have zT:=h.live.1;have zN:=h.live.2;have hne:¬T=NB:=h.ne;have hne':¬NB=T:=fun e=>hne e.symm;have hml:=h.ok.many_le;rw [←hm] at hml
 by_cases h0:x<0
 · have hroom:=h.ok.room hq (by rw [←hx];exact h0)
   rw [←hm] at hroom;have hput:=h.put hq (by rw [←hx];exact h0);rw [←hm] at hput;have hR:nmR s (q:Int)=m:=by
    unfold nmR nmS;rw [Int.toNat_natCast,if_pos (by rw [←hx];exact h0)];show (s.now.set q s.many).getD q 0=m;rw [List.getD_eq_getElem?_getD,List.getElem?_set_self (by rw [h.ok.len];exact hq),hm];rfl
   have Hput:=hid hput;have HR:=hid hR;have Hh:=hid h;clear h hg hx hm hput hR hbox;go_enter Tryz.func106,Tryz.ntmps106;go_wp2_with fail;go_big_region
   all_goals
    go_wp2_with fail;go_ret;have hk:Kp (NmF T NB) w ((w.setCell ⟨T,q,none⟩ (.int .i64 m)).setCell ⟨NB,1,none⟩ (.int .i64 (m+1))):=((Kp.refl _ _).set (fun h:NmF T NB T=>h.1 rfl) _).set (fun h:NmF T NB NB=>h.2 rfl) _;exact⟨show Ending.returned (Value.int .i64 m)=_ by rw [HR.out],Hput.out.below (Below.refl _ _).drew,hk.trans (Kp.of (Below.refl _ _).drew)⟩
 · have hS:nmS s (q:Int)=s:=by unfold nmS;rw [Int.toNat_natCast,if_neg (by rw [←hx];exact h0)]
   have hR:nmR s (q:Int)=x:=by unfold nmR;rw [hS,Int.toNat_natCast,hx]
   have HR:=hid hR;have HS:=hid hS;have Hh:=hid h;clear h hg hx hm hS hR hbox;go_enter Tryz.func106,Tryz.ntmps106;go_wp2_with fail;go_ret;exact⟨show Ending.returned (Value.int .i64 x)=_ by rw [HR.out],by rw [HS.out];exact Hh.out,Kp.refl _ _⟩

theorem res_val4 {fn : Func} (hfn : fn.results = #[.cell 4 72]) {tmps : Array Value} {b : Nat} (ht : tmps.getD 4 undef = .pointer (some ⟨b, 0, none⟩)) {x y : Value} {W : World}
 (h0:W.cell? ⟨b,0,none⟩=some x) (h1:W.cell? ⟨b,1,none⟩=some y):(results fn tmps).run Tryz.prog W = .ok (.agg #[x,y]) W:=by
 simp only [Array.getD_eq_getD_getElem?] at ht;simp [results,hfn,ht,go_sem,h0,h1]
theorem NmSt.valLive {W:World}{T NB n:Nat}{s:Nm}(h:NmSt W T NB n s):NmF T NB W.heap.size∧NmF T NB (W.heap.size+1):=by
 have:=h.live;exact⟨⟨by omega,by omega⟩,⟨by omega,by omega⟩⟩
set_option maxRecDepth 100000 in
set_option maxHeartbeats 1000000 in
theorem nmVal_any {T NB n:Nat}{s:Nm}(hn:n≤1048576)(w:World)(h:NmSt w T NB n s)(v:DVal)(hv:InV n v) :
 Calls Tryz.prog 107 #[.pointer (some ⟨NB,0,none⟩),.agg #[.bool v.reg,.int .i64 v.n]] w fun e w'=>e = .returned (.agg #[.bool (valW s v).reg,.int .i64 (valW s v).n])∧NmSt w' T NB n (valS s v)∧Kp (NmF T NB) w w':=by
 obtain⟨reg,nn⟩:=v;have Hh:=hid h;have Hv:=hid hv;clear h hv;go_enter Tryz.func107,Tryz.ntmps107;cases reg with
 | true =>
   have hr:=Hv.out rfl;have Hr:=hid hr;clear hr;go_upto_region 2 with (fail)
   obtain⟨W,hW⟩:∃W,W=(w.alloc (.cells #[.bool true,.int .i64 nn] 72)).alloc (.cells #[.bool false,.int .i64 0] 72):=⟨_,rfl⟩
   obtain⟨hWs,h0,h1⟩:=two_cells w (.cells #[.bool true,.int .i64 nn] 72) (.cells #[.bool false,.int .i64 0] 72);rw [←hW] at hWs h0 h1 ⊢;have hbW:Below w.heap.size w W:=by rw [hW];(repeat (first | exact Below.refl _ _ | refine Below.alloc ?_ (by first|omega|(simp<;>omega)) _ | refine Below.setCell ?_ (by first|omega|(simp<;>omega)) _ | refine below_drewN ?_ _ | refine Below.drew ?_))
   obtain⟨VB,hVB⟩:∃VB,VB=w.heap.size:=⟨_,rfl⟩
   obtain⟨RB,hRB⟩:∃RB,RB=w.heap.size+1:=⟨_,rfl⟩
   rw [←hRB] at h1 ⊢;rw [←hVB] at h0 ⊢;obtain⟨v0,v1⟩:=(cells_of (cs:=[_,_]) h0).get2;rw [Nat.zero_add] at v1;have zV:VB<W.heap.size:=cell_lt v0;have Hnm:=hid (Hh.out.below hbW);have HF:=hid Hh.out.valLive;rw [←hVB] at HF;have HFR:Hid (NmF T NB RB):=by rw [hRB];exact Hh.out.valLive.2
   have H0:=hid h0;have H1:=hid h1;have HbW:=hid hbW;have Hne:Hid (VB≠RB):=by show _≠_;omega
   have Hge:Hid (w.heap.size≤VB∧w.heap.size≤RB):=by show _∧_;omega
   have HN:=hid (nmName_any hn W Hnm.out nn Hr.out);clear hW h0 h1 hbW hVB hRB hWs;go_upto_region 3 with (go_at_call 106;refine HN.out.mono ?_;rintro e w2 ⟨rfl,hnm2,hk2⟩;have Hnm2:=hid hnm2;have Hk2:=hid hk2;have v0:=hk2.cell HF.out.1 v0;have v1:=hk2.cell HF.out.1 v1;have f1:=hk2.frozen (o:=1) HF.out.1 zV (thawed H0.out 1);have zV:=cell_lt v0;clear hnm2 hk2)
   have hr1:w2.heap[RB]?=some (.cells #[.bool false,.int .i64 0] 72 (0,0)):=(Hk2.out.block RB (Array.getElem?_eq_some_iff.1 H1.out).1 HFR.out).trans H1.out;have zR:=(Array.getElem?_eq_some_iff.1 hr1).1;have hn1:¬RB=VB:=fun e=>Hne.out e.symm;have f2:=thawed hr1 0;have f3:=thawed hr1 1;obtain⟨r0,r1⟩:=(cells_of (cs:=[_,_]) hr1).get2;rw [Nat.zero_add] at r1;have hc4:CellsAt (w2.setCell ⟨VB,1,none⟩ (.int .i64 (nmR s nn))) RB 0 [.bool false,.int .i64 0]:=fun j v hj=>by
    rw [cell_set_ne _ hn1];exact cells_of hr1 j v hj
   have Hc4:=hid hc4;clear hr1 hc4;go_wp2_with fail;obtain⟨c0,c1⟩:=(set2 (u0 := .bool true) (u1 := .int .i64 (nmR s nn)) Hc4.out).get2;rw [Nat.zero_add] at c1;refine bodyPost_ret (res_val4 rfl rfl c0 c1) rfl ⟨rfl,?_,?_⟩
   · refine Hnm2.out.later (F:=NmF VB RB) (((Kp.refl _ _).set (fun h:NmF VB RB VB=>h.1 rfl) _).set (fun h:NmF VB RB RB=>h.2 rfl) _ |>.set (fun h:NmF VB RB RB=>h.2 rfl) _) ?_ ?_
     · have h1:=HF.out.1
       have h2:=HFR.out;exact⟨fun e=>h1.1 e.symm,fun e=>h2.1 e.symm⟩
     · have h1:=HF.out.1
       have h2:=HFR.out;exact⟨fun e=>h1.2 e.symm,fun e=>h2.2 e.symm⟩
   · have h2:=(Kp.of (F:=NmF T NB) HbW.out).trans Hk2.out
     exact ((h2.setNew (a:=⟨VB,1,none⟩) Hge.out.1 _).setNew (a:=⟨RB,0,none⟩) Hge.out.2 _).setNew (a:=⟨RB,1,none⟩) Hge.out.2 _
 | false =>
   go_wp2_with fail;have hc:=two_cells w (.cells #[.bool false,.int .i64 nn] 72) (.cells #[.bool false,.int .i64 nn] 72);obtain⟨c0,c1⟩:=(cells_of (cs:=[_,_]) hc.2.2).get2;rw [Nat.zero_add] at c1;refine bodyPost_ret (res_val4 rfl rfl c0 c1) rfl ⟨rfl,Hh.out.below ?_,Kp.of ?_⟩
   · (repeat (first | exact Below.refl _ _ | refine Below.alloc ?_ (by first|omega|(simp<;>omega)) _ | refine Below.setCell ?_ (by first|omega|(simp<;>omega)) _ | refine below_drewN ?_ _ | refine Below.drew ?_))
   · (repeat (first | exact Below.refl _ _ | refine Below.alloc ?_ (by first|omega|(simp<;>omega)) _ | refine Below.setCell ?_ (by first|omega|(simp<;>omega)) _ | refine below_drewN ?_ _ | refine Below.drew ?_))

end Go.Proofs.YtnkogppgacappaaGreatDoor
