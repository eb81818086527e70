/- StillGone: the law's walk. -/
import Derived.Test.YtnkogppgacappaaDoorPStillOk
import Derived.Test.YtnkogppgacappaaDoorPStillOf
import Derived.Test.YtnkogppgacappaaDoorPMany
import Derived.Test.YtnkogppgacappaaDoorPQuietO
import Derived.Test.YtnkogppgacappaaDoorPSameU
import Derived.Test.YtnkogppgacappaaDoorPSsa0
import Derived.Test.YtnkogppgacappaaDoorPStRest
import Derived.BigRegion
import Derived.Deep.DeepCutAuto
import Derived.Deep.RegionHeld3
namespace Go.Proofs.YtnkogppgacappaaDoor
open Go.RowKit Go.Sort

theorem ofS_ok {gs:List DGlobal}{fs:List DFunc}(h:checkF ⟨gs,fs⟩=(0,0)):ofS ⟨gs,fs⟩=(stillF (wordsL gs) (insU fs),0,0):=by
 unfold ofS;rw [h,if_neg (by simp)]
theorem stillOf_ok {S : Nat → Prop} (ga : Option Addr) (gc : Nat) (fa : Option Addr) (n fc : Nat) (gs : List DGlobal) (fs : List DFunc) (w : World)
 (hg:SlAt S w 3 rGlobal (.slice ga gs.length gc) gs) (hf:SlAt S w 4 rFunc (.slice fa n fc) fs) (hn:fs.length=n) (hw:Ways w) (hS:∀b,S b→b<w.heap.size) (hck:checkF ⟨gs,fs⟩=(0,0)) (N:Nat) (hN:(wordsL gs).length=N) :
 Calls Tryd.prog 12 #[.agg #[.slice ga gs.length gc,.slice fa n fc]] w fun e w'=>∃a c,e = .returned (.tuple #[.slice a N c,.agg #[.int .i64 0,.int .i64 0]]) ∧
  SlAt (fun b=>w.heap.size≤b) w' 1 rBool (.slice a N c) (stillF (wordsL gs) (insU fs))∧Below w.heap.size w w':=by
 subst hn;obtain⟨hgl,hfl,-⟩:=checkF_ok (u:=⟨gs,fs⟩) (by rw [hck]);dsimp only at hgl hfl;have h:=stillOf_any (S:=S) ga gc fa fc gs fs w hg hf hw hS (by omega) (by omega) (checkF_many2 hck);rw [ofS_ok hck] at h;dsimp only at h;rw [stillF_len,hN] at h;exact h

set_option maxRecDepth 100000 in
set_option maxHeartbeats 4000000 in
theorem stillGone_any (w : World) (hw : Ways w) (ga : Option Addr) (gc : Nat) (fa : Option Addr) (fc : Nat) (gs : List DGlobal) (fs : List DFunc) (hg : SlAt (fun b => b < w.heap.size) w 3 rGlobal (.slice ga gs.length gc) gs) (hf : SlAt (fun b => b < w.heap.size) w 4 rFunc (.slice fa fs.length fc) fs)
 (hsm:Small gs fs) :
 Calls Tryd.prog 4 #[.agg #[.slice ga gs.length gc,.slice fa fs.length fc]] w fun e w'=>e = .returned (.bool true)∧Below w.heap.size w w':=by
 have Hnum:=hid (NumU_of (gs:=gs) hf);have Hi64:=hid (words_i64 hg);have hgl:=hsm.globals;have hfl:=hsm.funcs;have Hg:=hid hg;have Hf:=hid hf;have Hw:=hid hw;have Hsm:=hid hsm;clear hg hf hw hsm;go_enter Tryd.func4,Tryd.ntmps4;obtain⟨W,hW⟩:∃W,W=(w.alloc (.cells #[.slice ga gs.length gc,.slice fa fs.length fc] 25)):=⟨_,rfl⟩
 have hbW:Below w.heap.size w W:=by rw [hW];(repeat (first | exact Below.refl _ _ | refine Below.alloc ?_ (by first|omega|(simp<;>omega)) _ | refine Below.setCell ?_ (by first|omega|(simp<;>omega)) _ | refine below_drewN ?_ _ | refine Below.drew ?_))
 have h0:W.heap[w.heap.size]?=some (.cells #[.slice ga gs.length gc,.slice fa fs.length fc] 25 (0,0)):=by rw [hW];exact heap_alloc_new _ _
 have hWs:W.heap.size=w.heap.size+1:=by rw [hW];simp
 go_upto_region 1 with (fail)
 rw [←hW];obtain⟨UB,hUB⟩:∃UB,UB=w.heap.size:=⟨_,rfl⟩
 rw [←hUB] at h0 ⊢;have HUB:Hid (UB=w.heap.size∧W.heap.size=UB+1):=⟨hUB,by omega⟩
 have HbW:=hid hbW;have H0:Hid (∀V,Below W.heap.size W V→V.cell? ⟨UB,0,none⟩=some (.slice ga gs.length gc)∧V.cell? ⟨UB,1,none⟩=some (.slice fa fs.length fc)):=fun V hV=>by
  have h1:=(hV.block UB (by omega)).trans h0;obtain⟨c0,c1⟩:=(cells_of (cs:=[_,_]) h1).get2;rw [Nat.zero_add] at c1;exact⟨c0,c1⟩
 obtain⟨c0,c1⟩:=H0.out W (Below.refl _ _);have zB:UB<W.heap.size:=cell_lt c0;have hby:=still_say (S:=fun b=>b<w.heap.size) ga gc fa fc gs fs W (Hg.out.later rGlobal_mono hbW) (Hf.out.later rFunc_mono hbW) (Ways.below Hw.out hbW) (fun b hb=>by omega) Hsm.out;have Hby:=hid hby;clear hW hWs hUB hbW h0 hby;go_upto_region 2 with (go_at_call 9;refine Hby.out.mono ?_;rintro e w1 ⟨va,vn,vc,wa,wn,wc,c,d,rfl,hb1,hcase⟩;have Hb1:=hid hb1;have Hcase:=hid hcase;clear hb1 hcase)
 obtain⟨W2,hW2⟩:∃W2,W2=(w1.alloc (.cells #[.slice va vn vc,.slice wa wn wc] 25)).alloc (.cells #[.int .i64 c,.int .i64 d] 28):=⟨_,rfl⟩
 obtain⟨h2s,hv0,hx0⟩:=two_cells w1 (.cells #[.slice va vn vc,.slice wa wn wc] 25) (.cells #[.int .i64 c,.int .i64 d] 28);rw [←hW2] at h2s hv0 hx0 ⊢;have hb2:Below w1.heap.size w1 W2:=by rw [hW2];(repeat (first | exact Below.refl _ _ | refine Below.alloc ?_ (by first|omega|(simp<;>omega)) _ | refine Below.setCell ?_ (by first|omega|(simp<;>omega)) _ | refine below_drewN ?_ _ | refine Below.drew ?_))
 have Hb2:Hid (Below W.heap.size W W2):=Hb1.out.trans (hb2.mono Hb1.out.size);have Hb12:=hid hb2;have Hw2:Hid (Below w.heap.size w W2):=HbW.out.trans (Hb2.out.mono HbW.out.size);obtain⟨VB,hVB⟩:∃VB,VB=w1.heap.size:=⟨_,rfl⟩
 obtain⟨FB,hFB⟩:∃FB,FB=w1.heap.size+1:=⟨_,rfl⟩
 rw [←hFB] at hx0 ⊢;rw [←hVB] at hv0 ⊢;have Hcl:Hid (∀V,Below W2.heap.size W2 V→V.cell? ⟨VB,0,none⟩=some (.slice va vn vc)∧V.cell? ⟨VB,1,none⟩=some (.slice wa wn wc)∧V.cell? ⟨FB,0,none⟩=some (.int .i64 c)∧V.cell? ⟨FB,1,none⟩=some (.int .i64 d)):=fun V hV=>by
  obtain⟨v0,v1⟩:=(cells_of (cs:=[_,_]) ((hV.block VB (by omega)).trans hv0)).get2;obtain⟨x0,x1⟩:=(cells_of (cs:=[_,_]) ((hV.block FB (by omega)).trans hx0)).get2;rw [Nat.zero_add] at v1 x1;exact⟨v0,v1,x0,x1⟩
 obtain⟨v0,v1,x0,x1⟩:=Hcl.out W2 (Below.refl _ _);have zV2:VB<W2.heap.size:=cell_lt v0;have zF2:FB<W2.heap.size:=cell_lt x0;clear hW2 h2s hv0 hx0 hb2 hVB hFB c0 c1 zB
 by_cases hc0:c=0
 · obtain⟨rfl,rfl,rfl,Hck,Hgv,Hfv⟩:d=0∧vn=gs.length∧wn=fs.length∧Hid (checkF ⟨gs,fs⟩=(0,0))∧Hid (SlAt (iv W.heap.size w1.heap.size) w1 3 rGlobal (.slice va vn vc) gs)∧Hid (SlAt (iv W.heap.size w1.heap.size) w1 4 rFunc (.slice wa wn wc) (stillT gs fs)):=by
    rcases Hcase.out with h | h
    · exact absurd hc0 h.1
    · exact⟨h.2.1,h.2.2.1,h.2.2.2.1,h.2.2.2.2.1,h.2.2.2.2.2.1,h.2.2.2.2.2.2⟩
   subst hc0;obtain⟨k1,k2⟩:=stillT_check Hck.out Hnum.out Hi64.out;have htc:checkF ⟨gs,fs.map tidyFn⟩=(0,0):=tidyU_check Hck.out Hnum.out;obtain⟨hgl10,hgsz,hwu,hmn200⟩:=checkF_globs (u:=⟨gs,fs⟩) (by rw [Hck.out]);dsimp only at hgl10 hgsz hwu hmn200;obtain⟨N,hN⟩:∃N,N=(wordsL gs).length:=⟨_,rfl⟩
   rw [←hN] at hwu hmn200;have hsb:∀fs',checkF ⟨gs,fs'⟩=(0,0)→fs'.length≤1048576∧(∀f∈fs',f.blocks.length≤1048576∧∀x∈f.blocks,x.list.length≤1048576)∧∀op,manyO op fs'≤1048576:=fun fs' h=>by
    obtain⟨-,s2⟩:=checkF_small (u:=⟨gs,fs'⟩) h;obtain⟨-,l10,-⟩:=checkF_ok (u:=⟨gs,fs'⟩) (by rw [h]);dsimp only at l10;refine⟨by omega,fun f hf=>⟨(s2 f hf).blocks,fun x hx=>((s2 f hf).each x hx).list⟩,fun op=>?_⟩;rw [manyO_eq];have hone:∀f∈fs',(f.blocks.map fun x=>x.list.countP fun y=>decide (y.op=op)).sum≤300:=fun f hf=>by
     obtain⟨i,hi⟩:=List.mem_iff_getElem?.1 hf;obtain⟨hh,-⟩:=checkF_at (u:=⟨gs,fs'⟩) h hi;obtain⟨-,-,-,-,-,-,-,-,h300⟩:=headE_ok hh;refine Nat.le_trans ?_ h300;unfold manyOf;exact sum_le fun x _=>Nat.le_trans List.countP_le_length (Nat.le_add_left _ _)
    have hall:∀l:List DFunc,(∀f∈l,f∈fs')→(l.map fun f=>(f.blocks.map fun x=>x.list.countP fun y=>decide (y.op=op)).sum).sum≤l.length * 300:=fun l=>by
     induction l with
     | nil=>intro _;exact Nat.zero_le _
     | cons f l ih =>
       intro hl;have h1:=hone f (hl f (List.mem_cons_self ..));have h2:=ih fun g hg=>hl g (List.mem_cons_of_mem _ hg);rw [List.map_cons,List.sum_cons,List.length_cons];omega
    have:=hall fs' fun f hf=>hf;omega
   obtain⟨v1',v2',v3'⟩:=hsb _ k1;obtain⟨t1',t2',t3'⟩:=hsb _ htc;have HV1:=hid v1';have HV2:=hid v2';have HV3:=hid v3';have HT1':=hid t1';have HT2':=hid t2';have HT3':=hid t3';have Hgone:=hid (stillT_gone Hck.out Hnum.out Hi64.out);obtain⟨a1,ha1⟩:∃a1,a1=manyO 18 (stillT gs fs):=⟨_,rfl⟩
   obtain⟨b1,hb1⟩:∃b1,b1=manyO 18 (fs.map tidyFn):=⟨_,rfl⟩
   obtain⟨a2,ha2⟩:∃a2,a2=manyO 19 (stillT gs fs):=⟨_,rfl⟩
   obtain⟨b2,hb2⟩:∃b2,b2=manyO 19 (fs.map tidyFn):=⟨_,rfl⟩
   have hab1:a1≤b1:=by rw [ha1,hb1];exact stillT_fewer Hck.out Hnum.out Hi64.out 18 (by decide)
   have hab2:a2≤b2:=by rw [ha2,hb2];exact stillT_fewer Hck.out Hnum.out Hi64.out 19 (by decide)
   have hlpos:0<fs.length:=checkF_pos (u:=⟨gs,fs⟩) Hck.out;have Hlv:=hid (stillT_len gs fs);have Htc:=hid htc;have Hgsz:=hid hgsz;have Hwu:=hid hwu;have HwN:Hid ((wordsL gs).length=N):=hN.symm;have Ha1:=hid ha1;have Ha2:=hid ha2;have Hb1':=hid hb1;have Hb2':=hid hb2;have hT1:=tidy_ok (S:=fun b=>b<w.heap.size) ga gc fa fs.length fc gs fs W2 (Hg.out.later rGlobal_mono Hw2.out) (Hf.out.later rFunc_mono Hw2.out) rfl (Ways.below Hw.out Hw2.out) (fun b hb=>Nat.lt_of_lt_of_le hb Hw2.out.size) Hck.out;have HT1:=hid hT1;obtain⟨a0,a1c⟩:=H0.out W2 Hb2.out;have zU2:UB<W2.heap.size:=cell_lt a0;clear Hcase k1 k2 htc hgsz hwu hN hsb v1' v2' v3' t1' t2' t3' ha1 hb1 ha2 hb2 hT1;go_upto_region 5 with (go_at_call 11;refine HT1.out.mono ?_;rintro e w3 ⟨ta,tc,ua,uc,rfl,hg3,hf3,hb3⟩;have Hg3:=hid hg3;have Hf3:=hid hf3;have Hb3:=hid hb3;clear hg3 hf3 hb3)
   obtain⟨W4,hW4⟩:∃W4,W4=(w3.alloc (.cells #[.slice ta gs.length tc,.slice ua fs.length uc] 25)).alloc (.cells #[.int .i64 0,.int .i64 0] 28):=⟨_,rfl⟩
   obtain⟨h4s,ht0,hy0⟩:=two_cells w3 (.cells #[.slice ta gs.length tc,.slice ua fs.length uc] 25) (.cells #[.int .i64 0,.int .i64 0] 28);rw [←hW4] at h4s ht0 hy0 ⊢;have hb4:Below w3.heap.size w3 W4:=by rw [hW4];(repeat (first | exact Below.refl _ _ | refine Below.alloc ?_ (by first|omega|(simp<;>omega)) _ | refine Below.setCell ?_ (by first|omega|(simp<;>omega)) _ | refine below_drewN ?_ _ | refine Below.drew ?_))
   have Hb34:=hid hb4;have Hb4:Hid (Below W2.heap.size W2 W4):=Hb3.out.trans (hb4.mono Hb3.out.size);have Hw4:Hid (Below w.heap.size w W4):=Hw2.out.trans (Hb4.out.mono Hw2.out.size);obtain⟨TB,hTB⟩:∃TB,TB=w3.heap.size:=⟨_,rfl⟩
   obtain⟨GB,hGB⟩:∃GB,GB=w3.heap.size+1:=⟨_,rfl⟩
   rw [←hGB] at hy0 ⊢;rw [←hTB] at ht0 ⊢;have Hcl4:Hid (∀V,Below W4.heap.size W4 V→V.cell? ⟨TB,0,none⟩=some (.slice ta gs.length tc)∧V.cell? ⟨TB,1,none⟩=some (.slice ua fs.length uc)∧V.cell? ⟨GB,0,none⟩=some (.int .i64 0)):=fun V hV=>by
    obtain⟨v0,v1⟩:=(cells_of (cs:=[_,_]) ((hV.block TB (by omega)).trans ht0)).get2;obtain⟨x0,x1⟩:=(cells_of (cs:=[_,_]) ((hV.block GB (by omega)).trans hy0)).get2;rw [Nat.zero_add] at v1;exact⟨v0,v1,x0⟩
   obtain⟨t0,t1,-⟩:=Hcl4.out W4 (Below.refl _ _);have zT4:=cell_lt t0;have hof:=stillOf_ok (S:=iv W2.heap.size w3.heap.size) ta tc ua fs.length uc gs (fs.map tidyFn) W4 (Hg3.out.later rGlobal_mono hb4) (Hf3.out.later rFunc_mono hb4) (by simp) (Ways.below Hw.out Hw4.out) (fun b h=>Nat.lt_of_lt_of_le h.2 hb4.size) Htc.out N HwN.out;have Hof:=hid hof;clear hW4 h4s ht0 hy0 hb4 hTB hGB hof a0 a1c v0 v1 x0 x1 zU2 zV2 zF2;go_upto_region 6 with (go_at_call 12;refine Hof.out.mono ?_;rintro e w5 ⟨la,lc,rfl,hl5,hb5⟩;have Hl5:=hid hl5;have Hb5:=hid hb5;clear hl5 hb5)
   obtain⟨W6,hW6⟩:∃W6,W6=w5.alloc (.cells #[.int .i64 0,.int .i64 0] 28):=⟨_,rfl⟩
   have hb6:Below w5.heap.size w5 W6:=by rw [hW6];(repeat (first | exact Below.refl _ _ | refine Below.alloc ?_ (by first|omega|(simp<;>omega)) _ | refine Below.setCell ?_ (by first|omega|(simp<;>omega)) _ | refine below_drewN ?_ _ | refine Below.drew ?_))
   obtain⟨HB,hHB⟩:∃HB,HB=w5.heap.size:=⟨_,rfl⟩
   have hh0:W6.heap[HB]?=some (.cells #[.int .i64 0,.int .i64 0] 28 (0,0)):=by rw [hW6,hHB];exact heap_alloc_new _ _
   rw [←hW6,←hHB];have Hb56:=hid hb6;have Hb46:Hid (Below W4.heap.size W4 W6):=Hb5.out.trans (hb6.mono Hb5.out.size);have Hb26:Hid (Below W2.heap.size W2 W6):=Hb4.out.trans (Hb46.out.mono Hb4.out.size);have Hw6:Hid (Below w.heap.size w W6):=Hw2.out.trans (Hb26.out.mono Hw2.out.size);have HbW6:Hid (Below W.heap.size W W6):=Hb2.out.trans (Hb26.out.mono Hb2.out.size);obtain⟨y0,-⟩:=(cells_of (cs:=[_,_]) hh0).get2;obtain⟨t0,t1,g0⟩:=Hcl4.out W6 Hb46.out;obtain⟨v0,v1,-,-⟩:=Hcl.out W6 Hb26.out;obtain⟨u0,u1⟩:=H0.out W6 HbW6.out;have HcW:Hid (∀m d os,CallsIn Fence.wide m Tryd.prog 13 #[.agg #[.slice ga gs.length gc,.slice fa fs.length fc]] (grow (redrawn W6 d) os) fun e w''=>e = .returned (.int .i64 (N:Int))∧∃p:Regrown,w''=grow (redrawn W6 p.d) p.os):=fun m d os=>by
    have hb:=below_regrown W6 d os;have h:=wordsOf_any (S:=fun b=>b<w.heap.size) ga fa gc fs.length fc gs (grow (redrawn W6 d) os) (Hg.out.later rGlobal_mono (Hw6.out.trans (hb.mono Hw6.out.size))) hgl10 (fun g hg=>⟨(Hgsz.out g hg).1,(Hgsz.out g hg).2.1⟩);rw [Hwu.out] at h;exact CallsIn.regrown_of (callsIn_wide (n:=m).2 h)
   have HcV:Hid (∀(op:Int) (a:Nat),a=manyO op (stillT gs fs)→∀m d os,CallsIn Fence.wide m Tryd.prog 14 #[.agg #[.slice va gs.length vc,.slice wa fs.length wc],.int .i64 op] (grow (redrawn W6 d) os) fun e w''=>e = .returned (.int .i64 (a:Int))∧∃p:Regrown,w''=grow (redrawn W6 p.d) p.os):=fun op a ha m d os=>by
    have hb:Below w1.heap.size w1 (grow (redrawn W6 d) os):=Hb12.out.trans ((Hb26.out.trans ((below_regrown W6 d os).mono Hb26.out.size)).mono Hb12.out.size);have h:=many_any (S:=iv W.heap.size w1.heap.size) va wa gs.length vc fs.length wc (stillT gs fs) op (grow (redrawn W6 d) os) (Hfv.out.later rFunc_mono hb) Hlv.out HV1.out HV2.out (HV3.out op);rw [←ha] at h;exact CallsIn.regrown_of (callsIn_wide (n:=m).2 h)
   have HcT:Hid (∀(op:Int) (a:Nat),a=manyO op (fs.map tidyFn)→∀m d os,CallsIn Fence.wide m Tryd.prog 14 #[.agg #[.slice ta gs.length tc,.slice ua fs.length uc],.int .i64 op] (grow (redrawn W6 d) os) fun e w''=>e = .returned (.int .i64 (a:Int))∧∃p:Regrown,w''=grow (redrawn W6 p.d) p.os):=fun op a ha m d os=>by
    have hb:Below w3.heap.size w3 (grow (redrawn W6 d) os):=Hb34.out.trans ((Hb46.out.trans ((below_regrown W6 d os).mono Hb46.out.size)).mono Hb34.out.size);have h:=many_any (S:=iv W2.heap.size w3.heap.size) ta ua gs.length tc fs.length uc (fs.map tidyFn) op (grow (redrawn W6 d) os) (Hf3.out.later rFunc_mono hb) (by simp) HT1'.out HT2'.out (HT3'.out op);rw [←ha] at h;exact CallsIn.regrown_of (callsIn_wide (n:=m).2 h)
   have HcV1:=hid (HcV.out 18 a1 Ha1.out);have HcV2:=hid (HcV.out 19 a2 Ha2.out);have HcT1:=hid (HcT.out 18 b1 Hb1'.out);have HcT2:=hid (HcT.out 19 b2 Hb2'.out);have k1:=cell_regrown y0;have k2:=cell_regrown t0;have k3:=cell_regrown t1;have k4:=cell_regrown g0;have k5:=cell_regrown v0;have k6:=cell_regrown v1;have k7:=cell_regrown u0;have k8:=cell_regrown u1;clear hW6 hb6 hHB hh0 zT4 y0 t0 t1 g0 v0 v1 u0 u1;have hpos2:¬(fs.length=0):=by omega
   have hab1':decide (b1<a1)=false:=decide_eq_false (by omega);have hab2':decide (b2<a2)=false:=decide_eq_false (by omega);refine wp_region_quiet_up (by kernel_rfl) (by kernel_rfl) ?_
   repeat (gi_big_quiet_step (fail))
   refine wpQuietIn_step (fun _ _ _ _=>trivial) (fun K hK=>?_);go_simp;refine⟨_,fun _=>HcW.out _ _ _,hK _ ?_⟩;clear hK K
   repeat (gi_big_quiet_step (fail))
   refine wpQuietIn_step (fun _ _ _ _=>trivial) (fun K hK=>?_);go_simp;refine⟨_,fun _=>HcV1.out _ _ _,hK _ ?_⟩;clear hK K
   repeat (gi_big_quiet_step (fail))
   refine wpQuietIn_step (fun _ _ _ _=>trivial) (fun K hK=>?_);go_simp;refine⟨_,fun _=>HcT1.out _ _ _,hK _ ?_⟩;clear hK K
   repeat (gi_big_quiet_step (fail))
   refine wpQuietIn_step (fun _ _ _ _=>trivial) (fun K hK=>?_);go_simp;refine⟨_,fun _=>HcV2.out _ _ _,hK _ ?_⟩;clear hK K
   repeat (gi_big_quiet_step (fail))
   refine wpQuietIn_step (fun _ _ _ _=>trivial) (fun K hK=>?_);go_simp;refine⟨_,fun _=>HcT2.out _ _ _,hK _ ?_⟩;clear hK K
   repeat (gi_big_quiet_step (fail))
   refine wpQuietIn_nil ?_;intro W7 hw7;obtain⟨rg,hrg⟩:=hw7;have hb7:Below W6.heap.size W6 W7:=by rw [hrg];exact below_regrown _ _ _
   have Hb7:=hid hb7;have Hw7:Hid (Below w.heap.size w W7):=Hw6.out.trans (hb7.mono Hw6.out.size);have Hb27:Hid (Below W2.heap.size W2 W7):=Hb26.out.trans (hb7.mono Hb26.out.size);have hls:SlAt (fun b=>W4.heap.size≤b) W7 1 rBool (.slice la N lc) (stillF (wordsL gs) (insU (fs.map tidyFn))):=Hl5.out.later rBool_mono (Hb56.out.trans (hb7.mono Hb56.out.size));obtain⟨ls,hlse⟩:∃ls,ls=stillF (wordsL gs) (insU (fs.map tidyFn)):=⟨_,rfl⟩
   rw [←hlse] at hls;have HlsE:=hid hlse;have HlsN:Hid (ls.length=N):=by show _=_;rw [hlse,stillF_len,HwN.out]
   have Hls:=hid hls;obtain⟨fv,hfv⟩:∃fv,fv=stillT gs fs:=⟨_,rfl⟩
   have hfs:SlAt (iv W.heap.size w1.heap.size) W7 4 rFunc (.slice wa fs.length wc) fv:=by rw [hfv];exact Hfv.out.later rFunc_mono (Hb12.out.trans (Hb27.out.mono Hb12.out.size))
   have hfl9:fv.length=fs.length:=by rw [hfv];exact Hlv.out
   rw [←hfl9] at hfs;have hgone:∀f∈fv,∀x∈f.blocks,∀y∈x.list,(y.op=18∨y.op=19)→y.a.reg=false→0≤y.a.n→y.a.n<((wordsL gs).length:Int)→(stillF (wordsL gs) (insU (fs.map tidyFn))).getD y.a.n.toNat false=false:=by rw [hfv];exact Hgone.out
   have hsm9:∀f∈fv,f.blocks.length≤1048576∧∀x∈f.blocks,x.list.length≤1048576:=by rw [hfv];exact HV2.out
   have hn9:fv.length≤1048576:=by omega
   have Hf7:=hid hfs;have Hgo:=hid hgone;have Hsm9:=hid hsm9;obtain⟨-,v1,-,-⟩:=Hcl.out W7 Hb27.out;rw [←hfl9] at v1 ⊢;have zV7:=cell_lt v1;clear hrg hb7 hls hlse hfv hfs hgone hsm9 hfl9 k1 k2 k3 k4 k5 k6 k7 k8 hab1' hab2' hpos2;go_wp2_with fail;go_loop [9] (fun i=>∃k:Nat,k≤fv.length∧i = .int .i64 k) (fun i=>fv.length - (intOf i).toNat)
   case atStart=>exact⟨0,Nat.zero_le _,rfl⟩
   case round =>
    obtain⟨k,hk,rfl⟩:=hrel
    by_cases hkl:k<fv.length
    · obtain⟨fb,foff,xa,xc,rfl,hcs,hxb,-,-⟩:=func_at Hf7.out hkl
      obtain⟨-,-,-,c3⟩:=hcs.get4;have zf:fb<W7.heap.size:=cell_lt c3;have hbl:=(Hsm9.out _ (List.getElem_mem hkl)).1;have Hxb:=hid hxb;have Hxl:Hid (∀x∈fv[k].blocks,x.list.length≤1048576):=(Hsm9.out _ (List.getElem_mem hkl)).2;have Hgk:Hid (∀x∈fv[k].blocks,∀y∈x.list,(y.op=18∨y.op=19)→y.a.reg=false→0≤y.a.n→y.a.n<((wordsL gs).length:Int)→(stillF (wordsL gs) (insU (fs.map tidyFn))).getD y.a.n.toNat false=false):=Hgo.out _ (List.getElem_mem hkl);obtain⟨bs,hbs⟩:∃bs,bs=fv[k].blocks:=⟨_,rfl⟩
      rw [←hbs] at c3 hbl Hxb Hxl Hgk;clear hcs hxb hbs;go_wp2_with fail;go_loop [10] (fun i=>∃b:Nat,b≤bs.length∧i = .int .i64 b) (fun i=>bs.length - (intOf i).toNat)
      case atStart=>exact⟨0,Nat.zero_le _,rfl⟩
      case round =>
       obtain⟨b,hb,rfl⟩:=hrel
       by_cases hbl2:b<bs.length
       · obtain⟨xb,xoff,pa,pc,lia,lic,toa,toc,rfl,hcs,-,hl,-,-,-⟩:=block_at Hxb.out hbl2
         obtain⟨-,d1,-⟩:=hcs.get6;have zx:xb<W7.heap.size:=cell_lt d1;have hll:=Hxl.out _ (List.getElem_mem hbl2);have Hgb:Hid (∀y∈bs[b].list,(y.op=18∨y.op=19)→y.a.reg=false→0≤y.a.n→y.a.n<((wordsL gs).length:Int)→(stillF (wordsL gs) (insU (fs.map tidyFn))).getD y.a.n.toNat false=false):=Hgk.out _ (List.getElem_mem hbl2);obtain⟨ys,hys⟩:∃ys,ys=bs[b].list:=⟨_,rfl⟩
         rw [←hys] at d1 hl hll Hgb;have Hl:=hid hl;clear hcs hl hys;go_wp2_with fail;go_loop [12] (fun i=>∃m:Nat,m≤ys.length∧i = .int .i64 m) (fun i=>ys.length - (intOf i).toNat)
         case atStart=>exact⟨0,Nat.zero_le _,rfl⟩
         case round =>
          obtain⟨m,hm,rfl⟩:=hrel
          by_cases hml:m<ys.length
          · obtain⟨lb,loff,fa',fc',rfl,hcs,-,-⟩:=ins_at Hl.out hml
            obtain⟨e0,-,e2,e3,-,-,-,-⟩:=hcs.get8;have zl:lb<W7.heap.size:=cell_lt e0;have Hgy:=hid (Hgb.out _ (List.getElem_mem hml));obtain⟨y,hy⟩:∃y,y=ys[m]:=⟨_,rfl⟩
            rw [←hy] at e0 e2 e3 Hgy;obtain⟨yo,hyo⟩:∃yo,y.op=yo:=⟨_,rfl⟩
            obtain⟨ar,hyr⟩:∃ar,y.a.reg=ar:=⟨_,rfl⟩
            obtain⟨an,hyn⟩:∃an,y.a.n=an:=⟨_,rfl⟩
            rw [hyo] at e0;rw [hyr] at e2;rw [hyn] at e3;clear hcs hy
            by_cases h18:yo=18
            · subst h18
              cases ar with
              | true =>
                go_wp2_with fail;go_round
                case rel=>exact⟨m+1,by omega,by go_num⟩
                case measure=>simp [intOf];omega
              | false =>
                by_cases ha0:0≤an
                · by_cases ha1:an<(N:Int)
                  · obtain⟨q,hq⟩:∃q:Nat,an=(q:Int):=⟨an.toNat,by omega⟩
                    subst hq;have hqN:q<N:=by omega
                    obtain⟨bb,bo,hbe,hbc⟩:=bool_at Hls.out (t:=q) (by rw [HlsN.out];exact hqN);have hlq:ls[q]'(by rw [HlsN.out];exact hqN)=false:=by
                     have h:=Hgy.out (by rw [hyo];decide) hyr (by rw [hyn];omega) (by rw [hyn,HwN.out];omega);rw [hyn,Int.toNat_natCast,←HlsE.out,List.getD_eq_getElem?_getD,List.getElem?_eq_getElem (by rw [HlsN.out];exact hqN)] at h;exact h
                    rw [hlq] at hbc;subst hbe;have zbb:=cell_lt hbc;clear hlq hyo hyr hyn hqN;go_wp2_with fail;go_round
                    case rel=>exact⟨m+1,by omega,by go_num⟩
                    case measure=>simp [intOf];omega
                  · have hq1:decide (an<(N:Int))=false:=decide_eq_false ha1
                    clear hyo hyr hyn;go_wp2_with fail;go_round
                    case rel=>exact⟨m+1,by omega,by go_num⟩
                    case measure=>simp [intOf];omega
                · have hq0:decide (0≤an)=false:=decide_eq_false ha0
                  clear hyo hyr hyn;go_wp2_with fail;go_round
                  case rel=>exact⟨m+1,by omega,by go_num⟩
                  case measure=>simp [intOf];omega
            · by_cases h19:yo=19
              · subst h19
                cases ar with
                | true =>
                  go_wp2_with fail;go_round
                  case rel=>exact⟨m+1,by omega,by go_num⟩
                  case measure=>simp [intOf];omega
                | false =>
                  by_cases ha0:0≤an
                  · by_cases ha1:an<(N:Int)
                    · obtain⟨q,hq⟩:∃q:Nat,an=(q:Int):=⟨an.toNat,by omega⟩
                      subst hq;have hqN:q<N:=by omega
                      obtain⟨bb,bo,hbe,hbc⟩:=bool_at Hls.out (t:=q) (by rw [HlsN.out];exact hqN);have hlq:ls[q]'(by rw [HlsN.out];exact hqN)=false:=by
                       have h:=Hgy.out (by rw [hyo];decide) hyr (by rw [hyn];omega) (by rw [hyn,HwN.out];omega);rw [hyn,Int.toNat_natCast,←HlsE.out,List.getD_eq_getElem?_getD,List.getElem?_eq_getElem (by rw [HlsN.out];exact hqN)] at h;exact h
                      rw [hlq] at hbc;subst hbe;have zbb:=cell_lt hbc;clear hlq hyo hyr hyn hqN;go_wp2_with fail;go_round
                      case rel=>exact⟨m+1,by omega,by go_num⟩
                      case measure=>simp [intOf];omega
                    · have hq1:decide (an<(N:Int))=false:=decide_eq_false ha1
                      clear hyo hyr hyn;go_wp2_with fail;go_round
                      case rel=>exact⟨m+1,by omega,by go_num⟩
                      case measure=>simp [intOf];omega
                  · have hq0:decide (0≤an)=false:=decide_eq_false ha0
                    clear hyo hyr hyn;go_wp2_with fail;go_round
                    case rel=>exact⟨m+1,by omega,by go_num⟩
                    case measure=>simp [intOf];omega
              · have q18:(decide (yo≤18)&&decide (18≤yo))=false:=eq_no h18
                have q19:(decide (yo≤19)&&decide (19≤yo))=false:=eq_no h19;clear h18 h19 hyo hyr hyn;go_wp2_with fail;go_round
                case rel=>exact⟨m+1,by omega,by go_num⟩
                case measure=>simp [intOf];omega
          · go_wp2_with fail
            go_round
            case rel=>exact⟨b+1,by omega,by go_num⟩
            case measure=>simp [intOf];omega
       · go_wp2_with fail
         go_round
         case rel=>exact⟨k+1,by omega,by go_num⟩
         case measure=>simp [intOf];omega
    · have hke:k=fv.length:=by omega
      subst hke;go_wp2_with fail;go_ret;exact⟨rfl,Hw7.out⟩
 · obtain⟨rfl,rfl⟩:vn=0∧wn=0:=by
    rcases Hcase.out with h | h
    · exact⟨h.2.1,h.2.2.1⟩
    · exact absurd h.1 hc0
   have hq:(decide (c<0)||decide (0<c))=true:=ne_yes hc0;clear Hcase hc0
   go_wp2_with (first
    | (go_at_call 10; refine (none_any _ _ _ _ 0 0 _).mono ?_; rintro e w6 ⟨rfl, hb6⟩))
   go_ret;exact⟨rfl,by have h:=Hw2.out;(have hz0:=(hb6).size;have hy0:=hz0;(try simp at hy0);have hz1:=(h).size;have hy1:=hz1;(try simp at hy1);repeat (first | exact Below.refl _ _ | refine Below.trans ?_ ((hb6).mono (by first|omega|(simp<;>omega))) | refine Below.trans ?_ ((h).mono (by first|omega|(simp<;>omega))) | refine Below.alloc ?_ (by first|omega|(simp<;>omega)) _ | refine Below.setCell ?_ (by first|omega|(simp<;>omega)) _ | refine below_drewN ?_ _ | refine Below.drew ?_))⟩

end Go.Proofs.YtnkogppgacappaaDoor
