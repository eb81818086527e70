/- The contract of code.Check. The contract of weigh.Lay. turnerysame.Fault, turnerysame.Ints, turneryref6.weighIn. slices.Index and slices.Contains of ints. tidy.rename, plain: what comes from one block comes from another one; and what the rows hold meanwhile. tidy.ChainsOf, plain: a block goes into the one ahead of it. -/
import Derived.Test.YtnkogppgacappaaGreatDoorPLay
import Derived.RegionTactic
import Derived.BigRegion
import Derived.Deep.LoopGhost
import Derived.Test.YtnkogppgacappaaGreatDoorPDelIns
import Derived.Test.YtnkogppgacappaaGreatDoorPKeep1
namespace Go.Proofs.YtnkogppgacappaaGreatDoor
open Go.RowKit

theorem infoStr:(Tryz.prog.info? 9).map (fun i=>(i.zero,i.size,i.bytes))=some (some (.string ByteArray.empty),1,16):=by kernel_rfl

set_option maxRecDepth 100000 in
set_option maxHeartbeats 4000000 in
theorem check_any {S : Nat → Prop} (ga : Option Addr) (gc : Nat) (fa : Option Addr) (fc : Nat) (gs : List DGlobal) (fs : List DFunc) (w : World)
 (hg:SlAt S w 3 rGlobal (.slice ga gs.length gc) gs) (hf:SlAt S w 4 rFunc (.slice fa fs.length fc) fs) (hw:Ways w)
 (hgl:gs.length≤1048576) (hfl:fs.length≤1048576) (hsm:∀(k:Nat) (f:DFunc),fs[k]?=some f→manyOf f.blocks≤1048576∧f.blocks.length≤1048576) :
 Calls Tryz.prog 8 #[.agg #[.slice ga gs.length gc,.slice fa fs.length fc]] w fun e w' =>
  e = .returned (.agg #[.int .i64 (checkF ⟨gs,fs⟩).1,.int .i64 (checkF ⟨gs,fs⟩).2])∧Below w.heap.size w w':=by
 have Hg:=hid hg;have Hf:=hid hf;have Hw:=hid hw;have Hsm:=hid hsm;obtain⟨_,_,hg1,hg2⟩:=hg.val;obtain⟨_,_,hf1,hf2⟩:=hf.val;cases hg1;cases hf1;clear hg hf hw hsm;obtain⟨i0,hi,hz0,hz1,hz2⟩:=info_parts infoStr
 by_cases hlen:10<gs.length∨10<fs.length
 · have Hr:Hid (checkF ⟨gs,fs⟩=(2,0)):=by show checkF ⟨gs,fs⟩=_;unfold checkF;rw [if_pos hlen]
   by_cases hgl':10<gs.length
   all_goals
    go_enter Tryz.func8,Tryz.ntmps8;go_wp2_with (go_at_call 19;((with_reducible refine (fault_any _ _ _).mono ?_);rintro e w2 ⟨rfl,hb2⟩;obtain⟨hc2,hf2⟩:=below_cells hb2));refine bodyPost_ret (v:=_) ?_ rfl ⟨rfl,?_⟩
    · rw [Hr.out]
      simp [results,Tryz.results8,go_sem,hc2]
    · (have hz0:=(hb2).size;have hy0:=hz0;(try simp at hy0);repeat (first | exact Below.refl _ _ | refine Below.trans ?_ ((hb2).mono (by first|omega|(simp<;>omega))) | refine Below.alloc ?_ (by first|omega|(simp<;>omega)) _ | refine Below.setCell ?_ (by first|omega|(simp<;>omega)) _ | refine below_drewN ?_ _ | refine Below.drew ?_))
 have hgl10:gs.length≤10:=by omega
 have hfl10:fs.length≤10:=by omega
 have Hlen:=hid hlen;clear hlen hgl hfl;have HW0:Hid (∀a b:Obj,Below w.heap.size w ((w.alloc a).alloc b)):=fun a b=>by (repeat (first | exact Below.refl _ _ | refine Below.alloc ?_ (by first|omega|(simp<;>omega)) _ | refine Below.setCell ?_ (by first|omega|(simp<;>omega)) _ | refine below_drewN ?_ _ | refine Below.drew ?_))
 go_enter Tryz.func8,Tryz.ntmps8;go_wp2_with fail;go_loopw [3,4,31] (fun v3 wd i wr=>∃(k:Nat) (nv:Value),k≤gs.length∧i = .int .i64 k∧nv=v3∧wd = .int .i64 (wordsUp gs k)∧(∀j,j<k→globE gs j=0)∧wr.ownsRow (w.heap.size+2) 9 1 nv (gNames gs k).length ((gNames gs k).map Value.string)∧Below (w.heap.size+2) ((w.alloc (.cells #[.slice ga gs.length gc,.slice fa fs.length fc] 25)).alloc (.cells #[.int .i64 0,.int .i64 0] 27)) wr) (fun _ _ i _=>gs.length - (intOf i).toNat)
 case atStart=>exact⟨0,_,Nat.zero_le _,rfl,rfl,rfl,fun j hj=>by omega,World.ownsRow_nil _ _ _ _,Below.refl _ _⟩
 case round =>
  obtain⟨k,nv,hk,rfl,rfl,rfl,hall,hown,hbw⟩:=hrel;have Hall:=hid hall;have Hown:=hid hown;have Hbw:=hid hbw;have Hwr:Hid (Below w.heap.size w wr):=(HW0.out _ _).trans (hbw.mono (by omega));have Hnm:Hid (SlAt (fun b=>w.heap.size+2≤b) wr 1 rStr nv (gNames gs k)):=own_strs hown;obtain⟨na,nc,rfl,hnl⟩:=Hnm.out.val;obtain⟨hc1,hf1⟩:=below_cells hbw;have hz3:w.heap.size+1<wr.heap.size:=by have:=hbw.size;simp at this;omega
  have hz4:w.heap.size<wr.heap.size:=by omega
  have R0:Hid (wr.cell? ⟨w.heap.size+1,0,none⟩=some (.int .i64 0)):=by show _=_;rw [hc1 _ _ (by omega)];simp
  have R1:Hid (wr.cell? ⟨w.heap.size+1,1,none⟩=some (.int .i64 0)):=by show _=_;rw [hc1 _ _ (by omega)];simp
  have hwb:=words_bound hk hall;clear hall hown hbw
  by_cases hlt:k<gs.length
  · obtain⟨b,off,cs,rfl,-,hx,-,hcs⟩:=Hg.out.get hlt
    obtain⟨xa,xc,rfl,-,hxl,hsz⟩:=hx.opens;obtain⟨c0,c1,c2⟩:=(hcs.later Hwr.out).get3;unfold I64 at hsz;have hgk:globE gs k=globErr (gNames gs k) (wordsUp gs k) gs[k]:=by unfold globE;rw [List.getElem?_eq_getElem hlt]
    have Hgk:=hid hgk;have HrK:Hid (∀c:Int,globErr (gNames gs k) (wordsUp gs k) gs[k]=c→c≠0→checkF ⟨gs,fs⟩=(c,(k:Int))):=fun c hc hne=>by
     have h:=posF_at Hall.out hlt (by rw [Hgk.out,hc];exact hne);unfold checkF;dsimp only;rw [if_neg Hlen.out,h,if_pos hlt,Hgk.out,hc]
    obtain⟨names,hnames⟩:∃names,names=gNames gs k:=⟨_,rfl⟩
    obtain⟨words,hwords⟩:∃words,words=wordsUp gs k:=⟨_,rfl⟩
    rw [←hnames,←hwords] at HrK;rw [←hnames] at Hnm Hown hnl;rw [←hwords] at hwb;rw [←hnames];rw [←hwords];have Hnames:=hid hnames;have Hwords:=hid hwords;clear hcs hx hgk hnames hwords;obtain⟨g,hge⟩:∃g,g=gs[k]:=⟨_,rfl⟩
    rw [←hge] at HrK c0 c1 c2 hsz hxl;have Hge:=hid hge;clear hge
    by_cases h1:nameOk g.name=true
    case neg =>
     have h1':nameOk g.name=false:=by simpa using h1
     have Hr:Hid (checkF ⟨gs,fs⟩=(12,(k:Int))):=HrK.out _ (by simp [globErr,h1']) (by omega);clear h1 hwb;go_wp2_with (first | (go_at_call 19;((with_reducible refine (fault_any _ _ _).mono ?_);rintro e w2 ⟨rfl,hb2⟩;obtain⟨hc2,hf2⟩:=below_cells hb2)) | (go_at_call 20;((with_reducible refine (name_any _ _).mono ?_);rintro e w' ⟨rfl,rfl⟩)) | (go_at_call 21;((with_reducible refine (containsStr_any (S:=fun b=>w.heap.size+2≤b) _ names _ _ ?_).mono ?_);refine Hnm.out.later rStr_mono ?_;(repeat (first | exact Below.refl _ _ | refine Below.alloc ?_ (by first|omega|(simp<;>omega)) _ | refine Below.setCell ?_ (by first|omega|(simp<;>omega)) _ | refine below_drewN ?_ _ | refine Below.drew ?_));rintro e w' ⟨rfl,rfl⟩)) | (go_at_call 22;((with_reducible refine (within_any _ _ _ _).mono ?_);rintro e w' ⟨rfl,rfl⟩)));have hq:Below wr.heap.size wr w2:=by (have hz0:=(hb2).size;have hy0:=hz0;(try simp at hy0);repeat (first | exact Below.refl _ _ | refine Below.trans ?_ ((hb2).mono (by first|omega|(simp<;>omega))) | refine Below.alloc ?_ (by first|omega|(simp<;>omega)) _ | refine Below.setCell ?_ (by first|omega|(simp<;>omega)) _ | refine below_drewN ?_ _ | refine Below.drew ?_))
     have q:=set_two (u := .int .i64 (checkF ⟨gs,fs⟩).1) (v := .int .i64 (checkF ⟨gs,fs⟩).2) (cell_later' R0.out hq) (cell_later' R1.out hq);rw [Hr.out] at q ⊢;refine bodyPost_ret (res_two rfl rfl q.1 q.2) rfl ⟨rfl,?_⟩;have h:=Hwr.out;(have hz0:=(hb2).size;have hy0:=hz0;(try simp at hy0);have hz1:=(h).size;have hy1:=hz1;(try simp at hy1);repeat (first | exact Below.refl _ _ | refine Below.trans ?_ ((hb2).mono (by first|omega|(simp<;>omega))) | refine Below.trans ?_ ((h).mono (by first|omega|(simp<;>omega))) | refine Below.alloc ?_ (by first|omega|(simp<;>omega)) _ | refine Below.setCell ?_ (by first|omega|(simp<;>omega)) _ | refine below_drewN ?_ _ | refine Below.drew ?_))
    by_cases h2:hasStr names g.name=true
    · have Hr:Hid (checkF ⟨gs,fs⟩=(7,(k:Int))):=HrK.out _ (by simp [globErr,h1,h2]) (by omega)
      clear hwb;go_wp2_with (first | (go_at_call 19;((with_reducible refine (fault_any _ _ _).mono ?_);rintro e w2 ⟨rfl,hb2⟩;obtain⟨hc2,hf2⟩:=below_cells hb2)) | (go_at_call 20;((with_reducible refine (name_any _ _).mono ?_);rintro e w' ⟨rfl,rfl⟩)) | (go_at_call 21;((with_reducible refine (containsStr_any (S:=fun b=>w.heap.size+2≤b) _ names _ _ ?_).mono ?_);refine Hnm.out.later rStr_mono ?_;(repeat (first | exact Below.refl _ _ | refine Below.alloc ?_ (by first|omega|(simp<;>omega)) _ | refine Below.setCell ?_ (by first|omega|(simp<;>omega)) _ | refine below_drewN ?_ _ | refine Below.drew ?_));rintro e w' ⟨rfl,rfl⟩)) | (go_at_call 22;((with_reducible refine (within_any _ _ _ _).mono ?_);rintro e w' ⟨rfl,rfl⟩)));have hq:Below wr.heap.size wr w2:=by (have hz0:=(hb2).size;have hy0:=hz0;(try simp at hy0);repeat (first | exact Below.refl _ _ | refine Below.trans ?_ ((hb2).mono (by first|omega|(simp<;>omega))) | refine Below.alloc ?_ (by first|omega|(simp<;>omega)) _ | refine Below.setCell ?_ (by first|omega|(simp<;>omega)) _ | refine below_drewN ?_ _ | refine Below.drew ?_))
      have q:=set_two (u := .int .i64 (checkF ⟨gs,fs⟩).1) (v := .int .i64 (checkF ⟨gs,fs⟩).2) (cell_later' R0.out hq) (cell_later' R1.out hq);rw [Hr.out] at q ⊢;refine bodyPost_ret (res_two rfl rfl q.1 q.2) rfl ⟨rfl,?_⟩;have h:=Hwr.out;(have hz0:=(hb2).size;have hy0:=hz0;(try simp at hy0);have hz1:=(h).size;have hy1:=hz1;(try simp at hy1);repeat (first | exact Below.refl _ _ | refine Below.trans ?_ ((hb2).mono (by first|omega|(simp<;>omega))) | refine Below.trans ?_ ((h).mono (by first|omega|(simp<;>omega))) | refine Below.alloc ?_ (by first|omega|(simp<;>omega)) _ | refine Below.setCell ?_ (by first|omega|(simp<;>omega)) _ | refine below_drewN ?_ _ | refine Below.drew ?_))
    have h2':hasStr names g.name=false:=by simpa using h2
    clear h2
    by_cases h3:1≤g.size∧g.size≤200
    case neg =>
     have Hr:Hid (checkF ⟨gs,fs⟩=(3,(k:Int))):=HrK.out _ (by simp only [globErr,h1,h2',h3];simp) (by omega);clear hwb;go_wp2_with (first | (go_at_call 19;((with_reducible refine (fault_any _ _ _).mono ?_);rintro e w2 ⟨rfl,hb2⟩;obtain⟨hc2,hf2⟩:=below_cells hb2)) | (go_at_call 20;((with_reducible refine (name_any _ _).mono ?_);rintro e w' ⟨rfl,rfl⟩)) | (go_at_call 21;((with_reducible refine (containsStr_any (S:=fun b=>w.heap.size+2≤b) _ names _ _ ?_).mono ?_);refine Hnm.out.later rStr_mono ?_;(repeat (first | exact Below.refl _ _ | refine Below.alloc ?_ (by first|omega|(simp<;>omega)) _ | refine Below.setCell ?_ (by first|omega|(simp<;>omega)) _ | refine below_drewN ?_ _ | refine Below.drew ?_));rintro e w' ⟨rfl,rfl⟩)) | (go_at_call 22;((with_reducible refine (within_any _ _ _ _).mono ?_);rintro e w' ⟨rfl,rfl⟩)));have hq:Below wr.heap.size wr w2:=by (have hz0:=(hb2).size;have hy0:=hz0;(try simp at hy0);repeat (first | exact Below.refl _ _ | refine Below.trans ?_ ((hb2).mono (by first|omega|(simp<;>omega))) | refine Below.alloc ?_ (by first|omega|(simp<;>omega)) _ | refine Below.setCell ?_ (by first|omega|(simp<;>omega)) _ | refine below_drewN ?_ _ | refine Below.drew ?_))
     have q:=set_two (u := .int .i64 (checkF ⟨gs,fs⟩).1) (v := .int .i64 (checkF ⟨gs,fs⟩).2) (cell_later' R0.out hq) (cell_later' R1.out hq);rw [Hr.out] at q ⊢;refine bodyPost_ret (res_two rfl rfl q.1 q.2) rfl ⟨rfl,?_⟩;have h:=Hwr.out;(have hz0:=(hb2).size;have hy0:=hz0;(try simp at hy0);have hz1:=(h).size;have hy1:=hz1;(try simp at hy1);repeat (first | exact Below.refl _ _ | refine Below.trans ?_ ((hb2).mono (by first|omega|(simp<;>omega))) | refine Below.trans ?_ ((h).mono (by first|omega|(simp<;>omega))) | refine Below.alloc ?_ (by first|omega|(simp<;>omega)) _ | refine Below.setCell ?_ (by first|omega|(simp<;>omega)) _ | refine below_drewN ?_ _ | refine Below.drew ?_))
    by_cases h4:g.size<(g.init.length:Int)
    · have Hr:Hid (checkF ⟨gs,fs⟩=(9,(k:Int))):=HrK.out _ (by simp only [globErr,h1,h2',h3,h4];simp) (by omega)
      clear hwb;go_wp2_with (first | (go_at_call 19;((with_reducible refine (fault_any _ _ _).mono ?_);rintro e w2 ⟨rfl,hb2⟩;obtain⟨hc2,hf2⟩:=below_cells hb2)) | (go_at_call 20;((with_reducible refine (name_any _ _).mono ?_);rintro e w' ⟨rfl,rfl⟩)) | (go_at_call 21;((with_reducible refine (containsStr_any (S:=fun b=>w.heap.size+2≤b) _ names _ _ ?_).mono ?_);refine Hnm.out.later rStr_mono ?_;(repeat (first | exact Below.refl _ _ | refine Below.alloc ?_ (by first|omega|(simp<;>omega)) _ | refine Below.setCell ?_ (by first|omega|(simp<;>omega)) _ | refine below_drewN ?_ _ | refine Below.drew ?_));rintro e w' ⟨rfl,rfl⟩)) | (go_at_call 22;((with_reducible refine (within_any _ _ _ _).mono ?_);rintro e w' ⟨rfl,rfl⟩)));have hq:Below wr.heap.size wr w2:=by (have hz0:=(hb2).size;have hy0:=hz0;(try simp at hy0);repeat (first | exact Below.refl _ _ | refine Below.trans ?_ ((hb2).mono (by first|omega|(simp<;>omega))) | refine Below.alloc ?_ (by first|omega|(simp<;>omega)) _ | refine Below.setCell ?_ (by first|omega|(simp<;>omega)) _ | refine below_drewN ?_ _ | refine Below.drew ?_))
      have q:=set_two (u := .int .i64 (checkF ⟨gs,fs⟩).1) (v := .int .i64 (checkF ⟨gs,fs⟩).2) (cell_later' R0.out hq) (cell_later' R1.out hq);rw [Hr.out] at q ⊢;refine bodyPost_ret (res_two rfl rfl q.1 q.2) rfl ⟨rfl,?_⟩;have h:=Hwr.out;(have hz0:=(hb2).size;have hy0:=hz0;(try simp at hy0);have hz1:=(h).size;have hy1:=hz1;(try simp at hy1);repeat (first | exact Below.refl _ _ | refine Below.trans ?_ ((hb2).mono (by first|omega|(simp<;>omega))) | refine Below.trans ?_ ((h).mono (by first|omega|(simp<;>omega))) | refine Below.alloc ?_ (by first|omega|(simp<;>omega)) _ | refine Below.setCell ?_ (by first|omega|(simp<;>omega)) _ | refine below_drewN ?_ _ | refine Below.drew ?_))
    by_cases h5:200<words+g.size
    · have Hr:Hid (checkF ⟨gs,fs⟩=(10,(k:Int))):=HrK.out _ (by simp only [globErr,h1,h2',h3,h4,h5];simp) (by omega)
      go_wp2_with (first | (go_at_call 19;((with_reducible refine (fault_any _ _ _).mono ?_);rintro e w2 ⟨rfl,hb2⟩;obtain⟨hc2,hf2⟩:=below_cells hb2)) | (go_at_call 20;((with_reducible refine (name_any _ _).mono ?_);rintro e w' ⟨rfl,rfl⟩)) | (go_at_call 21;((with_reducible refine (containsStr_any (S:=fun b=>w.heap.size+2≤b) _ names _ _ ?_).mono ?_);refine Hnm.out.later rStr_mono ?_;(repeat (first | exact Below.refl _ _ | refine Below.alloc ?_ (by first|omega|(simp<;>omega)) _ | refine Below.setCell ?_ (by first|omega|(simp<;>omega)) _ | refine below_drewN ?_ _ | refine Below.drew ?_));rintro e w' ⟨rfl,rfl⟩)) | (go_at_call 22;((with_reducible refine (within_any _ _ _ _).mono ?_);rintro e w' ⟨rfl,rfl⟩)));have hq:Below wr.heap.size wr w2:=by (have hz0:=(hb2).size;have hy0:=hz0;(try simp at hy0);repeat (first | exact Below.refl _ _ | refine Below.trans ?_ ((hb2).mono (by first|omega|(simp<;>omega))) | refine Below.alloc ?_ (by first|omega|(simp<;>omega)) _ | refine Below.setCell ?_ (by first|omega|(simp<;>omega)) _ | refine below_drewN ?_ _ | refine Below.drew ?_))
      have q:=set_two (u := .int .i64 (checkF ⟨gs,fs⟩).1) (v := .int .i64 (checkF ⟨gs,fs⟩).2) (cell_later' R0.out hq) (cell_later' R1.out hq);rw [Hr.out] at q ⊢;refine bodyPost_ret (res_two rfl rfl q.1 q.2) rfl ⟨rfl,?_⟩;have h:=Hwr.out;(have hz0:=(hb2).size;have hy0:=hz0;(try simp at hy0);have hz1:=(h).size;have hy1:=hz1;(try simp at hy1);repeat (first | exact Below.refl _ _ | refine Below.trans ?_ ((hb2).mono (by first|omega|(simp<;>omega))) | refine Below.trans ?_ ((h).mono (by first|omega|(simp<;>omega))) | refine Below.alloc ?_ (by first|omega|(simp<;>omega)) _ | refine Below.setCell ?_ (by first|omega|(simp<;>omega)) _ | refine below_drewN ?_ _ | refine Below.drew ?_))
    have He0:Hid (globE gs k=0):=by
     show globE gs k=0;rw [Hgk.out,←Hge.out,←Hnames.out,←Hwords.out];simp only [globErr,h1,h2',h3,h4,h5];simp
    have hnn:names.length≤10:=by rw [Hnames.out];simp [gNames];omega
    have Hnn:=hid hnn;clear hnn;go_wp2_with (first | (at_builtin;refine wpList_append_own _ rfl _ _ 46 rfl (w.heap.size+2) 9 i0 (.string ByteArray.empty) 1 16 Tryz.underlying46 hi hz0 hz1 hz2 rfl (by decide) _ _ _ rfl ((Hown.out.alloc _).alloc _) ⟨wr.heap.size+1,0,none⟩ 1 1 [.string g.name] rfl rfl ?_ ?_ ?_ ?_ ?_ ?_) | (go_at_call 19;((with_reducible refine (fault_any _ _ _).mono ?_);rintro e w2 ⟨rfl,hb2⟩;obtain⟨hc2,hf2⟩:=below_cells hb2)) | (go_at_call 20;((with_reducible refine (name_any _ _).mono ?_);rintro e w' ⟨rfl,rfl⟩)) | (go_at_call 21;((with_reducible refine (containsStr_any (S:=fun b=>w.heap.size+2≤b) _ names _ _ ?_).mono ?_);refine Hnm.out.later rStr_mono ?_;(repeat (first | exact Below.refl _ _ | refine Below.alloc ?_ (by first|omega|(simp<;>omega)) _ | refine Below.setCell ?_ (by first|omega|(simp<;>omega)) _ | refine below_drewN ?_ _ | refine Below.drew ?_));rintro e w' ⟨rfl,rfl⟩)) | (go_at_call 22;((with_reducible refine (within_any _ _ _ _).mono ?_);rintro e w' ⟨rfl,rfl⟩)))
    · have h:=cell_one_new (wr.alloc (.cells #[.string g.name,.int .i64 g.size,.slice xa g.init.length xc] 48)) (.string g.name) 9
      simpa using h
    · intro u hu;simp at hu;subst hu;rfl
    · have:=Hnn.out;simp;unfold maxLen;omega
    · have:=Hnn.out;simp;omega
    · simp;omega
    · intro v' w2 hown hgrow hnil
      have Hown2:=hid hown;have Hbw2:Hid (Below (w.heap.size+2) ((w.alloc (.cells #[.slice (some ⟨b,off,none⟩) gs.length gc,.slice fa fs.length fc] 25)).alloc (.cells #[.int .i64 0,.int .i64 0] 27)) w2):=by
       refine ((Hbw.out.alloc (by omega) _).alloc (by simp;omega) _).grown hgrow (by simp;omega) (fun q hq=>?_);exact ((Hown.out.lt q hq).1)
      have hsz2:=Hbw2.out.size;have hgs:=hgrow.size;have e1:w2.cell? ⟨wr.heap.size,1,none⟩=some (.int .i64 g.size):=hgrow.cell (by simp) (fun h=>absurd (Hown.out.lt _ h.symm).2 (Nat.lt_irrefl _));have Hwr2:Hid (Below w.heap.size w w2):=(HW0.out _ _).trans (Hbw2.out.mono (by omega));clear hown hgrow hnil hsz2 hgs;go_wp2_with fail;go_roundw
      case rel =>
       refine⟨k+1,_,by omega,by go_num,rfl,?_,ext_lt Hall.out He0.out,?_,Hbw2.out⟩
       · rw [wordsUp_succ hlt,←Hwords.out,←Hge.out]
       · rw [gNames_succ hlt,←Hnames.out,←Hge.out]
         simpa using Hown2.out
      case measure=>simp [intOf];omega
  · obtain rfl:k=gs.length:=by omega
    have Hp1:Hid (posF (globE gs) gs.length=gs.length):=posF_all Hall.out;have Hown1:Hid (wr.ownsRow (w.heap.size+2) 9 1 (.slice na (gNames gs gs.length).length nc) (fNames gs fs 0).length ((fNames gs fs 0).map Value.string)):=by
     have:fNames gs fs 0=gNames gs gs.length:=by simp [fNames]
     rw [this];exact Hown.out
    go_wp2_with fail;obtain⟨wl,rfl⟩:∃wl:World,wl=wr:=⟨_,rfl⟩
    have Hbl:=hid Hbw.out;clear hc1 hf1 R0 R1 Hnm hnl hwb Hown;go_loopw [3,82] (fun v3 i wr=>∃(k:Nat) (nv:Value),k≤fs.length∧i = .int .i64 k∧nv=v3∧(∀j,j<k→headsE gs fs j=0)∧wr.ownsRow (w.heap.size+2) 9 1 nv (fNames gs fs k).length ((fNames gs fs k).map Value.string)∧Below (w.heap.size+2) ((w.alloc (.cells #[.slice ga gs.length gc,.slice fa fs.length fc] 25)).alloc (.cells #[.int .i64 0,.int .i64 0] 27)) wr) (fun _ i _=>fs.length - (intOf i).toNat)
    case atStart=>exact⟨0,_,Nat.zero_le _,rfl,rfl,fun j hj=>by omega,Hown1.out,Hbl.out⟩
    case round =>
     obtain⟨k,nv,hk,rfl,rfl,hall,hown,hbw⟩:=hrel;have Hall2:=hid hall;have Hown:=hid hown;have Hbw:=hid hbw;have Hwr:Hid (Below w.heap.size w wr):=(HW0.out _ _).trans (hbw.mono (by omega));have Hnm:Hid (SlAt (fun b=>w.heap.size+2≤b) wr 1 rStr nv (fNames gs fs k)):=own_strs hown;obtain⟨na,nc,rfl,hnl⟩:=Hnm.out.val;obtain⟨hc1,hf1⟩:=below_cells hbw;have hz3:w.heap.size+1<wr.heap.size:=by have:=hbw.size;simp at this;omega
     have hz4:w.heap.size<wr.heap.size:=by omega
     have R0:Hid (wr.cell? ⟨w.heap.size+1,0,none⟩=some (.int .i64 0)):=by show _=_;rw [hc1 _ _ (by omega)];simp
     have R1:Hid (wr.cell? ⟨w.heap.size+1,1,none⟩=some (.int .i64 0)):=by show _=_;rw [hc1 _ _ (by omega)];simp
     have F0:Hid (wr.frozen? ⟨w.heap.size+1,0,none⟩=false):=by show _=_;rw [hf1 _ _ (by omega)];simp
     have F1:Hid (wr.frozen? ⟨w.heap.size+1,1,none⟩=false):=by show _=_;rw [hf1 _ _ (by omega)];simp
     clear hall hown hbw
     by_cases hlt:k<fs.length
     · obtain⟨b,off,cs,rfl,-,hx,-,hcs⟩:=Hf.out.get hlt
       obtain⟨xa,xc,rfl,hbs,hxl,hp64,hr64⟩:=hx.opens;obtain⟨c0,c1,c2,c3⟩:=(hcs.later Hwr.out).get4;have Hbs:=hid hbs;have Hp64:=hid hp64;have Hr64:=hid hr64;have Hmm:Hid (manyOf fs[k].blocks≤1048576):=(Hsm.out k _ (List.getElem?_eq_getElem hlt)).1;have Hgk:Hid (headsE gs fs k=headE (fNames gs fs k) fs[k]):=by show headsE gs fs k=_;unfold headsE;rw [List.getElem?_eq_getElem hlt]
       obtain⟨names,hnames⟩:∃names,names=fNames gs fs k:=⟨_,rfl⟩
       obtain⟨f,hfe⟩:∃f,f=fs[k]:=⟨_,rfl⟩
       rw [←hnames] at Hnm Hown hnl Hgk ⊢;rw [←hfe] at c0 c1 c2 c3 hxl Hbs Hp64 Hr64 Hmm Hgk;have Hnames:=hid hnames;have Hfe:=hid hfe;clear hcs hx hbs hp64 hr64 hnames hfe
       by_cases hz:headE names f=0
       case neg =>
        have hz':=ne_yes hz;have Hr:Hid (checkF ⟨gs,fs⟩=(headE names f,(k:Int))):=by
         have h:=posF_at Hall2.out hlt (by rw [Hgk.out];exact hz);show checkF ⟨gs,fs⟩=_;unfold checkF;dsimp only;rw [if_neg Hlen.out,Hp1.out,if_neg (Nat.lt_irrefl _),h,if_pos hlt,Hgk.out]
        clear hz;go_wp2_with (first | (go_at_call 19;((with_reducible refine (fault_any _ _ _).mono ?_);rintro e w2 ⟨rfl,hb2⟩;have hq:Below wr.heap.size wr w2:=(by (have hz0:=(hb2).size;have hy0:=hz0;(try simp at hy0);have hz1:=(hb5).size;have hy1:=hz1;(try simp at hy1);repeat (first | exact Below.refl _ _ | refine Below.trans ?_ ((hb2).mono (by first|omega|(simp<;>omega))) | refine Below.trans ?_ ((hb5).mono (by first|omega|(simp<;>omega))) | refine Below.alloc ?_ (by first|omega|(simp<;>omega)) _ | refine Below.setCell ?_ (by first|omega|(simp<;>omega)) _ | refine below_drewN ?_ _ | refine Below.drew ?_)));have g0:=cell_later' R0.out hq;have g1:=cell_later' R1.out hq;have f0:=(hq.frozen (p:=⟨w.heap.size+1,0,none⟩) hz3).trans F0.out;have f1:=(hq.frozen (p:=⟨w.heap.size+1,1,none⟩) hz3).trans F1.out)) | (go_at_call 23;((with_reducible refine (head_any (S:=S) (S':=fun b=>w.heap.size+2≤b) _ _ f _ _ _ names _ ?_ ?_ Hmm.out Hp64.out Hr64.out).mono ?_);refine Hbs.out.later rBlock_mono ?_;have h:=Hwr.out;(have hz0:=(h).size;have hy0:=hz0;(try simp at hy0);repeat (first | exact Below.refl _ _ | refine Below.trans ?_ ((h).mono (by first|omega|(simp<;>omega))) | refine Below.alloc ?_ (by first|omega|(simp<;>omega)) _ | refine Below.setCell ?_ (by first|omega|(simp<;>omega)) _ | refine below_drewN ?_ _ | refine Below.drew ?_));refine Hnm.out.later rStr_mono ?_;(repeat (first | exact Below.refl _ _ | refine Below.alloc ?_ (by first|omega|(simp<;>omega)) _ | refine Below.setCell ?_ (by first|omega|(simp<;>omega)) _ | refine below_drewN ?_ _ | refine Below.drew ?_));rintro e w5 ⟨rfl,hb5⟩;have hz5:wr.heap.size+1<w5.heap.size:=(by have:=hb5.size;simp at this;omega);obtain⟨hc5,hf5⟩:=below_cells hb5;have Hown5:=hid (ownsRow_later Hown.out (by (have hz0:=(hb5).size;have hy0:=hz0;(try simp at hy0);repeat (first | exact Below.refl _ _ | refine Below.trans ?_ ((hb5).mono (by first|omega|(simp<;>omega))) | refine Below.alloc ?_ (by first|omega|(simp<;>omega)) _ | refine Below.setCell ?_ (by first|omega|(simp<;>omega)) _ | refine below_drewN ?_ _ | refine Below.drew ?_)):Below wr.heap.size wr w5)))));have q:=set_two (u := .int .i64 (checkF ⟨gs,fs⟩).1) (v := .int .i64 (checkF ⟨gs,fs⟩).2) (cell_later' R0.out hq) (cell_later' R1.out hq);rw [Hr.out] at q ⊢;refine bodyPost_ret (res_two rfl rfl q.1 q.2) rfl ⟨rfl,?_⟩;have h:=Hwr.out;(have hz0:=(hb2).size;have hy0:=hz0;(try simp at hy0);have hz1:=(hb5).size;have hy1:=hz1;(try simp at hy1);have hz2:=(h).size;have hy2:=hz2;(try simp at hy2);repeat (first | exact Below.refl _ _ | refine Below.trans ?_ ((hb2).mono (by first|omega|(simp<;>omega))) | refine Below.trans ?_ ((hb5).mono (by first|omega|(simp<;>omega))) | refine Below.trans ?_ ((h).mono (by first|omega|(simp<;>omega))) | refine Below.alloc ?_ (by first|omega|(simp<;>omega)) _ | refine Below.setCell ?_ (by first|omega|(simp<;>omega)) _ | refine below_drewN ?_ _ | refine Below.drew ?_))
       have He0:Hid (headsE gs fs k=0):=Hgk.out.trans hz;have hnn:names.length≤20:=by rw [Hnames.out];simp [fNames,gNames];omega
       have Hnn:=hid hnn;clear hnn;go_wp2_with (first | (at_builtin;refine wpList_append_own _ rfl _ _ 46 rfl (w.heap.size+2) 9 i0 (.string ByteArray.empty) 1 16 Tryz.underlying46 hi hz0 hz1 hz2 rfl (by decide) _ _ _ rfl (Hown5.out.alloc _) ⟨w5.heap.size,0,none⟩ 1 1 [.string f.name] rfl rfl (cell_one_new _ _ _) ?_ ?_ ?_ ?_ ?_) | (go_at_call 23;((with_reducible refine (head_any (S:=S) (S':=fun b=>w.heap.size+2≤b) _ _ f _ _ _ names _ ?_ ?_ Hmm.out Hp64.out Hr64.out).mono ?_);refine Hbs.out.later rBlock_mono ?_;have h:=Hwr.out;(have hz0:=(h).size;have hy0:=hz0;(try simp at hy0);repeat (first | exact Below.refl _ _ | refine Below.trans ?_ ((h).mono (by first|omega|(simp<;>omega))) | refine Below.alloc ?_ (by first|omega|(simp<;>omega)) _ | refine Below.setCell ?_ (by first|omega|(simp<;>omega)) _ | refine below_drewN ?_ _ | refine Below.drew ?_));refine Hnm.out.later rStr_mono ?_;(repeat (first | exact Below.refl _ _ | refine Below.alloc ?_ (by first|omega|(simp<;>omega)) _ | refine Below.setCell ?_ (by first|omega|(simp<;>omega)) _ | refine below_drewN ?_ _ | refine Below.drew ?_));rintro e w5 ⟨rfl,hb5⟩;have hz5:wr.heap.size+1<w5.heap.size:=(by have:=hb5.size;simp at this;omega);obtain⟨hc5,hf5⟩:=below_cells hb5;have Hown5:=hid (ownsRow_later Hown.out (by (have hz0:=(hb5).size;have hy0:=hz0;(try simp at hy0);repeat (first | exact Below.refl _ _ | refine Below.trans ?_ ((hb5).mono (by first|omega|(simp<;>omega))) | refine Below.alloc ?_ (by first|omega|(simp<;>omega)) _ | refine Below.setCell ?_ (by first|omega|(simp<;>omega)) _ | refine below_drewN ?_ _ | refine Below.drew ?_)):Below wr.heap.size wr w5)))))
       · intro u hu;simp at hu;subst hu;rfl
       · have:=Hnn.out;simp;unfold maxLen;omega
       · have:=Hnn.out;simp;omega
       · have:=Hbw.out.size;simp at this;simp;omega
       · intro v' w6 hown hgrow hnil
         have Hown6:=hid hown;have Hbw6:Hid (Below (w.heap.size+2) ((w.alloc (.cells #[.slice ga gs.length gc,.slice (some ⟨b,off,none⟩) fs.length fc] 25)).alloc (.cells #[.int .i64 0,.int .i64 0] 27)) w6):=by
          have hq:Below wr.heap.size wr w5:=by (have hz0:=(hb5).size;have hy0:=hz0;(try simp at hy0);repeat (first | exact Below.refl _ _ | refine Below.trans ?_ ((hb5).mono (by first|omega|(simp<;>omega))) | refine Below.alloc ?_ (by first|omega|(simp<;>omega)) _ | refine Below.setCell ?_ (by first|omega|(simp<;>omega)) _ | refine below_drewN ?_ _ | refine Below.drew ?_))
          refine (((Hbw.out.trans (hq.mono (by omega))).alloc (by omega) _)).grown hgrow (by simp;omega) (fun q hq=>?_);exact ((Hown.out.lt q hq).1)
         clear hown hgrow hnil;go_wp2_with fail;go_roundw
         case rel =>
          refine⟨k+1,_,by omega,by go_num,rfl,ext_lt Hall2.out He0.out,?_,Hbw6.out⟩;rw [fNames_succ hlt,←Hnames.out,←Hfe.out];simpa using Hown6.out
         case measure=>simp [intOf];omega
     · obtain rfl:k=fs.length:=by omega
       have Hp2:Hid (posF (headsE gs fs) fs.length=fs.length):=posF_all Hall2.out;have Hok:Hid (∀(j:Nat) (x:DFunc),fs[j]?=some x→0≤x.regs∧x.regs≤100):=fun j x hx=>by
        have hj:=(List.getElem?_eq_some_iff.1 hx).1;have:=Hall2.out j hj;unfold headsE at this;rw [hx] at this;have h:=headE_ok this;omega
       go_wp2_with fail;obtain⟨wl2,rfl⟩:∃wl2:World,wl2=wr:=⟨_,rfl⟩
       have Hbl2:=hid Hbw.out;clear hc1 hf1 R0 R1 F0 F1 Hnm hnl Hown;go_loopw [107] (fun i wr=>∃k:Nat,k≤fs.length∧i = .int .i64 k∧(∀j,j<k→bodiesE fs j=0)∧Below (w.heap.size+2) ((w.alloc (.cells #[.slice ga gs.length gc,.slice fa fs.length fc] 25)).alloc (.cells #[.int .i64 0,.int .i64 0] 27)) wr) (fun i _=>fs.length - (intOf i).toNat)
       case atStart=>exact⟨0,Nat.zero_le _,rfl,fun j hj=>by omega,Hbl2.out⟩
       case round =>
        obtain⟨k,hk,rfl,hall,hbw⟩:=hrel;have Hall3:=hid hall;have Hbw:=hid hbw;have Hwr:Hid (Below w.heap.size w wr):=(HW0.out _ _).trans (hbw.mono (by omega));obtain⟨hc1,hf1⟩:=below_cells hbw;have hz3:w.heap.size+1<wr.heap.size:=by have:=hbw.size;simp at this;omega
        have hz4:w.heap.size<wr.heap.size:=by omega
        have R0:Hid (wr.cell? ⟨w.heap.size+1,0,none⟩=some (.int .i64 0)):=by show _=_;rw [hc1 _ _ (by omega)];simp
        have R1:Hid (wr.cell? ⟨w.heap.size+1,1,none⟩=some (.int .i64 0)):=by show _=_;rw [hc1 _ _ (by omega)];simp
        have F0:Hid (wr.frozen? ⟨w.heap.size+1,0,none⟩=false):=by show _=_;rw [hf1 _ _ (by omega)];simp
        have F1:Hid (wr.frozen? ⟨w.heap.size+1,1,none⟩=false):=by show _=_;rw [hf1 _ _ (by omega)];simp
        clear hall hbw
        by_cases hlt:k<fs.length
        · obtain⟨b,off,cs,rfl,-,hx,-,hcs⟩:=Hf.out.get hlt
          obtain⟨xa,xc,rfl,hbs,hxl,hp64,hr64⟩:=hx.opens;obtain⟨c0,c1,c2,c3⟩:=(hcs.later Hwr.out).get4;have Hbs:=hid hbs;have Hbb:Hid (fs[k].blocks.length≤1048576):=(Hsm.out k _ (List.getElem?_eq_getElem hlt)).2;have Hr0:Hid (0≤fs[k].regs):=(Hok.out k _ (List.getElem?_eq_getElem hlt)).1;have Hr1:Hid (fs[k].regs≤100):=(Hok.out k _ (List.getElem?_eq_getElem hlt)).2;have Hgk:Hid (bodiesE fs k=bodyE fs fs[k]):=by show bodiesE fs k=_;unfold bodiesE;rw [List.getElem?_eq_getElem hlt]
          obtain⟨f,hfe⟩:∃f,f=fs[k]:=⟨_,rfl⟩
          rw [←hfe] at c0 c1 c2 c3 hxl Hbs Hbb Hr0 Hr1 Hgk;have Hfe:=hid hfe;have Hfl:=hid hfl10;clear hcs hx hbs hp64 hr64 hfe
          by_cases hz:bodyE fs f=0
          · go_wp2_with (go_at_call 24;go_must ((with_reducible refine (body_any (S:=S) (S':=S) _ _ _ fs _ _ f _ _ _ _ _ _ Hr0.out Hr1.out ?_ ?_ (Nat.le_trans Hfl.out (by omega)) Hbb.out ?_).mono ?_);refine Hf.out.later rFunc_mono ?_;have h:=Hwr.out;(have hz0:=(h).size;have hy0:=hz0;(try simp at hy0);repeat (first | exact Below.refl _ _ | refine Below.trans ?_ ((h).mono (by first|omega|(simp<;>omega))) | refine Below.alloc ?_ (by first|omega|(simp<;>omega)) _ | refine Below.setCell ?_ (by first|omega|(simp<;>omega)) _ | refine below_drewN ?_ _ | refine Below.drew ?_));refine Hbs.out.later rBlock_mono ?_;have h:=Hwr.out;(have hz0:=(h).size;have hy0:=hz0;(try simp at hy0);repeat (first | exact Below.refl _ _ | refine Below.trans ?_ ((h).mono (by first|omega|(simp<;>omega))) | refine Below.alloc ?_ (by first|omega|(simp<;>omega)) _ | refine Below.setCell ?_ (by first|omega|(simp<;>omega)) _ | refine below_drewN ?_ _ | refine Below.drew ?_));refine Ways.below Hw.out ?_;have h:=Hwr.out;(have hz0:=(h).size;have hy0:=hz0;(try simp at hy0);repeat (first | exact Below.refl _ _ | refine Below.trans ?_ ((h).mono (by first|omega|(simp<;>omega))) | refine Below.alloc ?_ (by first|omega|(simp<;>omega)) _ | refine Below.setCell ?_ (by first|omega|(simp<;>omega)) _ | refine below_drewN ?_ _ | refine Below.drew ?_));rintro e w5 ⟨rfl,hb5⟩;have hz5:wr.heap.size+1<w5.heap.size:=(by have:=hb5.size;simp at this;omega);obtain⟨hc5,hf5⟩:=below_cells hb5))
            go_roundw
            case rel=>exact⟨k+1,by omega,by go_num,ext_lt Hall3.out (Hgk.out.trans hz),by have h:=Hbw.out;(have hz0:=(hb5).size;have hy0:=hz0;(try simp at hy0);have hz1:=(h).size;have hy1:=hz1;(try simp at hy1);repeat (first | exact Below.refl _ _ | refine Below.trans ?_ ((hb5).mono (by first|omega|(simp<;>omega))) | refine Below.trans ?_ ((h).mono (by first|omega|(simp<;>omega))) | refine Below.alloc ?_ (by first|omega|(simp<;>omega)) _ | refine Below.setCell ?_ (by first|omega|(simp<;>omega)) _ | refine below_drewN ?_ _ | refine Below.drew ?_))⟩
            case measure=>simp [intOf];omega
          · have hz':=ne_yes hz
            have Hr:Hid (checkF ⟨gs,fs⟩=(bodyE fs f,(k:Int))):=by
             have h:=posF_at Hall3.out hlt (by rw [Hgk.out];exact hz);show checkF ⟨gs,fs⟩=_;unfold checkF;dsimp only;rw [if_neg Hlen.out,Hp1.out,if_neg (Nat.lt_irrefl _),Hp2.out,if_neg (Nat.lt_irrefl _),h,if_pos hlt,Hgk.out]
            clear hz;go_wp2_with (first | (go_at_call 19;((with_reducible refine (fault_any _ _ _).mono ?_);rintro e w2 ⟨rfl,hb2⟩;have hq:Below wr.heap.size wr w2:=(by (have hz0:=(hb2).size;have hy0:=hz0;(try simp at hy0);have hz1:=(hb5).size;have hy1:=hz1;(try simp at hy1);repeat (first | exact Below.refl _ _ | refine Below.trans ?_ ((hb2).mono (by first|omega|(simp<;>omega))) | refine Below.trans ?_ ((hb5).mono (by first|omega|(simp<;>omega))) | refine Below.alloc ?_ (by first|omega|(simp<;>omega)) _ | refine Below.setCell ?_ (by first|omega|(simp<;>omega)) _ | refine below_drewN ?_ _ | refine Below.drew ?_)));have g0:=cell_later' R0.out hq;have g1:=cell_later' R1.out hq;have f0:=(hq.frozen (p:=⟨w.heap.size+1,0,none⟩) hz3).trans F0.out;have f1:=(hq.frozen (p:=⟨w.heap.size+1,1,none⟩) hz3).trans F1.out)) | (go_at_call 24;go_must ((with_reducible refine (body_any (S:=S) (S':=S) _ _ _ fs _ _ f _ _ _ _ _ _ Hr0.out Hr1.out ?_ ?_ (Nat.le_trans Hfl.out (by omega)) Hbb.out ?_).mono ?_);refine Hf.out.later rFunc_mono ?_;have h:=Hwr.out;(have hz0:=(h).size;have hy0:=hz0;(try simp at hy0);repeat (first | exact Below.refl _ _ | refine Below.trans ?_ ((h).mono (by first|omega|(simp<;>omega))) | refine Below.alloc ?_ (by first|omega|(simp<;>omega)) _ | refine Below.setCell ?_ (by first|omega|(simp<;>omega)) _ | refine below_drewN ?_ _ | refine Below.drew ?_));refine Hbs.out.later rBlock_mono ?_;have h:=Hwr.out;(have hz0:=(h).size;have hy0:=hz0;(try simp at hy0);repeat (first | exact Below.refl _ _ | refine Below.trans ?_ ((h).mono (by first|omega|(simp<;>omega))) | refine Below.alloc ?_ (by first|omega|(simp<;>omega)) _ | refine Below.setCell ?_ (by first|omega|(simp<;>omega)) _ | refine below_drewN ?_ _ | refine Below.drew ?_));refine Ways.below Hw.out ?_;have h:=Hwr.out;(have hz0:=(h).size;have hy0:=hz0;(try simp at hy0);repeat (first | exact Below.refl _ _ | refine Below.trans ?_ ((h).mono (by first|omega|(simp<;>omega))) | refine Below.alloc ?_ (by first|omega|(simp<;>omega)) _ | refine Below.setCell ?_ (by first|omega|(simp<;>omega)) _ | refine below_drewN ?_ _ | refine Below.drew ?_));rintro e w5 ⟨rfl,hb5⟩;have hz5:wr.heap.size+1<w5.heap.size:=(by have:=hb5.size;simp at this;omega);obtain⟨hc5,hf5⟩:=below_cells hb5)));have q:=set_two (u := .int .i64 (checkF ⟨gs,fs⟩).1) (v := .int .i64 (checkF ⟨gs,fs⟩).2) (cell_later' R0.out hq) (cell_later' R1.out hq);rw [Hr.out] at q ⊢;refine bodyPost_ret (res_two rfl rfl q.1 q.2) rfl ⟨rfl,?_⟩;have h:=Hwr.out;(have hz0:=(hb2).size;have hy0:=hz0;(try simp at hy0);have hz1:=(hb5).size;have hy1:=hz1;(try simp at hy1);have hz2:=(h).size;have hy2:=hz2;(try simp at hy2);repeat (first | exact Below.refl _ _ | refine Below.trans ?_ ((hb2).mono (by first|omega|(simp<;>omega))) | refine Below.trans ?_ ((hb5).mono (by first|omega|(simp<;>omega))) | refine Below.trans ?_ ((h).mono (by first|omega|(simp<;>omega))) | refine Below.alloc ?_ (by first|omega|(simp<;>omega)) _ | refine Below.setCell ?_ (by first|omega|(simp<;>omega)) _ | refine below_drewN ?_ _ | refine Below.drew ?_))
        · obtain rfl:k=fs.length:=by omega
          have Hp3:Hid (posF (bodiesE fs) fs.length=fs.length):=posF_all Hall3.out;have hck:checkF ⟨gs,fs⟩=lastE fs:=by
           unfold checkF;dsimp only;rw [if_neg Hlen.out,Hp1.out,if_neg (Nat.lt_irrefl _),Hp2.out,if_neg (Nat.lt_irrefl _),Hp3.out,if_neg (Nat.lt_irrefl _)]
          have Hck:=hid hck;have Hfl:=hid hfl10;clear hck
          by_cases hm:idxMain fs<0
          · have Hr:Hid (checkF ⟨gs,fs⟩=(6,0)):=by show checkF ⟨gs,fs⟩=_;rw [Hck.out];unfold lastE;rw [if_pos hm]
            go_wp2_with (first | (go_at_call 19;((with_reducible refine (fault_any _ _ _).mono ?_);rintro e w2 ⟨rfl,hb2⟩;have hq:Below wr.heap.size wr w2:=(by (have hz0:=(hb2).size;have hy0:=hz0;(try simp at hy0);have hz1:=(hb5).size;have hy1:=hz1;(try simp at hy1);repeat (first | exact Below.refl _ _ | refine Below.trans ?_ ((hb2).mono (by first|omega|(simp<;>omega))) | refine Below.trans ?_ ((hb5).mono (by first|omega|(simp<;>omega))) | refine Below.alloc ?_ (by first|omega|(simp<;>omega)) _ | refine Below.setCell ?_ (by first|omega|(simp<;>omega)) _ | refine below_drewN ?_ _ | refine Below.drew ?_)));have g0:=cell_later' R0.out hq;have g1:=cell_later' R1.out hq;have f0:=(hq.frozen (p:=⟨w.heap.size+1,0,none⟩) hz3).trans F0.out;have f1:=(hq.frozen (p:=⟨w.heap.size+1,1,none⟩) hz3).trans F1.out)) | (go_at_call 25;((with_reducible refine (indexMain_any (S:=S) _ _ fs _ ?_ (Nat.le_trans Hfl.out (by omega))).mono ?_);refine Hf.out.later rFunc_mono ?_;have h:=Hwr.out;(have hz0:=(h).size;have hy0:=hz0;(try simp at hy0);repeat (first | exact Below.refl _ _ | refine Below.trans ?_ ((h).mono (by first|omega|(simp<;>omega))) | refine Below.alloc ?_ (by first|omega|(simp<;>omega)) _ | refine Below.setCell ?_ (by first|omega|(simp<;>omega)) _ | refine below_drewN ?_ _ | refine Below.drew ?_));rintro e w5 ⟨rfl,hb5⟩;have hz5:w.heap.size+1<w5.heap.size:=(by have:=hb5.size;omega);have hz6:w.heap.size<w5.heap.size:=(by omega);obtain⟨hc5,hf5⟩:=below_cells hb5;have g0:=cell_later' R0.out hb5;have g1:=cell_later' R1.out hb5;have f0:=(hb5.frozen (p:=⟨w.heap.size+1,0,none⟩) hz3).trans F0.out;have f1:=(hb5.frozen (p:=⟨w.heap.size+1,1,none⟩) hz3).trans F1.out)));have q:=set_two (u := .int .i64 (checkF ⟨gs,fs⟩).1) (v := .int .i64 (checkF ⟨gs,fs⟩).2) (cell_later' R0.out hq) (cell_later' R1.out hq);rw [Hr.out] at q ⊢;refine bodyPost_ret (res_two rfl rfl q.1 q.2) rfl ⟨rfl,?_⟩;have h:=Hwr.out;(have hz0:=(hb2).size;have hy0:=hz0;(try simp at hy0);have hz1:=(hb5).size;have hy1:=hz1;(try simp at hy1);have hz2:=(h).size;have hy2:=hz2;(try simp at hy2);repeat (first | exact Below.refl _ _ | refine Below.trans ?_ ((hb2).mono (by first|omega|(simp<;>omega))) | refine Below.trans ?_ ((hb5).mono (by first|omega|(simp<;>omega))) | refine Below.trans ?_ ((h).mono (by first|omega|(simp<;>omega))) | refine Below.alloc ?_ (by first|omega|(simp<;>omega)) _ | refine Below.setCell ?_ (by first|omega|(simp<;>omega)) _ | refine below_drewN ?_ _ | refine Below.drew ?_))
          · obtain⟨m,hm1,hm2⟩:=idxMain_lt hm
            obtain⟨b,off,cs,rfl,-,hx,-,hcs⟩:=Hf.out.get hm1;obtain⟨xa,xc,rfl,-,-,hp64,-⟩:=hx.opens;obtain⟨c0,c1,c2,c3⟩:=(hcs.later Hwr.out).get4;have hbb:=cell_lt c1;have Hgd:Hid ((fs.getD (idxMain fs).toNat ⟨ByteArray.empty,0,0,[]⟩).params=fs[m].params):=by
             show _=_;rw [hm2,Int.toNat_natCast,List.getD_eq_getElem?_getD,List.getElem?_eq_getElem hm1];rfl
            have Hm:=hid hm;unfold I64 at hp64;clear hcs hx hm
            by_cases hpz:0<fs[m].params
            · have Hr:Hid (checkF ⟨gs,fs⟩=(5,(m:Int))):=by show checkF ⟨gs,fs⟩=_;rw [Hck.out];unfold lastE;rw [if_neg Hm.out,Hgd.out,if_pos hpz,hm2]
              go_wp2_with (first | (go_at_call 19;((with_reducible refine (fault_any _ _ _).mono ?_);rintro e w2 ⟨rfl,hb2⟩;have hq:Below wr.heap.size wr w2:=(by (have hz0:=(hb2).size;have hy0:=hz0;(try simp at hy0);have hz1:=(hb5).size;have hy1:=hz1;(try simp at hy1);repeat (first | exact Below.refl _ _ | refine Below.trans ?_ ((hb2).mono (by first|omega|(simp<;>omega))) | refine Below.trans ?_ ((hb5).mono (by first|omega|(simp<;>omega))) | refine Below.alloc ?_ (by first|omega|(simp<;>omega)) _ | refine Below.setCell ?_ (by first|omega|(simp<;>omega)) _ | refine below_drewN ?_ _ | refine Below.drew ?_)));have g0:=cell_later' R0.out hq;have g1:=cell_later' R1.out hq;have f0:=(hq.frozen (p:=⟨w.heap.size+1,0,none⟩) hz3).trans F0.out;have f1:=(hq.frozen (p:=⟨w.heap.size+1,1,none⟩) hz3).trans F1.out)) | (go_at_call 25;((with_reducible refine (indexMain_any (S:=S) _ _ fs _ ?_ (Nat.le_trans Hfl.out (by omega))).mono ?_);refine Hf.out.later rFunc_mono ?_;have h:=Hwr.out;(have hz0:=(h).size;have hy0:=hz0;(try simp at hy0);repeat (first | exact Below.refl _ _ | refine Below.trans ?_ ((h).mono (by first|omega|(simp<;>omega))) | refine Below.alloc ?_ (by first|omega|(simp<;>omega)) _ | refine Below.setCell ?_ (by first|omega|(simp<;>omega)) _ | refine below_drewN ?_ _ | refine Below.drew ?_));rintro e w5 ⟨rfl,hb5⟩;have hz5:w.heap.size+1<w5.heap.size:=(by have:=hb5.size;omega);have hz6:w.heap.size<w5.heap.size:=(by omega);obtain⟨hc5,hf5⟩:=below_cells hb5;have g0:=cell_later' R0.out hb5;have g1:=cell_later' R1.out hb5;have f0:=(hb5.frozen (p:=⟨w.heap.size+1,0,none⟩) hz3).trans F0.out;have f1:=(hb5.frozen (p:=⟨w.heap.size+1,1,none⟩) hz3).trans F1.out)));have q:=set_two (u := .int .i64 (checkF ⟨gs,fs⟩).1) (v := .int .i64 (checkF ⟨gs,fs⟩).2) (cell_later' R0.out hq) (cell_later' R1.out hq);rw [Hr.out] at q ⊢;refine bodyPost_ret (res_two rfl rfl q.1 q.2) rfl ⟨rfl,?_⟩;have h:=Hwr.out;(have hz0:=(hb2).size;have hy0:=hz0;(try simp at hy0);have hz1:=(hb5).size;have hy1:=hz1;(try simp at hy1);have hz2:=(h).size;have hy2:=hz2;(try simp at hy2);repeat (first | exact Below.refl _ _ | refine Below.trans ?_ ((hb2).mono (by first|omega|(simp<;>omega))) | refine Below.trans ?_ ((hb5).mono (by first|omega|(simp<;>omega))) | refine Below.trans ?_ ((h).mono (by first|omega|(simp<;>omega))) | refine Below.alloc ?_ (by first|omega|(simp<;>omega)) _ | refine Below.setCell ?_ (by first|omega|(simp<;>omega)) _ | refine below_drewN ?_ _ | refine Below.drew ?_))
            · have Hr:Hid (checkF ⟨gs,fs⟩=(0,0)):=by show checkF ⟨gs,fs⟩=_;rw [Hck.out];unfold lastE;rw [if_neg Hm.out,Hgd.out,if_neg hpz]
              go_wp2_with (go_at_call 25;((with_reducible refine (indexMain_any (S:=S) _ _ fs _ ?_ (Nat.le_trans Hfl.out (by omega))).mono ?_);refine Hf.out.later rFunc_mono ?_;have h:=Hwr.out;(have hz0:=(h).size;have hy0:=hz0;(try simp at hy0);repeat (first | exact Below.refl _ _ | refine Below.trans ?_ ((h).mono (by first|omega|(simp<;>omega))) | refine Below.alloc ?_ (by first|omega|(simp<;>omega)) _ | refine Below.setCell ?_ (by first|omega|(simp<;>omega)) _ | refine below_drewN ?_ _ | refine Below.drew ?_));rintro e w5 ⟨rfl,hb5⟩;have hz5:w.heap.size+1<w5.heap.size:=(by have:=hb5.size;omega);have hz6:w.heap.size<w5.heap.size:=(by omega);obtain⟨hc5,hf5⟩:=below_cells hb5;have g0:=cell_later' R0.out hb5;have g1:=cell_later' R1.out hb5;have f0:=(hb5.frozen (p:=⟨w.heap.size+1,0,none⟩) hz3).trans F0.out;have f1:=(hb5.frozen (p:=⟨w.heap.size+1,1,none⟩) hz3).trans F1.out));have q:=set_two (u := .int .i64 (checkF ⟨gs,fs⟩).1) (v := .int .i64 (checkF ⟨gs,fs⟩).2) (cell_later' R0.out hb5) (cell_later' R1.out hb5);rw [Hr.out] at q ⊢;refine bodyPost_ret (res_two rfl rfl q.1 q.2) rfl ⟨rfl,?_⟩;have h:=Hwr.out;(have hz0:=(hb5).size;have hy0:=hz0;(try simp at hy0);have hz1:=(h).size;have hy1:=hz1;(try simp at hy1);repeat (first | exact Below.refl _ _ | refine Below.trans ?_ ((hb5).mono (by first|omega|(simp<;>omega))) | refine Below.trans ?_ ((h).mono (by first|omega|(simp<;>omega))) | refine Below.alloc ?_ (by first|omega|(simp<;>omega)) _ | refine Below.setCell ?_ (by first|omega|(simp<;>omega)) _ | refine below_drewN ?_ _ | refine Below.drew ?_))

end Go.Proofs.YtnkogppgacappaaGreatDoor

namespace Go.Proofs.YtnkogppgacappaaGreatDoor
open Go.RowKit

theorem checkF_ok {u:DUnit}(h:(checkF u).1=0):u.globals.length≤10∧u.funcs.length≤10∧(∀k,globE u.globals k=0)∧(∀k,headsE u.globals u.funcs k=0)∧(∀k,bodiesE u.funcs k=0):=by
 unfold checkF at h
 by_cases h1:10<u.globals.length∨10<u.funcs.length
 · rw [if_pos h1] at h;simp at h
 rw [if_neg h1] at h
 by_cases h2:posF (globE u.globals) u.globals.length<u.globals.length
 · rw [if_pos h2] at h;exact absurd h (posF_ne h2)
 rw [if_neg h2] at h
 by_cases h3:posF (headsE u.globals u.funcs) u.funcs.length<u.funcs.length
 · rw [if_pos h3] at h;exact absurd h (posF_ne h3)
 rw [if_neg h3] at h
 by_cases h4:posF (bodiesE u.funcs) u.funcs.length<u.funcs.length
 · rw [if_pos h4] at h;exact absurd h (posF_ne h4)
 refine⟨by omega,by omega,fun k=>?_,fun k=>?_,fun k=>?_⟩
 · by_cases hk:k<u.globals.length
   · exact posF_inv h2 k hk
   · unfold globE;rw [List.getElem?_eq_none (by omega)]
 · by_cases hk:k<u.funcs.length
   · exact posF_inv h3 k hk
   · unfold headsE;rw [List.getElem?_eq_none (by omega)]
 · by_cases hk:k<u.funcs.length
   · exact posF_inv h4 k hk
   · unfold bodiesE;rw [List.getElem?_eq_none (by omega)]
end Go.Proofs.YtnkogppgacappaaGreatDoor

namespace Go.Proofs.YtnkogppgacappaaGreatDoor
open Go.RowKit

theorem int_at {S:Nat→Prop}{w:World}{a:Option Addr}{n c:Nat}{l:List Int}(h:SlAt S w 1 rInt (.slice a n c) l){t:Nat}(ht:t<l.length):∃b off,a=some ⟨b,off,none⟩∧w.cell? ⟨b,off+t,none⟩=some (.int .i64 l[t]):=by
 obtain⟨b,off,cs,ha,-,⟨rfl,-⟩,-,hcs⟩:=h.get ht;have d:=hcs.get1;rw [Nat.mul_one] at d;exact⟨b,off,ha,d⟩

set_option maxRecDepth 100000 in
set_option maxHeartbeats 1000000 in
theorem ints_any {S S':Nat→Prop}(a:Option Addr)(c:Nat)(l:List Int)(a':Option Addr)(c':Nat)(l':List Int)(w:World)(h:SlAt S w 1 rInt (.slice a l.length c) l)(h':SlAt S' w 1 rInt (.slice a' l'.length c') l')(hn:l.length≤1048576)(hn':l'.length≤1048576) :
 Calls Tryz.prog 58 #[.slice a l.length c,.slice a' l'.length c'] w fun e w'=>e = .returned (.bool (decide (l=l')))∧Below w.heap.size w w':=by
 have H:=hid h;have H':=hid h';clear h h';go_enter Tryz.func58,Tryz.ntmps58
 by_cases hl:l.length=l'.length
 · go_wp2_with fail
   go_loopw [5] (fun i wr=>∃(k q:Nat),k≤l.length∧i = .int .i64 k∧l.take k=l'.take k∧w.drewN q=wr) (fun i _=>l.length - (intOf i).toNat)
   case atStart=>exact⟨0,0,Nat.zero_le _,rfl,rfl,rfl⟩
   case round =>
    obtain⟨k,q,hk,rfl,htk,rfl⟩:=hrel;have Htk:=hid htk;clear htk
    by_cases hkl:k<l.length
    · have hkl':k<l'.length:=by omega
      obtain⟨b,off,rfl,c0⟩:=int_at H.out hkl;obtain⟨b',off',rfl,d0⟩:=int_at H'.out hkl';have hb1:b<w.heap.size:=cell_lt c0;have hb2:b'<w.heap.size:=cell_lt d0
      by_cases he:l[k]=l'[k]
      · go_wp2_with fail
        go_quiet (fail);go_wp2_with fail;go_roundw
        case rel=>exact⟨k+1,_,by omega,by go_num,by rw [List.take_succ_eq_append_getElem hkl,List.take_succ_eq_append_getElem hkl',Htk.out,he],rfl⟩
        case measure=>simp [intOf];omega
      · go_wp2_with fail
        go_quiet (fail);go_wp2_with fail;have hr:decide (l=l')=false:=decide_eq_false (fun e=>he (by subst e;rfl));rw [hr];go_ret;exact⟨rfl,by (repeat (first | exact Below.refl _ _ | refine Below.alloc ?_ (by first|omega|(simp<;>omega)) _ | refine Below.setCell ?_ (by first|omega|(simp<;>omega)) _ | refine below_drewN ?_ _ | refine Below.drew ?_))⟩
    · obtain rfl:k=l.length:=by omega
      go_wp2_with fail;have hr:decide (l=l')=true:=decide_eq_true (by have h:=Htk.out;rw [List.take_length,hl,List.take_length] at h;exact h);rw [hr];go_ret;exact⟨rfl,by (repeat (first | exact Below.refl _ _ | refine Below.alloc ?_ (by first|omega|(simp<;>omega)) _ | refine Below.setCell ?_ (by first|omega|(simp<;>omega)) _ | refine below_drewN ?_ _ | refine Below.drew ?_))⟩
 · go_wp2_with fail
   have hr:decide (l=l')=false:=decide_eq_false (fun e=>hl (by rw [e]));rw [hr];go_ret;exact⟨rfl,Below.refl _ _⟩

end Go.Proofs.YtnkogppgacappaaGreatDoor

namespace Go.Proofs.YtnkogppgacappaaGreatDoor
open Go.RowKit

def idxInt(l:List Int)(s:Int):Int:=match l.findIdx? (fun x=>decide (s=x)) with | some k=>k | none => -1
set_option maxHeartbeats 1000000 in
theorem indexInt_any {S:Nat→Prop}(ao:Option Addr)(n c:Nat)(l:List Int)(s:Int)(w:World)(h:SlAt S w 1 rInt (.slice ao n c) l)(hn:l.length=n)(hn2:n≤1048576) :
 Calls Tryz.prog 95 #[.slice ao n c,.int .i64 s] w fun e w'=>e = .returned (.int .i64 (idxInt l s))∧w=w':=by
 have Hh:=hid h;have Hn:=hid hn;clear h hn;go_enter Tryz.func95,Tryz.ntmps95;go_wp2_with fail;go_loop [8] (fun i=>∃k:Nat,k≤n∧i = .int .i64 k∧∀j,j<k→∀x,l[j]?=some x→decide (s=x)=false) (fun i=>n - (intOf i).toNat)
 case atStart=>exact⟨0,Nat.zero_le _,rfl,fun j hj=>by omega⟩
 case round =>
  obtain⟨k,hk,rfl,hall⟩:=hrel;have H:=hid hall;clear hall
  by_cases hlt:k<n
  · have hlt':k<l.length:=by rw [Hn.out];exact hlt
    obtain⟨b,off,rfl,hcell⟩:=int_at Hh.out hlt';obtain⟨x,hx⟩:∃x,l[k]=x:=⟨_,rfl⟩
    rw [hx] at hcell;have Hx:Hid (l[k]?=some x):=by show _=_;rw [List.getElem?_eq_getElem hlt',hx]
    have zb:b<w.heap.size:=cell_lt hcell;clear hx hlt'
    by_cases he:s=x
    · have Hi:Hid (idxInt l s=k):=by show _=_;unfold idxInt;rw [idx_some Hx.out (decide_eq_true he) H.out]
      have q0:(decide (s≤x)&&decide (x≤s))=true:=eq_yes he;clear he;go_wp2_with fail;go_ret;exact⟨ret_int Hi.out.symm,rfl⟩
    · have He:Hid (decide (s=x)=false):=decide_eq_false he
      have q0:(decide (s≤x)&&decide (x≤s))=false:=eq_no he;clear he;go_wp2_with fail;go_round
      case rel=>exact⟨k+1,by omega,by go_num,ext_lt H.out (fun y hy=>by rw [Hx.out] at hy;cases hy;exact He.out)⟩
      case measure=>simp [intOf];omega
  · have Hi:Hid (idxInt l s = -1):=by
     show _=_;unfold idxInt;rw [idx_none (fun j x hx=>H.out j (by have:=(List.getElem?_eq_some_iff.1 hx).1;have:=Hn.out;omega) x hx)]
    go_wp2_with fail;go_ret;exact⟨ret_int Hi.out.symm,rfl⟩
end Go.Proofs.YtnkogppgacappaaGreatDoor

namespace Go.Proofs.YtnkogppgacappaaGreatDoor
open Go.RowKit

def cntJ(A:List Int)(t b:Nat)(j:Nat):Nat:=((A.take j).filter fun a=>decide (a<(b:Int))&&decide (a≠(t:Int))).length
theorem cntJ_succ {A:List Int}{t b j:Nat}{a:Int}(h:A[j]?=some a):cntJ A t b (j+1)=cntJ A t b j+if a<(b:Int)∧a≠(t:Int) then 1 else 0:=by
 unfold cntJ;rw [List.take_add_one,h,List.filter_append,List.length_append]
 congr 1
 by_cases h1:a<(b:Int)∧a≠(t:Int)
 · rw [if_pos h1];simp [h1.1,h1.2]
 · rw [if_neg h1]
   have:(decide (a<(b:Int))&&decide (a≠(t:Int)))=false:=by
    rw [Bool.eq_false_iff];intro e;rw [Bool.and_eq_true] at e;exact h1 ⟨of_decide_eq_true e.1,of_decide_eq_true e.2⟩
   rw [Option.toList_some,List.filter_cons_of_neg (by rw [this];exact Bool.false_ne_true)];rfl
theorem cntJ_le(A:List Int)(t b j:Nat):cntJ A t b j≤j:=by
 unfold cntJ;exact Nat.le_trans (List.length_filter_le _ _) (by rw [List.length_take];omega)
theorem cntJ_lt {A:List Int}{t b:Nat}(h:(t:Int)∈A):cntJ A t b A.length+1≤A.length:=by
 unfold cntJ;rw [List.take_length];exact List.length_filter_lt_length_iff_exists.2 ⟨(t:Int),h,by simp⟩
theorem idxInt_at {l:List Int}{s:Int}(h:s∈l):∃k:Nat,idxInt l s=(k:Int)∧k<l.length∧l[k]?=some s:=by
 unfold idxInt;cases hf:l.findIdx? (fun x=>decide (s=x)) with
 | none =>
   rw [List.findIdx?_eq_none_iff] at hf;have:=hf s h;simp at this
 | some k =>
   rw [List.findIdx?_eq_some_iff_getElem] at hf;obtain⟨h1,h2,-⟩:=hf;exact⟨k,rfl,h1,by rw [List.getElem?_eq_getElem h1];have:=of_decide_eq_true h2;rw [←this]⟩
theorem mem_predsOf {l:List DBlock}{s u:Nat}{x:Int}:x∈predsOf l s u↔∃i y,l[i]?=some y∧(u:Int)∈y.fin.to∧x=((s+i:Nat):Int):=by
 induction l generalizing s with
 | nil=>simp [predsOf]
 | cons b l ih =>
   rw [predsOf,List.mem_append,ih];have hh:x∈hits b.fin.to u s↔(u:Int)∈b.fin.to∧x=(s:Int):=by
    unfold hits;rw [List.mem_map];constructor
    · rintro⟨y,hy,rfl⟩
      obtain⟨h1,h2⟩:=List.mem_filter.1 hy;have h3:=of_decide_eq_true h2;exact⟨by rw [←h3];exact h1,rfl⟩
    · rintro⟨h1,rfl⟩
      exact⟨(u:Int),List.mem_filter.2 ⟨h1,by simp⟩,rfl⟩
   rw [hh];constructor
   · rintro (⟨h1,h2⟩ | ⟨i,y,h1,h2,h3⟩)
     · exact⟨0,b,rfl,h1,by simpa using h2⟩
     · exact⟨i+1,y,by simpa using h1,h2,by rw [h3];congr 1;omega⟩
   · rintro⟨i,y,h1,h2,h3⟩
     cases i with
     | zero=>cases h1;exact .inl ⟨h2,by simpa using h3⟩
     | succ i=>exact .inr ⟨i,y,by simpa using h1,h2,by rw [h3];congr 1;omega⟩
theorem predsOf_le1 : ∀ (l : List DBlock) (s t : Nat), (∀ x ∈ l, x.fin.to.Nodup) → (predsOf l s t).length ≤ l.length
 | [],_,_,_=>by simp [predsOf]
 | b :: l,s,t,h=>by
   rw [predsOf,List.length_append,List.length_cons];have h1:=hits_nodup (h b (List.mem_cons_self ..)) t s;have h2:=predsOf_le1 l (s+1) t (fun x hx=>h x (List.mem_cons_of_mem _ hx));omega
theorem predsOf_got {l:List DBlock}{i u:Nat}{y:DBlock}(h:l[i]?=some y)(hu:(u:Int)∈y.fin.to):(i:Int)∈predsOf l 0 u:=mem_predsOf.2 ⟨i,y,h,hu,by simp⟩
def renL(A:List Int)(t b:Nat)(l:List DVal):List DVal:=insL (delL l (idxInt A (t:Int)).toNat) (cntJ A t b A.length) (l.getD (idxInt A (t:Int)).toNat ⟨false,0⟩)
def renP(A:List Int)(t b:Nat)(p:DPhi):DPhi:=⟨p.dst,renL A t b p.src⟩
def renUp(A:List Int)(t b:Nat)(x:DBlock)(i:Nat):DBlock:={ x with phis:=x.phis.mapIdx fun m p=>if m<i then renP A t b p else p }
def renB(A:List Int)(t b:Nat)(x:DBlock):DBlock:={ x with phis:=x.phis.map (renP A t b) }
theorem renUp_zero(A:List Int)(t b:Nat)(x:DBlock):renUp A t b x 0=x:=by
 have:(x.phis.mapIdx fun m p=>if m<0 then renP A t b p else p)=x.phis:=by
  apply List.ext_getElem?;intro i;rw [mapIdx_at];simp
 unfold renUp;rw [this]
theorem renUp_all(A:List Int)(t b:Nat)(x:DBlock):renUp A t b x x.phis.length=renB A t b x:=by
 have h1:(x.phis.mapIdx fun m p=>if m<x.phis.length then renP A t b p else p)=x.phis.map (renP A t b):=by
  apply List.ext_getElem?;intro i;rw [mapIdx_at,List.getElem?_map]
  by_cases hi:i<x.phis.length
  · simp only [if_pos hi]
  · rw [List.getElem?_eq_none (by omega)];rfl
 unfold renUp renB;rw [h1]
theorem renUp_src {A:List Int}{t b:Nat}{x:DBlock}{i:Nat}{p:DPhi}(hp:x.phis[i]?=some p):srcB (renUp A t b x i) i (renL A t b p.src)=renUp A t b x (i+1):=by
 have hi:=(List.getElem?_eq_some_iff.1 hp).1;unfold srcB renUp
 congr 1
 apply List.ext_getElem?;intro m;rw [List.getElem?_set,List.length_mapIdx,mapIdx_at,mapIdx_at]
 by_cases e:i=m
 · subst e
   rw [if_pos rfl,if_pos hi,hp,List.getD_eq_getElem?_getD,mapIdx_at,hp];simp [renP]
 · rw [if_neg e]
   congr 1
   funext q
   by_cases h:m<i
   · rw [if_pos h,if_pos (by omega)]
   · rw [if_neg h,if_neg (by omega)]
def renTo(ahd:Nat→List Int)(t b:Nat)(bs:List DBlock)(u:Int):List DBlock:=bs.set u.toNat (renB (ahd u.toNat) t b (blkOf bs u.toNat))
def renF(bs:List DBlock)(t b:Nat)(k:Nat):List DBlock:=((blkOf bs t).fin.to.take k).foldl (renTo (predsOf bs 0) t b) bs
theorem renF_succ {bs:List DBlock}{t b k:Nat}{u:Int}(h:(blkOf bs t).fin.to[k]?=some u):renF bs t b (k+1)=renTo (predsOf bs 0) t b (renF bs t b k) u:=by
 unfold renF;rw [List.take_add_one,h,List.foldl_append];rfl
theorem foldl_renTo_len (ahd : Nat → List Int) (t b : Nat) : ∀ (l : List Int) (bs : List DBlock), (l.foldl (renTo ahd t b) bs).length = bs.length
 | [],_=>rfl
 | u :: l,bs=>by rw [List.foldl_cons,foldl_renTo_len ahd t b l];simp [renTo]
theorem renF_len(bs:List DBlock)(t b k:Nat):(renF bs t b k).length=bs.length:=foldl_renTo_len _ _ _ _ _
theorem foldl_renTo_at (ahd : Nat → List Int) (t b : Nat) : ∀ (l : List Int) (bs : List DBlock), (∀ u ∈ l, 0 ≤ u ∧ u < (bs.length : Int)) → l.Nodup → ∀ v : Nat, blkOf (l.foldl (renTo ahd t b) bs) v = if (v : Int) ∈ l then renB (ahd v) t b (blkOf bs v) else blkOf bs v
 | [],bs,_,_,v=>by simp
 | u :: l,bs,h,hn,v=>by
   have hu:=h u (List.mem_cons_self ..);have hl:(renTo ahd t b bs u).length=bs.length:=by simp [renTo]
   rw [List.foldl_cons,foldl_renTo_at ahd t b l _ (fun x hx=>by rw [hl];exact h x (List.mem_cons_of_mem _ hx)) (List.nodup_cons.1 hn).2 v];have hb:blkOf (renTo ahd t b bs u) v=if v=u.toNat then renB (ahd u.toNat) t b (blkOf bs u.toNat) else blkOf bs v:=blkOf_set (by omega) _ _
   rw [hb]
   by_cases e:v=u.toNat
   · have hvu:(v:Int)=u:=by omega
     rw [if_pos e,if_neg (by rw [hvu];exact (List.nodup_cons.1 hn).1),if_pos (by rw [hvu];exact List.mem_cons_self ..),←e]
   · have hvu:(v:Int)≠u:=by omega
     rw [if_neg e]
     by_cases hm:(v:Int)∈l
     · rw [if_pos hm,if_pos (List.mem_cons_of_mem _ hm)]
     · rw [if_neg hm,if_neg fun h2=>(List.mem_cons.1 h2).elim hvu hm]
theorem renF_at {bs:List DBlock}(hto:∀x∈bs,∀t∈x.fin.to,0≤t∧t<(bs.length:Int))(hnd:∀x∈bs,x.fin.to.Nodup){t:Nat}(ht:t<bs.length)(b k v:Nat):blkOf (renF bs t b k) v=if (v:Int)∈(blkOf bs t).fin.to.take k then renB (predsOf bs 0 v) t b (blkOf bs v) else blkOf bs v:=by
 have hm:=List.mem_of_getElem? (blkOf_self bs ht);exact foldl_renTo_at _ _ _ _ _ (fun u hu=>hto _ hm u (List.mem_of_mem_take hu)) ((hnd _ hm).sublist (List.take_sublist _ _)) v

def srcC (bs : List DBlock) (V : Pth → Value) (C : Pth → List (List Value)) : Pth → List (List Value)
 | .src u i=>elemsP bs V (.src u i)
 | q=>C q
section
variable {W3 W W' : World} {base : Nat} {X : Nat → Prop} {ok : Pth → Prop} {V : Pth → Value} {C : Pth → List (List Value)} {bs : List DBlock}
theorem RwSt.srcSame {u i g P c pn pc m : Nat} {d : Value} (h : RwSt W3 W base X ok V (srcC bs V C)) (hu : u < bs.length) (hi : i < (blkOf bs u).phis.length) (hok : ok (.src u i)) (hokp : ok (.phis u)) (hv : V (.src u i) = .slice (some ⟨g, 0, none⟩) m c) (hp : V (.phis u) = .slice (some ⟨P, 0, none⟩) pn pc)
 (hc:(C (.phis u))[i]?=some [d,V (.src u i)]) {l:List DVal} (hl:l.length=m) (ho:W'.ownsRow base 72 2 (.slice (some ⟨g,0,none⟩) m c) m (l.map cellsV).flatten) (hg:W.grownBy W' (some g)) :
 RwSt W3 (W'.setCell ⟨P,i * 2+1,none⟩ (.slice (some ⟨g,0,none⟩) m c)) base X ok V (srcC (bs.set u (srcB (blkOf bs u) i l)) V C):=by
 have h1:=h.turn (p := .src u i) hok (v' := .slice (some ⟨g,0,none⟩) m c) (xss:=l.map cellsV) (by rw [List.length_map,hl];exact ho) (cellsV_wid l) (by rw [hv];exact hg) (fun k hk=>by rw [hv];exact .inl hk);have h2:=h1.set (p := .phis u) hokp (g:=P) (n:=pn) (c:=pc) (i:=i) (j:=1) (by rw [updP_ne _ _ (by simp)];exact hp) (cs:=[d,V (.src u i)]) (by rw [updP_ne _ _ (by simp)];exact hc) (by simp [Pth.sz]) (.slice (some ⟨g,0,none⟩) m c);refine h2.congr (fun q _=>?_) (fun q _=>?_)
 · by_cases e:q = .src u i
   · subst e;rw [updP_self,hv]
   · rw [updP_ne _ _ e]
 · by_cases e:q = .phis u
   · subst e
     rw [updP_self,updP_ne _ _ (by simp)];show C (.phis u)=(C (.phis u)).set i _;rw [←hv];exact (list_set_self hc).symm
   · rw [updP_ne _ _ e]
     cases q with
     | src v j =>
       by_cases e2:v=u∧j=i
       · obtain⟨rfl,rfl⟩:=e2
         rw [updP_self];simp only [srcC,elemsP];rw [blkOf_set hu,if_pos rfl];simp only [srcB];rw [List.getD_eq_getElem?_getD,List.getElem?_set_self hi];rfl
       · rw [updP_ne _ _ (by simp;intro h3 h4;exact e2 ⟨h3,h4⟩)]
         simp only [srcC,elemsP];rw [blkOf_set hu]
         by_cases e3:v=u
         · subst e3
           rw [if_pos rfl];simp only [srcB];rw [List.getD_eq_getElem?_getD,List.getElem?_set_ne (fun h5=>e2 ⟨rfl,h5.symm⟩),←List.getD_eq_getElem?_getD]
         · rw [if_neg e3]
     | _=>exact (updP_ne _ _ (by simp)).symm
end

end Go.Proofs.YtnkogppgacappaaGreatDoor

namespace Go.Proofs.YtnkogppgacappaaGreatDoor
open Go.RowKit

def emptyB:DBlock:=⟨[],[],⟨1,⟨false,0⟩,[]⟩⟩
def toJ(bs:List DBlock)(b:Nat):Nat:=((blkOf bs b).fin.to.getD 0 0).toNat
def mayM(bs:List DBlock)(b:Nat):Bool:=decide ((blkOf bs b).fin.kind=2)&&decide (toJ bs b≠b)&&decide ((blkOf bs (toJ bs b)).phis.length=0)&&decide ((predsOf bs 0 (toJ bs b)).length≤1)
def renA(bs:List DBlock)(t b:Nat):List DBlock:=renF bs t b (blkOf bs t).fin.to.length
def mrgB(bs:List DBlock)(t b:Nat):DBlock:=⟨(blkOf (renA bs t b) b).phis,(blkOf bs b).list++(blkOf bs t).list,(blkOf bs t).fin⟩
def mergeF(bs:List DBlock)(b:Nat):List DBlock:=((renA bs (toJ bs b) b).set b (mrgB bs (toJ bs b) b)).set (toJ bs b) emptyB
def jN(bs:List DBlock):Nat:=bs.countP fun x=>decide (x.fin.kind=2)
def chainIn : Nat → List DBlock → Nat → List DBlock
 | 0,bs,_=>bs
 | f+1,bs,b=>if mayM bs b=true then chainIn f (mergeF bs b) b else bs
def chainsTo(bs:List DBlock)(k:Nat):List DBlock:=(List.range k).foldl (fun l b=>chainIn (jN l) l b) bs
def chainsF(bs:List DBlock):List DBlock:=chainsTo bs bs.length
theorem chainsTo_succ(bs:List DBlock)(k:Nat):chainsTo bs (k+1)=chainIn (jN (chainsTo bs k)) (chainsTo bs k) k:=by
 unfold chainsTo;rw [List.range_succ,List.foldl_append];rfl

structure ChOk (bs:List DBlock):Prop where
 ok:FunOk bs
 jump:∀x∈bs,x.fin.kind=2→x.fin.to.length=1
 sum:(bs.map fun x=>x.list.length).sum≤1048576

def leads(u:Nat)(x:DBlock):Bool:=decide ((u:Int)∈x.fin.to)
theorem hits_count {tg:List Int}(h:tg.Nodup)(u i:Nat):(hits tg u i).length=if (u:Int)∈tg then 1 else 0:=by
 have h1:=hits_nodup h u i
 by_cases hm:(u:Int)∈tg
 · rw [if_pos hm]
   have:0<(hits tg u i).length:=by
    unfold hits;rw [List.length_map];exact List.length_pos_of_mem (List.mem_filter.2 ⟨hm,by simp⟩)
   omega
 · rw [if_neg hm]
   unfold hits;rw [List.length_map,List.length_eq_zero_iff,List.filter_eq_nil_iff];intro a ha h2;have:=of_decide_eq_true h2;exact hm (by rw [←this];exact ha)
theorem preds_count : ∀ (l : List DBlock) (s u : Nat), (∀ x ∈ l, x.fin.to.Nodup) → (predsOf l s u).length = l.countP (leads u)
 | [],_,_,_=>by simp [predsOf]
 | b :: l,s,u,h=>by
   rw [predsOf,List.length_append,hits_count (h b (List.mem_cons_self ..)),preds_count l (s+1) u (fun x hx=>h x (List.mem_cons_of_mem _ hx)),List.countP_cons,Nat.add_comm]
   congr 1
   unfold leads
   by_cases hm:(u:Int)∈b.fin.to
   · simp [hm]
   · simp [hm]
theorem mem_blkOf {bs:List DBlock}{x:DBlock}(h:x∈bs):∃c,c<bs.length∧x=blkOf bs c:=by
 obtain⟨i,hi,rfl⟩:=List.getElem_of_mem h;exact⟨i,hi,(blkOf_at (List.getElem?_eq_getElem hi)).symm⟩
theorem blkOf_mem {bs:List DBlock}{c:Nat}(h:c<bs.length):blkOf bs c∈bs:=List.mem_of_getElem? (blkOf_self bs h)
theorem blkOf_get {bs:List DBlock}{c:Nat}(h:c<bs.length):bs[c]=blkOf bs c:=(blkOf_at (List.getElem?_eq_getElem h)).symm

section
variable {bs : List DBlock} {t b : Nat}
theorem renA_len(bs:List DBlock)(t b:Nat):(renA bs t b).length=bs.length:=renF_len _ _ _ _
theorem renA_at(hok:FunOk bs)(ht:t<bs.length)(c:Nat):blkOf (renA bs t b) c=if (c:Int)∈(blkOf bs t).fin.to then renB (predsOf bs 0 c) t b (blkOf bs c) else blkOf bs c:=by
 unfold renA;rw [renF_at hok.toIn hok.toNd ht,List.take_length]
theorem renA_fin(hok:FunOk bs)(ht:t<bs.length)(c:Nat):(blkOf (renA bs t b) c).fin=(blkOf bs c).fin∧(blkOf (renA bs t b) c).list=(blkOf bs c).list∧(blkOf (renA bs t b) c).phis.length=(blkOf bs c).phis.length:=by
 rw [renA_at hok ht];split
 · exact⟨rfl,rfl,by simp [renB]⟩
 · exact⟨rfl,rfl,rfl⟩
theorem countP_renA(hok:FunOk bs)(ht:t<bs.length)(p:DEnd→Bool):(renA bs t b).countP (fun x=>p x.fin)=bs.countP (fun x=>p x.fin):=by
 have e:(renA bs t b).map (·.fin)=bs.map (·.fin):=by
  apply List.ext_getElem?;intro i;rw [List.getElem?_map,List.getElem?_map]
  by_cases hi:i<bs.length
  · rw [blkOf_self bs hi,blkOf_self (renA bs t b) (by rw [renA_len];exact hi),Option.map_some,Option.map_some,(renA_fin hok ht i).1]
  · rw [List.getElem?_eq_none (by rw [renA_len];omega),List.getElem?_eq_none (by omega)]
 have h:=congrArg (List.countP p) e;rw [List.countP_map,List.countP_map] at h;exact h
theorem mergeF_len(bs:List DBlock)(b:Nat):(mergeF bs b).length=bs.length:=by unfold mergeF;rw [List.length_set,List.length_set,renA_len]
theorem mergeF_at(hb:b<bs.length)(ht:toJ bs b<bs.length)(c:Nat):blkOf (mergeF bs b) c=if c=toJ bs b then emptyB else if c=b then mrgB bs (toJ bs b) b else blkOf (renA bs (toJ bs b) b) c:=by
 unfold mergeF;rw [blkOf_set (by rw [List.length_set,renA_len];exact ht),blkOf_set (by rw [renA_len];exact hb)]
theorem mayM_facts(hok:ChOk bs)(hb:b<bs.length)(h:mayM bs b=true):(blkOf bs b).fin.kind=2∧toJ bs b≠b∧(blkOf bs (toJ bs b)).phis=[]∧(blkOf bs b).fin.to=[((toJ bs b:Nat):Int)]∧toJ bs b<bs.length∧(∀c,c<bs.length→((toJ bs b:Nat):Int)∈(blkOf bs c).fin.to→c=b):=by
 unfold mayM at h;simp only [Bool.and_eq_true,decide_eq_true_eq] at h;obtain⟨⟨⟨h1,h2⟩,h3⟩,h4⟩:=h;have hl:=hok.jump _ (blkOf_mem hb) h1;have hto:(blkOf bs b).fin.to=[((toJ bs b:Nat):Int)]∧toJ bs b<bs.length:=by
  match hh:(blkOf bs b).fin.to,hl with
  | [u],_ =>
    have hu:=hok.ok.toIn _ (blkOf_mem hb) u (by rw [hh];simp);have e:((toJ bs b:Nat):Int)=u:=by unfold toJ;rw [hh];simp;omega
    exact⟨by rw [e],by omega⟩
 refine⟨h1,h2,List.eq_nil_of_length_eq_zero h3,hto.1,hto.2,fun c hc hm=>?_⟩;have hb2:=predsOf_got (u:=toJ bs b) (blkOf_self bs hb) (by rw [hto.1];simp);have hc2:=predsOf_got (u:=toJ bs b) (blkOf_self bs hc) hm
 match hh:predsOf bs 0 (toJ bs b),h4 with
 | [],_=>rw [hh] at hb2;exact absurd hb2 (List.not_mem_nil)
 | [x],_ =>
   rw [hh,List.mem_singleton] at hb2 hc2;omega
theorem jN_merge(hok:ChOk bs)(hb:b<bs.length)(h:mayM bs b=true):jN (mergeF bs b)+1=jN bs:=by
 obtain⟨h1,h2,-,-,h5,-⟩:=mayM_facts hok hb h;have hr:=countP_renA (b:=b) hok.ok h5 (fun x=>decide (x.kind=2));have hbr:b<(renA bs (toJ bs b) b).length:=by rw [renA_len];exact hb
 have htr:toJ bs b<((renA bs (toJ bs b) b).set b (mrgB bs (toJ bs b) b)).length:=by rw [List.length_set,renA_len];exact h5
 have e1:(renA bs (toJ bs b) b)[b].fin.kind=2:=by rw [blkOf_get hbr,(renA_fin hok.ok h5 b).1];exact h1
 have e2:(((renA bs (toJ bs b) b).set b (mrgB bs (toJ bs b) b))[toJ bs b]'htr).fin.kind=(blkOf bs (toJ bs b)).fin.kind:=by
  rw [blkOf_get htr,blkOf_set hbr,if_neg h2,(renA_fin hok.ok h5 _).1]
 have hpos:0<(renA bs (toJ bs b) b).countP (fun x=>decide (x.fin.kind=2)):=List.countP_pos_iff.2 ⟨_,List.getElem_mem hbr,by simp [e1]⟩;have e3:(mrgB bs (toJ bs b) b).fin=(blkOf bs (toJ bs b)).fin:=rfl;unfold jN mergeF;rw [List.countP_set htr,List.countP_set hbr,hr];rw [hr] at hpos;simp only [e1,e2,e3,emptyB]
 by_cases hk:(blkOf bs (toJ bs b)).fin.kind=2
 · simp [hk];omega
 · simp [hk];omega
theorem preds_merge(hok:ChOk bs)(hb:b<bs.length)(h:mayM bs b=true){c:Nat}(hc:c≠toJ bs b)(hnd:∀x∈mergeF bs b,x.fin.to.Nodup):(predsOf (mergeF bs b) 0 c).length=(predsOf bs 0 c).length:=by
 obtain⟨h1,h2,-,h4,h5,h6⟩:=mayM_facts hok hb h;have hr:=countP_renA (b:=b) hok.ok h5 (fun x=>decide ((c:Int)∈x.to));have hbr:b<(renA bs (toJ bs b) b).length:=by rw [renA_len];exact hb
 have htr:toJ bs b<((renA bs (toJ bs b) b).set b (mrgB bs (toJ bs b) b)).length:=by rw [List.length_set,renA_len];exact h5
 have e1:(renA bs (toJ bs b) b)[b].fin.to=[((toJ bs b:Nat):Int)]:=by rw [blkOf_get hbr,(renA_fin hok.ok h5 b).1];exact h4
 have e2:(((renA bs (toJ bs b) b).set b (mrgB bs (toJ bs b) b))[toJ bs b]'htr).fin.to=(blkOf bs (toJ bs b)).fin.to:=by
  rw [blkOf_get htr,blkOf_set hbr,if_neg h2,(renA_fin hok.ok h5 _).1]
 rw [preds_count _ _ _ hnd,preds_count _ _ _ hok.ok.toNd];have e3:(mrgB bs (toJ bs b) b).fin=(blkOf bs (toJ bs b)).fin:=rfl;have hcb:¬((c:Int)∈[((toJ bs b:Nat):Int)]):=by
  rw [List.mem_singleton];omega
 unfold mergeF leads;rw [List.countP_set htr,List.countP_set hbr,hr];simp only [e1,e2,e3,emptyB,hcb,List.not_mem_nil,decide_false,Bool.false_eq_true,if_false,Nat.sub_zero,Nat.add_zero]
 by_cases hm:(c:Int)∈(blkOf bs (toJ bs b)).fin.to
 · simp only [hm,decide_true,if_true];omega
 · simp only [hm,decide_false,Bool.false_eq_true,if_false];omega
end

theorem renL_len {A:List Int}{t b:Nat}{l:List DVal}(h:(t:Int)∈A)(hl:l.length=A.length):(renL A t b l).length=l.length:=by
 obtain⟨k,h1,h2,-⟩:=idxInt_at h;have h3:=cntJ_lt (b:=b) h;unfold renL;rw [h1,Int.toNat_natCast,insL_len (by rw [delL_len (by omega)];omega),delL_len (by omega)];omega
theorem renL_mem {A:List Int}{t b:Nat}{l:List DVal}(h:(t:Int)∈A)(hl:l.length=A.length){v:DVal}(hv:v∈renL A t b l):v∈l:=by
 obtain⟨k,h1,h2,-⟩:=idxInt_at h;unfold renL at hv;rw [h1,Int.toNat_natCast] at hv;have hd:∀v,v∈delL l k→v∈l:=fun v hv=>by
  unfold delL at hv;rcases List.mem_append.1 hv with h | h
  · exact List.mem_of_mem_take h
  · exact List.mem_of_mem_drop h
 unfold insL at hv;rcases List.mem_append.1 hv with hv | hv
 · rcases List.mem_append.1 hv with hv | hv
   · exact hd v (List.mem_of_mem_take hv)
   · rw [List.mem_singleton] at hv
     rw [hv,List.getD_eq_getElem?_getD,List.getElem?_eq_getElem (by omega)];exact List.getElem_mem _
 · exact hd v (List.mem_of_mem_drop hv)
theorem sum_map_set {α : Type} (f : α → Nat) : ∀ (l : List α) (i : Nat) (a : α) (h : i < l.length), ((l.set i a).map f).sum + f l[i] = (l.map f).sum + f a
 | x :: l,0,a,_=>by simp;omega
 | x :: l,i+1,a,h=>by
   have:=sum_map_set f l i a (by simpa using h);simp only [List.set_cons_succ,List.map_cons,List.sum_cons,List.getElem_cons_succ];omega
theorem le_sum_map {α : Type} (f : α → Nat) : ∀ {l : List α} {x : α}, x ∈ l → f x ≤ (l.map f).sum
 | y :: l,x,h=>by
   rw [List.map_cons,List.sum_cons];rcases List.mem_cons.1 h with rfl | h
   · omega
   · have:=le_sum_map f h;omega
section
variable {bs : List DBlock} {t b : Nat}
theorem renA_phis(hok:FunOk bs)(ht:t<bs.length){c:Nat}(hc:c<bs.length){p:DPhi}(hp:p∈(blkOf (renA bs t b) c).phis):∃p0∈(blkOf bs c).phis,p.dst=p0.dst∧p.src.length=p0.src.length∧∀v∈p.src,v∈p0.src:=by
 rw [renA_at hok ht] at hp;split at hp
 · rename_i hm
   obtain⟨p0,h0,rfl⟩:=List.mem_map.1 hp;have hA:=predsOf_got (blkOf_self bs ht) hm;have hl:=hok.src c hc p0 h0;exact⟨p0,h0,rfl,renL_len hA hl,fun v hv=>renL_mem hA hl hv⟩
 · exact⟨p,hp,rfl,rfl,fun v hv=>hv⟩
theorem merge_cases(hb:b<bs.length)(ht:toJ bs b<bs.length)(c:Nat):(c=toJ bs b∧blkOf (mergeF bs b) c=emptyB)∨(c≠toJ bs b∧c=b∧blkOf (mergeF bs b) c=mrgB bs (toJ bs b) b)∨(c≠toJ bs b∧c≠b∧blkOf (mergeF bs b) c=blkOf (renA bs (toJ bs b) b) c):=by
 rw [mergeF_at hb ht]
 by_cases h1:c=toJ bs b
 · exact .inl ⟨h1,if_pos h1⟩
 · rw [if_neg h1]
   by_cases h2:c=b
   · exact .inr (.inl ⟨h1,h2,if_pos h2⟩)
   · exact .inr (.inr ⟨h1,h2,if_neg h2⟩)
theorem sum_merge(hok:ChOk bs)(hb:b<bs.length)(h:mayM bs b=true):((mergeF bs b).map fun x=>x.list.length).sum=(bs.map fun x=>x.list.length).sum:=by
 obtain⟨h1,h2,-,-,h5,-⟩:=mayM_facts hok hb h;have hbr:b<(renA bs (toJ bs b) b).length:=by rw [renA_len];exact hb
 have htr:toJ bs b<((renA bs (toJ bs b) b).set b (mrgB bs (toJ bs b) b)).length:=by rw [List.length_set,renA_len];exact h5
 have hr:(renA bs (toJ bs b) b).map (fun x=>x.list.length)=bs.map (fun x=>x.list.length):=by
  apply List.ext_getElem?;intro i;rw [List.getElem?_map,List.getElem?_map]
  by_cases hi:i<bs.length
  · rw [blkOf_self bs hi,blkOf_self (renA bs (toJ bs b) b) (by rw [renA_len];exact hi),Option.map_some,Option.map_some,(renA_fin hok.ok h5 i).2.1]
  · rw [List.getElem?_eq_none (by rw [renA_len];omega),List.getElem?_eq_none (by omega)]
 have s1:=sum_map_set (fun x:DBlock=>x.list.length) (renA bs (toJ bs b) b) b (mrgB bs (toJ bs b) b) hbr;have s2:=sum_map_set (fun x:DBlock=>x.list.length) ((renA bs (toJ bs b) b).set b (mrgB bs (toJ bs b) b)) (toJ bs b) emptyB htr;rw [blkOf_get hbr,(renA_fin hok.ok h5 b).2.1,hr] at s1;rw [blkOf_get htr,blkOf_set hbr,if_neg h2,(renA_fin hok.ok h5 _).2.1] at s2;have s3:(mrgB bs (toJ bs b) b).list.length=(blkOf bs b).list.length+(blkOf bs (toJ bs b)).list.length:=by simp [mrgB]
 have s4:emptyB.list.length=0:=rfl;unfold mergeF;omega
theorem chOk_merge(hok:ChOk bs)(hb:b<bs.length)(h:mayM bs b=true):ChOk (mergeF bs b):=by
 obtain⟨h1,h2,h3,h4,h5,h6⟩:=mayM_facts hok hb h;have hsum:=sum_merge hok hb h;have hfin:∀c,c<bs.length→(blkOf (mergeF bs b) c).fin=emptyB.fin∨∃d,d<bs.length∧(blkOf (mergeF bs b) c).fin=(blkOf bs d).fin:=fun c hc=>by
  rcases merge_cases hb h5 c with⟨-,e⟩ | ⟨-,-,e⟩ | ⟨-,-,e⟩
  · exact .inl (by rw [e])
  · exact .inr ⟨_,h5,by rw [e];rfl⟩
  · exact .inr ⟨c,hc,by rw [e,(renA_fin hok.ok h5 c).1]⟩
 have hphi:∀c,c<bs.length→∀p∈(blkOf (mergeF bs b) c).phis,c≠toJ bs b∧∃p0∈(blkOf bs c).phis,p.dst=p0.dst∧p.src.length=p0.src.length∧∀v∈p.src,v∈p0.src:=fun c hc p hp=>by
  rcases merge_cases hb h5 c with⟨-,e⟩ | ⟨e0,rfl,e⟩ | ⟨e0,-,e⟩
  · rw [e] at hp;exact absurd hp (List.not_mem_nil)
  · rw [e] at hp;exact⟨e0,renA_phis hok.ok h5 hc hp⟩
  · rw [e] at hp;exact⟨e0,renA_phis hok.ok h5 hc hp⟩
 have hlist:∀c,c<bs.length→∀y∈(blkOf (mergeF bs b) c).list,∃d,d<bs.length∧y∈(blkOf bs d).list:=fun c hc y hy=>by
  rcases merge_cases hb h5 c with⟨-,e⟩ | ⟨-,rfl,e⟩ | ⟨-,-,e⟩
  · rw [e] at hy;exact absurd hy (List.not_mem_nil)
  · rw [e] at hy
    rcases List.mem_append.1 (show y∈_++_ from hy) with hy | hy
    · exact⟨c,hc,hy⟩
    · exact⟨_,h5,hy⟩
  · rw [e,(renA_fin hok.ok h5 c).2.1] at hy;exact⟨c,hc,hy⟩
 have hlen:=mergeF_len bs b;have hnd:∀x∈mergeF bs b,x.fin.to.Nodup:=fun x hx=>by
  obtain⟨c,hc,rfl⟩:=mem_blkOf hx;rw [hlen] at hc;rcases hfin c hc with e | ⟨d,hd,e⟩
  · rw [e];simp [emptyB]
  · rw [e];exact hok.ok.toNd _ (blkOf_mem hd)
 refine⟨⟨by rw [hlen];exact hok.ok.len,fun x hx=>?_,fun x hx=>?_,fun x hx=>?_,fun x hx=>?_,hnd,fun c hc p hp=>?_⟩,fun x hx=>?_,by rw [hsum];exact hok.sum⟩
 · obtain⟨c,hc,rfl⟩:=mem_blkOf hx
   rw [hlen] at hc;refine⟨?_,?_,?_,fun p hp=>?_,fun y hy=>?_⟩
   · rcases hfin c hc with e | ⟨d,hd,e⟩
     · rw [e];exact⟨by decide,by decide⟩
     · rw [e];exact (hok.ok.num _ (blkOf_mem hd)).kind
   · rcases hfin c hc with e | ⟨d,hd,e⟩
     · rw [e];exact⟨by decide,by decide⟩
     · rw [e];exact (hok.ok.num _ (blkOf_mem hd)).on
   · rcases hfin c hc with e | ⟨d,hd,e⟩
     · rw [e];intro u hu;exact absurd hu (List.not_mem_nil)
     · rw [e];exact (hok.ok.num _ (blkOf_mem hd)).to
   · obtain⟨-,p0,h0,e1,-,e3⟩:=hphi c hc p hp
     have hn:=(hok.ok.num _ (blkOf_mem hc)).phi p0 h0;exact⟨by rw [e1];exact hn.1,fun v hv=>hn.2 v (e3 v hv)⟩
   · obtain⟨d,hd,hy2⟩:=hlist c hc y hy
     exact (hok.ok.num _ (blkOf_mem hd)).ins y hy2
 · have hxs:=le_sum_map (fun x:DBlock=>x.list.length) hx
   obtain⟨c,hc,rfl⟩:=mem_blkOf hx;rw [hlen] at hc;refine⟨?_,?_,?_,fun p hp=>?_,fun y hy=>?_⟩
   · rcases merge_cases hb h5 c with⟨-,e⟩ | ⟨-,rfl,e⟩ | ⟨-,-,e⟩
     · rw [e];exact Nat.zero_le _
     · rw [e];show (blkOf (renA bs (toJ bs c) c) c).phis.length≤_;rw [(renA_fin hok.ok h5 c).2.2];exact (hok.ok.small _ (blkOf_mem hc)).phis
     · rw [e,(renA_fin hok.ok h5 c).2.2];exact (hok.ok.small _ (blkOf_mem hc)).phis
   · exact Nat.le_trans hxs (by rw [hsum];exact hok.sum)
   · rcases hfin c hc with e | ⟨d,hd,e⟩
     · rw [e];exact Nat.zero_le _
     · rw [e];exact (hok.ok.small _ (blkOf_mem hd)).to
   · obtain⟨-,p0,h0,-,e2,-⟩:=hphi c hc p hp
     rw [e2];exact (hok.ok.small _ (blkOf_mem hc)).src p0 h0
   · obtain⟨d,hd,hy2⟩:=hlist c hc y hy
     exact (hok.ok.small _ (blkOf_mem hd)).args y hy2
 · obtain⟨c,hc,rfl⟩:=mem_blkOf hx
   rw [hlen] at hc;rcases hfin c hc with e | ⟨d,hd,e⟩
   · rw [e];exact Nat.zero_le _
   · rw [e];exact hok.ok.to2 _ (blkOf_mem hd)
 · obtain⟨c,hc,rfl⟩:=mem_blkOf hx
   rw [hlen] at hc ⊢;rcases hfin c hc with e | ⟨d,hd,e⟩
   · rw [e];intro u hu;exact absurd hu (List.not_mem_nil)
   · rw [e];exact hok.ok.toIn _ (blkOf_mem hd)
 · rw [hlen] at hc
   obtain⟨e0,p0,h0,-,e2,-⟩:=hphi c hc p hp;rw [e2,preds_merge hok hb h e0 hnd];exact hok.ok.src c hc p0 h0
 · obtain⟨c,hc,rfl⟩:=mem_blkOf hx
   rw [hlen] at hc;rcases hfin c hc with e | ⟨d,hd,e⟩
   · rw [e];intro hk;exact absurd hk (by decide)
   · rw [e];exact hok.jump _ (blkOf_mem hd)
end

end Go.Proofs.YtnkogppgacappaaGreatDoor
