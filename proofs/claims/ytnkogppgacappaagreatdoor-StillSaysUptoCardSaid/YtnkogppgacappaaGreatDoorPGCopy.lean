/- graph.Copy: a function of which all can be written into. -/
import Derived.Test.YtnkogppgacappaaGreatDoorPGCopyL
import Derived.Test.YtnkogppgacappaaGreatDoorPFour
import Derived.BigRegion
import Derived.Deep.DeepCutAuto
import Derived.Deep.RegionHeld3
namespace Go.Proofs.YtnkogppgacappaaGreatDoor
open Go.RowKit

theorem func_res1 {fn : Func} {t : Nat} (hfn : fn.results = #[.cell t 38]) {tmps : Array Value} {W : World} {UO : Nat} {u0 u1 u2 u3 : Value}
 (h2:tmps.getD t undef = .pointer (some ⟨UO,0,none⟩)) (hF:CellsAt W UO 0 [u0,u1,u2,u3]) :
 (results fn tmps).run Tryz.prog W = .ok (.agg #[u0,u1,u2,u3]) W:=by
 obtain⟨a0,a1,a2,a3⟩:=hF.get4;simp only [Array.getD_eq_getD_getElem?] at h2;simp [results,hfn,h2,go_sem,a0,a1,a2,a3]

set_option maxRecDepth 100000 in
set_option maxHeartbeats 4000000 in
theorem gcopy_any {S:Nat→Prop}(nm:ByteArray)(p r:Int)(ba:Option Addr)(n bc:Nat)(bs:List DBlock)(w:World)(hb:SlAt S w 6 rBlock (.slice ba n bc) bs)(hS:∀b,S b→b<w.heap.size)(hn:n≤1048576)(hsm:∀x∈bs,SmallB x) :
 Calls Tryz.prog 70 #[.agg #[.string nm,.int .i64 p,.int .i64 r,.slice ba n bc]] w fun e w' =>
  ∃V base,e = .returned (.agg #[.string nm,.int .i64 p,.int .i64 r,V .blks])∧w.heap.size≤base∧FunSt w' base bs V∧Below w.heap.size w w':=by
 obtain⟨xss,hbn,hxn,hxe,hxw,hxnil,hxc⟩:=sl_rows hb (by decide);have hx1:∀cs∈xss,∀u∈cs,u.oneCell'=true:=fun cs hcs=>by
  obtain⟨i,hi,rfl⟩:=List.getElem_of_mem hcs;have hib:i<bs.length:=by omega
  obtain⟨cs',g1,g2⟩:=hxe i bs[i] (List.getElem?_eq_getElem hib);rw [List.getElem?_eq_getElem hi] at g1;rw [Option.some.inj g1];exact rBlock_one g2
 have Hxe:=hid hxe;have Hsm:=hid hsm;have HS:=hid hS;have Hbn:=hid hbn;have Hxn:=hid hxn;have Hxw:=hid hxw
 have Hcl := hid (fun (V : World) (hV : Below w.heap.size w V) => cloneBlk_row ba n bc xss.flatten V (by rw [flat_len xss (fun i cs hi => hxw cs (List.mem_of_getElem? hi)), hxn]) hxnil (fun b hb2 j u hj => by
  have h := hxc b hb2 j u hj
  rw [hV.cell (p := b.add j) (cell_blk h)]; exact h) (flat_one hx1) hn)
 clear hb hS hsm hbn hxn hxe hxw hxnil hxc hx1;go_enter Tryz.func70,Tryz.ntmps70;go_upto_region 1 with (fail)
 obtain⟨W,hW⟩:∃W,W=(w.alloc (.cells #[.string nm,.int .i64 p,.int .i64 r,.slice ba n bc] 38)).alloc (.cells #[.string ⟨#[]⟩,.int .i64 0,.int .i64 0,.slice none 0 0] 38):=⟨_,rfl⟩
 obtain⟨hWs,h0,h1⟩:=two_cells w (.cells #[.string nm,.int .i64 p,.int .i64 r,.slice ba n bc] 38) (.cells #[.string ⟨#[]⟩,.int .i64 0,.int .i64 0,.slice none 0 0] 38);rw [←hW] at hWs h0 h1 ⊢;have hbW:Below w.heap.size w W:=by rw [hW];(repeat (first | exact Below.refl _ _ | refine Below.alloc ?_ (by first|omega|(simp<;>omega)) _ | refine Below.setCell ?_ (by first|omega|(simp<;>omega)) _ | refine below_drewN ?_ _ | refine Below.drew ?_))
 obtain⟨UB,hUB⟩:∃UB,UB=w.heap.size:=⟨_,rfl⟩
 obtain⟨UO,hUO⟩:∃UO,UO=w.heap.size+1:=⟨_,rfl⟩
 rw [←hUO] at h1 ⊢;rw [←hUB] at h0 ⊢;have HUs:Hid (UB=w.heap.size∧UO=w.heap.size+1∧W.heap.size=w.heap.size+2):=⟨hUB,hUO,hWs⟩
 obtain⟨c0,c1,c2,c3⟩:=(cells_of (cs:=[_,_,_,_]) h0).get4;rw [Nat.zero_add] at c1 c2 c3;have H0:=hid h0;have H1:=hid h1;have HbW:=hid hbW;have zB:UB<W.heap.size:=cell_lt c0;have f3:=thawed h0 3;clear hW h0 h1 hbW hUB hUO hWs;go_upto_region 2 with (go_at_call 102;refine (Hcl.out W HbW.out).mono ?_;rintro e w2 ⟨v0a,v0c,rfl,ho2,hb2⟩;have Ho2:=hid ho2;have Hb2:=hid hb2;have c3':=cell_later' c3 hb2;have f3':=(hb2.frozen (p:=⟨UB,3,none⟩) zB).trans f3;have zB2:UB<w2.heap.size:=cell_lt c3';clear ho2 hb2)
 obtain⟨W3,hW3⟩:∃W3,W3=w2.setCell ⟨UB,3,none⟩ (.slice v0a n v0c):=⟨_,rfl⟩
 rw [←hW3];obtain⟨base,hbase⟩:∃base,base=W.heap.size:=⟨_,rfl⟩
 have hUBb:UB<base:=by rw [hbase];exact zB
 have hrows0:RowsAt W3 base (okK bs 0) (fun _ => .slice v0a n v0c) (copC bs xss 0 (fun _ => .slice v0a n v0c)):=by
  have h:=((RowsAt.empty W base (fun _ => .slice v0a n v0c) (fun _=>xss)).fresh .blks (v := .slice v0a n v0c) (n:=n) (xss:=xss) Ho2.out Hxn.out Hxw.out Hb2.out (Nat.le_of_eq hbase)).setLow (a:=⟨UB,3,none⟩) hUBb (.slice v0a n v0c);rw [←hW3] at h
  have h2 := h.less (ok' := okK bs 0) (fun q hq => by
   cases q <;> first | exact .inr rfl | exact absurd hq (by simp [okK]))
  refine h2.congr (fun q _=>?_) (fun q hq=>?_)
  · unfold updP;split <;> rfl
  · cases q <;> first
     | (simp [okK] at hq;done)
     | (rw [updP_self];show xss.mapIdx _=xss;apply List.ext_getElem?;intro i;simp)
 have hst0:GcSt W3 W3 base bs xss (.slice v0a n v0c) 0 (fun _ => .slice v0a n v0c):=⟨hrows0,rfl,Below.refl _ _⟩
 have Hst0:=hid hst0;have Hw3:Hid (Below w.heap.size w W3):=by
  show Below _ _ _;rw [hW3];exact (HbW.out.trans (Hb2.out.mono HbW.out.size)).setCell (p:=⟨UB,3,none⟩) (by dsimp only;have:=HUs.out;omega) _
 have hf3:W3.heap[UB]?=some (.cells #[.string nm,.int .i64 p,.int .i64 r,.slice v0a n v0c] 38 (0,0)):=by
  rw [hW3,heap_set_row ((Hb2.out.block UB zB).trans H0.out)];rfl
 have hf1:W3.heap[UO]?=some (.cells #[.string ⟨#[]⟩,.int .i64 0,.int .i64 0,.slice none 0 0] 38 (0,0)):=by
  rw [hW3,Below.heap_setCell _ _ _ _ (by dsimp only;have:=HUs.out;omega)];exact (Hb2.out.block UO (by have:=HUs.out;omega)).trans H1.out
 have HF3:=hid hf3;have HF1:=hid hf1;have Hbs:Hid (w.heap.size≤base∧UB<base∧UO<base∧base≤W3.heap.size):=by
  show _∧_;have h1:=HUs.out;have h2:=Hb2.out.size;have h3:W3.heap.size=w2.heap.size:=by rw [hW3];simp [World.setCell]
  omega
 obtain⟨d0,d1,d2,d3⟩:=(cells_of (cs:=[_,_,_,_]) hf3).get4;rw [Nat.zero_add] at d1 d2 d3;have zB3:UB<W3.heap.size:=cell_lt d0;clear hW3 hrows0 hst0 hf3 hf1 hbase hUBb c0 c1 c2 c3 c3' f3 f3' zB zB2 Ho2 Hcl;go_wp2_with fail;clear d0 d1 d2 d3;go_loopw [16] (fun s16 wr=>∃(k:Nat) (V:Pth→Value),k≤n∧s16 = .int .i64 (k:Int)∧GcSt W3 wr base bs xss (.slice v0a n v0c) k V) (fun s16 _=>n - (intOf s16).toNat)
 case atStart=>exact⟨0,_,Nat.zero_le _,rfl,Hst0.out⟩
 case round =>
  obtain⟨wo,hwo⟩:∃wo:World,wo=wr:=⟨_,rfl⟩
  subst hwo;obtain⟨k,V,hk,rfl,hst⟩:=hrel;have Hst:=hid hst
  by_cases hkn:k<n
  · have hkl:k<bs.length:=by rw [Hbn.out];exact hkn
    obtain⟨x,hx⟩:∃x,bs[k]?=some x:=⟨_,List.getElem?_eq_getElem hkl⟩
    obtain⟨cs,hcs,hrb⟩:=Hxe.out k x hx;have hxo:=blkOf_at hx;have hsx:=Hsm.out x (List.mem_of_getElem? hx);obtain⟨pa,pc,la,lc,ta,tc,rfl,hp,hl,ht,hpm,hlm,htm,-,-⟩:=hrb.opens;have hCl:0<(copC bs xss k V .blks).length:=by simp [copC,Hxn.out];omega
    obtain⟨R,rc,hRv,-,-,hRb,hRl⟩:=hst.rows.addr (p := .blks) trivial hCl;rw [hst.blks] at hRv;have hci:(copC bs xss k V .blks)[k]?=some [.slice pa x.phis.length pc,.slice la x.list.length lc,.int .i64 x.fin.kind,.bool x.fin.on.reg,.int .i64 x.fin.on.n,.slice ta x.fin.to.length tc]:=by
     show (xss.mapIdx _)[k]?=_;rw [mapIdx_at,hcs];show some (if k<k then _ else _)=_;rw [if_neg (Nat.lt_irrefl k)]
    obtain⟨hat,hfz⟩:=hst.rows.at (p := .blks) trivial (hst.blks.trans hRv) hci;have hva:v0a=some ⟨R,0,none⟩:=by injection hRv
    subst hva;have hat6:CellsAt wo R (k * 6) [.slice pa x.phis.length pc,.slice la x.list.length lc,.int .i64 x.fin.kind,.bool x.fin.on.reg,.int .i64 x.fin.on.n,.slice ta x.fin.to.length tc]:=hat;obtain⟨q0,q1,q2,q3,q4,q5⟩:=hat6.get6;obtain⟨yss,-,hyn,hye,hyw,hynil,hyc⟩:=sl_rows hp (by decide);obtain⟨zss,-,hzn,hze,hzw,hznil,hzc⟩:=sl_rows hl (by decide);obtain⟨tss,-,htn,hte,htw,htnil,htc⟩:=sl_rows ht (by decide);have hy1:∀cs∈yss,∀u∈cs,u.oneCell'=true:=fun cs hcs=>by
     obtain⟨i,hi,rfl⟩:=List.getElem_of_mem hcs;have hib:i<x.phis.length:=by omega
     obtain⟨cs',g1,g2⟩:=hye i x.phis[i] (List.getElem?_eq_getElem hib);rw [List.getElem?_eq_getElem hi] at g1;rw [Option.some.inj g1];exact rPhi_one g2
    have hz1:∀cs∈zss,∀u∈cs,u.oneCell'=true:=fun cs hcs=>by
     obtain⟨i,hi,rfl⟩:=List.getElem_of_mem hcs;have hib:i<x.list.length:=by omega
     obtain⟨cs',g1,g2⟩:=hze i x.list[i] (List.getElem?_eq_getElem hib);rw [List.getElem?_eq_getElem hi] at g1;rw [Option.some.inj g1];exact rIns_one g2
    have ht1:∀cs∈tss,∀u∈cs,u.oneCell'=true:=fun cs hcs=>by
     obtain⟨i,hi,rfl⟩:=List.getElem_of_mem hcs;have hib:i<x.fin.to.length:=by omega
     obtain⟨cs',g1,g2,-⟩:=hte i x.fin.to[i] (List.getElem?_eq_getElem hib);rw [List.getElem?_eq_getElem hi] at g1;rw [Option.some.inj g1,g2];intro u hu;rw [List.mem_singleton] at hu;rw [hu];rfl
    have Hcp := hid (fun (V : World) (hV : Below w.heap.size w V) => clonePhi_row pa x.phis.length pc yss.flatten V (by rw [flat_len yss (fun i cs hi => hyw cs (List.mem_of_getElem? hi)), hyn]) hynil (fun b hb2 j u hj => by
     have h := hyc b hb2 j u hj
     rw [hV.cell (p := b.add j) (cell_blk h)]; exact h) (flat_one hy1) hsx.phis)
    have Hcl := hid (fun (V : World) (hV : Below w.heap.size w V) => cloneIns_row la x.list.length lc zss.flatten V (by rw [flat_len zss (fun i cs hi => hzw cs (List.mem_of_getElem? hi)), hzn]) hznil (fun b hb2 j u hj => by
     have h := hzc b hb2 j u hj
     rw [hV.cell (p := b.add j) (cell_blk h)]; exact h) (flat_one hz1) hsx.list)
    have Hct := hid (fun (V : World) (hV : Below w.heap.size w V) => cloneInt_row ta x.fin.to.length tc tss.flatten V (by rw [flat_len tss (fun i cs hi => htw cs (List.mem_of_getElem? hi)), htn]) htnil (fun b hb2 j u hj => by
     have h := htc b hb2 j u hj
     rw [hV.cell (p := b.add j) (cell_blk h)]; exact h) (flat_one ht1) hsx.to)
    have Hold:Hid (∀V,Below base W3 V→Below w.heap.size w V):=fun V hV=>Hw3.out.trans (hV.mono Hbs.out.1);obtain⟨pn,hpn⟩:∃pn,pn=x.phis.length:=⟨_,rfl⟩
    obtain⟨ln,hln⟩:∃ln,ln=x.list.length:=⟨_,rfl⟩
    obtain⟨tn,htn'⟩:∃tn,tn=x.fin.to.length:=⟨_,rfl⟩
    obtain⟨ek,hek⟩:∃ek,ek=x.fin.kind:=⟨_,rfl⟩
    obtain⟨er,her⟩:∃er,er=x.fin.on.reg:=⟨_,rfl⟩
    obtain⟨en,hen⟩:∃en,en=x.fin.on.n:=⟨_,rfl⟩
    rw [←hpn] at q0 Hcp;rw [←hln] at q1 Hcl;rw [←htn'] at q5 Hct;rw [←hek] at q2;rw [←her] at q3;rw [←hen] at q4;have hx4:=hst.rows.box .vBlk (cs:=[.slice pa pn pc,.slice la ln lc,.int .i64 ek,.bool er,.int .i64 en,.slice ta tn tc]) rfl (by have:=hst.low.size;have:=Hbs.out;omega);have Hx4:=hid hx4;have zR:R<wo.heap.size:=hRl;have Hye:=hid hye;have Hze:=hid hze;have Hte:=hid hte;have Hyn:Hid (yss.length=pn):=by show _=_;rw [hpn];exact hyn
    have Hzn:Hid (zss.length=ln):=by show _=_;rw [hln];exact hzn
    have Htn:Hid (tss.length=tn):=by show _=_;rw [htn'];exact htn
    have Hyw:=hid hyw;have Hzw:=hid hzw;have Htw:=hid htw;have Hxo:=hid hxo;have Hsx:=hid hsx;have Hdat:Hid (pn=x.phis.length∧ln=x.list.length∧tn=x.fin.to.length∧ek=x.fin.kind∧er=x.fin.on.reg∧en=x.fin.on.n):=⟨hpn,hln,htn',hek,her,hen⟩
    have Hq:Hid (xss[k]?=some [.slice pa pn pc,.slice la ln lc,.int .i64 ek,.bool er,.int .i64 en,.slice ta tn tc]):=by show _=_;rw [hpn,hln,htn',hek,her,hen];exact hcs
    clear hst hcs hrb hxo hp hl ht hpm hlm htm hCl hRv hci hat hfz hat6 hye hyw hynil hyc hy1 hznil hzc hz1 htnil htc ht1 hx4 hyn hzn htn hze hte hzw htw hpn hln htn' hek her hen hsx hx hkl;go_upto_region 5 with (fail)
    obtain⟨LB,hLB⟩:∃LB,LB=wo.heap.size:=⟨_,rfl⟩
    obtain⟨W4,hW4⟩:∃W4,W4=wo.alloc (.cells #[.slice pa pn pc,.slice la ln lc,.int .i64 ek,.bool er,.int .i64 en,.slice ta tn tc] 76):=⟨_,rfl⟩
    have hl4:W4.heap[LB]?=some (.cells #[.slice pa pn pc,.slice la ln lc,.int .i64 ek,.bool er,.int .i64 en,.slice ta tn tc] 76 (0,0)):=by rw [hW4,hLB];exact heap_alloc_new _ _
    rw [←hW4,←hLB];have hb4:Below wo.heap.size wo W4:=by rw [hW4];(repeat (first | exact Below.refl _ _ | refine Below.alloc ?_ (by first|omega|(simp<;>omega)) _ | refine Below.setCell ?_ (by first|omega|(simp<;>omega)) _ | refine below_drewN ?_ _ | refine Below.drew ?_))
    have hr4:RowsAt W4 base (fun q=>okK bs k q∨q = .vBlk) (updP V .vBlk (.slice (some ⟨LB,0,none⟩) 1 1)) (updP (copC bs xss k V) .vBlk [[.slice pa pn pc,.slice la ln lc,.int .i64 ek,.bool er,.int .i64 en,.slice ta tn tc]]):=by
     have h:=Hx4.out;rw [←hLB] at h;rw [hW4];exact h
    have hlow4:Below base W3 W4:=Hst.out.low.trans (hb4.mono (by have:=Hst.out.low.size;have:=Hbs.out;omega));have Hr4:=hid hr4;have Hlow4:=hid hlow4;obtain⟨l0,l1,l2,l3,l4,l5⟩:=(cells_of (cs:=[_,_,_,_,_,_]) hl4).get6;rw [Nat.zero_add] at l1 l2 l3 l4 l5;have f0:=thawed hl4 0;have zL:LB<W4.heap.size:=cell_lt l0;have HLB:=hid hLB;have Hl4:=hid hl4;clear hLB hW4 hl4 hb4 hr4 hlow4 Hx4 q0 q1 q2 q3 q4 q5 zR;go_upto_region 6 with (go_at_call 103;refine (Hcp.out W4 (Hold.out W4 Hlow4.out)).mono ?_;rintro e w5 ⟨a5,c5,rfl,ho5,hb5⟩;have Ho5:=hid ho5;have Hb5:=hid hb5;have l0:=cell_later' l0 hb5;have f0:=(hb5.frozen (p:=⟨LB,0,none⟩) zL).trans f0;have zL:=cell_lt l0;clear ho5 hb5)
    obtain⟨W6,hW6⟩:∃W6,W6=w5.setCell ⟨LB,0,none⟩ (.slice a5 pn c5):=⟨_,rfl⟩
    rw [←hW6];have hw4b:base≤W4.heap.size:=by have:=Hlow4.out.size;have:=Hbs.out;omega
    have hA0:=copA_start Hr4.out Ho5.out Hyn.out Hyw.out Hb5.out hw4b;rw [←hW6] at hA0;have hlow6:Below base W3 W6:=by
     rw [hW6];exact (Hlow4.out.trans (Hb5.out.mono hw4b)).setCell (p:=⟨LB,0,none⟩) (by dsimp only;have:=HLB.out;have:=Hst.out.low.size;have:=Hbs.out;omega) _
    obtain⟨g0,g1,g2,g3,g4,g5⟩:=(hA0.at (p := .vBlk) trivial (g:=LB) (n:=1) (c:=1) (i:=0) (by simp [updP]) rfl).1.get6;simp only [Nat.zero_mul,Nat.zero_add] at g0 g1 g2 g3 g4 g5;have hca:CpA W3 W6 base bs xss yss [.slice a5 pn c5,.slice la ln lc,.int .i64 ek,.bool er,.int .i64 en,.slice ta tn tc] (.slice (some ⟨R,0,none⟩) n v0c) (.slice a5 pn c5) (.slice (some ⟨LB,0,none⟩) 1 1) k 0 _:=⟨hA0,Hst.out.blks,by simp [updP],by simp [updP],hlow6⟩
    have Hca:=hid hca;clear hW6 hw4b hA0 hlow6 hca l0 l1 l2 l3 l4 l5 f0 zL Ho5 Hb5 Hr4 Hl4;have hpn2:pn≤1048576:=by rw [Hdat.out.1];exact Hsx.out.phis
    go_wp2_with fail;clear g0 g1 g2 g3 g4 g5;go_loopw [28] (fun s28 wr=>∃(j:Nat) (U:Pth→Value),j≤pn∧s28 = .int .i64 (j:Int)∧CpA W3 wr base bs xss yss [.slice a5 pn c5,.slice la ln lc,.int .i64 ek,.bool er,.int .i64 en,.slice ta tn tc] (.slice (some ⟨R,0,none⟩) n v0c) (.slice a5 pn c5) (.slice (some ⟨LB,0,none⟩) 1 1) k j U) (fun s28 _=>pn - (intOf s28).toNat)
    case atStart=>exact⟨0,_,Nat.zero_le _,rfl,Hca.out⟩
    case round =>
     obtain⟨j,U,hj,rfl,hcj⟩:=hrel;have Hcj:=hid hcj;obtain⟨g0,g1,g2,g3,g4,g5⟩:=(hcj.rows.at (p := .vBlk) trivial (g:=LB) (n:=1) (c:=1) (i:=0) hcj.box rfl).1.get6;simp only [Nat.zero_mul,Nat.zero_add] at g0 g1 g2 g3 g4 g5
     by_cases hjn:j<pn
     · obtain⟨p,hp⟩:∃p,x.phis[j]?=some p:=⟨_,List.getElem?_eq_getElem (by have:=Hdat.out.1;omega)⟩
       obtain⟨cs,hcs,hrp⟩:=Hye.out j p hp;obtain⟨fa,fc,rfl,hsf,-⟩:=hrp.opens;obtain⟨fn,hfn⟩:∃fn,fn=p.src.length:=⟨_,rfl⟩
       obtain⟨pd,hpd⟩:∃pd,pd=p.dst:=⟨_,rfl⟩
       have hfn2:fn≤1048576:=by rw [hfn];exact Hsx.out.src p (List.mem_of_getElem? hp)
       rw [←hfn] at hsf;have hcl:0<(copA bs xss yss [.slice a5 pn c5,.slice la ln lc,.int .i64 ek,.bool er,.int .i64 en,.slice ta tn tc] k j U (.phis k)).length:=by simp only [copA,if_true];rw [List.length_mapIdx,Hyn.out];omega
       obtain⟨P,pcap,hPv,-,-,hPb,hPl⟩:=hcj.rows.addr (p := .phis k) (Nat.le_refl k) hcl;rw [hcj.phis] at hPv;have ha5:a5=some ⟨P,0,none⟩:=by injection hPv
       subst ha5;have hci:(copA bs xss yss [.slice (some ⟨P,0,none⟩) pn c5,.slice la ln lc,.int .i64 ek,.bool er,.int .i64 en,.slice ta tn tc] k j U (.phis k))[j]?=some [.int .i64 pd,.slice fa fn fc]:=by
        simp only [copA,if_true];rw [mapIdx_at,hcs,hfn,hpd];simp
       obtain⟨hpat,hpz⟩:=hcj.rows.at (p := .phis k) (Nat.le_refl k) hcj.phis hci;have hpat2:CellsAt wr P (j * 2) [.int .i64 pd,.slice fa fn fc]:=hpat;obtain⟨q0,q1⟩:=hpat2.get2;have qz:=hpz (j * 2+1);have hPL:¬P=LB:=by
        intro e;have:=hcj.rows.apart (.phis k) .vBlk (Nat.le_refl k) trivial (by simp) P (by rw [hcj.phis];rfl);rw [hcj.box] at this;exact this (by rw [e];rfl)
       have zL:LB<wr.heap.size:=cell_lt g0;have Hsf:=hid hsf;have Hp:=hid hp;have Hcs:Hid (yss[j]?=some [.int .i64 pd,.slice fa fn fc]):=by show _=_;rw [hpd,hfn];exact hcs
       have Hfn:Hid (fn=p.src.length∧pd=p.dst):=⟨hfn,hpd⟩
       have HPL:=hid hPL;have HPb:Hid (base≤P):=hPb;clear hcs hrp hsf hcl hPv hpat hpz hpat2 hp hfn hpd hci hPL hcj;go_upto_region 9 with (fail)
       obtain⟨W7,hW7⟩:∃W7,W7=wr.alloc (.cells #[.int .i64 pd,.slice fa fn fc] 94):=⟨_,rfl⟩
       have hb7:Below wr.heap.size wr W7:=by rw [hW7];(repeat (first | exact Below.refl _ _ | refine Below.alloc ?_ (by first|omega|(simp<;>omega)) _ | refine Below.setCell ?_ (by first|omega|(simp<;>omega)) _ | refine below_drewN ?_ _ | refine Below.drew ?_))
       obtain⟨PB,hPB⟩:∃PB,PB=wr.heap.size:=⟨_,rfl⟩
       have hl7:W7.heap[PB]?=some (.cells #[.int .i64 pd,.slice fa fn fc] 94 (0,0)):=by rw [hW7,hPB];exact heap_alloc_new _ _
       have h7s:W7.heap.size=PB+1:=by rw [hW7,hPB];simp
       rw [←hW7,←hPB];obtain⟨p0,p1⟩:=(cells_of (cs:=[_,_]) hl7).get2;rw [Nat.zero_add] at p1;have hPB2:P<PB∧LB<PB:=by rw [hPB];exact⟨hPl,zL⟩
       have HSd:Hid (W7.drew.cell? ⟨LB,0,none⟩=some (.slice (some ⟨P,0,none⟩) pn c5)∧W7.drew.cell? ⟨PB,1,none⟩=some (.slice fa fn fc))  := ⟨cell_later' g0 (hb7.trans ((Below.refl W7.heap.size W7).drew.mono hb7.size)),p1⟩
       have Hs1:Hid (W7.cell? ⟨P,j * 2+1,none⟩=some (.slice fa fn fc)∧W7.frozen? ⟨P,j * 2+1,none⟩=false):=⟨cell_later' q1 hb7,(hb7.frozen (p:=⟨P,j * 2+1,none⟩) hPl).trans qz⟩
       have Hold7:Hid (Below w.heap.size w W7.drew):=by
        have h:=Hold.out _ (Hcj.out.low.trans (hb7.mono (by have:=Hcj.out.low.size;have:=Hbs.out;omega)));show Below _ _ _;exact h.trans ((Below.refl W7.heap.size W7).drew.mono h.size)
       have Hcv:=hid (cloneVals_src Hsf.out Hold7.out hfn2);have Hb7:Hid (Below wr.heap.size wr W7):=hb7;have HPB:Hid (PB=wr.heap.size∧P<PB∧LB<PB∧W7.heap.size=PB+1):=⟨hPB,hPB2.1,hPB2.2,h7s⟩
       clear hW7 hb7 hPB hl7 h7s p0 p1 hPB2 g0 g1 g2 g3 g4 g5 q0 q1 qz zL hPl hPb Hold7
       go_region_held3 (fun w' => w'.cell? ⟨LB, 0, none⟩ = some (.slice (some ⟨P, 0, none⟩) pn c5) ∧ w'.cell? ⟨PB, 1, none⟩ = some (.slice fa fn fc))
        ((first | with_reducible exact HS9.out | with_reducible exact HS8.out | with_reducible exact HSd.out))
        ((go_at_call 104; (with_reducible refine Hcv.out.mono ?_); rintro e w8 ⟨a8, c8, rfl, ho8, hb8⟩
          have hb78 : Below W7.heap.size W7 w8 := (Below.refl W7.heap.size W7).drew.trans hb8
          have HS8 : Hid (w8.cell? ⟨LB, 0, none⟩ = some (.slice (some ⟨P, 0, none⟩) pn c5) ∧ w8.cell? ⟨PB, 1, none⟩ = some (.slice fa fn fc)) := ⟨cell_later' HSd.out.1 hb8, cell_later' HSd.out.2 hb8⟩
          have r1 := cell_later' Hs1.out.1 hb78
          have rz := (hb78.frozen (p := ⟨P, j * 2 + 1, none⟩) (cell_lt Hs1.out.1)).trans Hs1.out.2
          have HS9 : Hid ((w8.setCell ⟨P, j * 2 + 1, none⟩ (.slice a8 fn c8)).cell? ⟨LB, 0, none⟩ = some (.slice (some ⟨P, 0, none⟩) pn c5) ∧ (w8.setCell ⟨P, j * 2 + 1, none⟩ (.slice a8 fn c8)).cell? ⟨PB, 1, none⟩ = some (.slice fa fn fc)) := by
           refine ⟨?_, ?_⟩
           · exact (cell_set_ne _ (fun e => HPL.out e.symm) _ _).trans HS8.out.1
           · exact (cell_set_ne _ (fun e => absurd HPB.out.2.1 (by rw [e]; exact Nat.lt_irrefl _)) _ _).trans HS8.out.2
          have Ho8 := hid ho8
          have Hb78 := hid hb78
          clear ho8 hb8 hb78))
       go_wp2_with fail;go_roundw
       case rel =>
        have hbw:base≤wr.heap.size:=by have:=Hcj.out.low.size;have:=Hbs.out;omega
        have hrow:=copA_step (P:=P) (pn:=pn) (c:=c5) (m:=fn) (v := .slice a8 fn c8) Hcj.out.rows (HPB.out.1 ▸ (Hb7.out.trans (Hb78.out.mono Hb7.out.size))) (N:=W7.heap.size) Hb7.out.size Ho8.out Hfn.out.1.symm (by rw [Hxo.out];exact Hp.out) (f0 := .slice fa fn fc) (by rw [←Hfn.out.2];exact Hcs.out) (by rw [Hyn.out,Hxo.out];exact Hdat.out.1) Hcj.out.phis (by have:=Hcj.out.low.size;have:=Hbs.out;omega);exact⟨j+1,_,by omega,by go_num,⟨hrow,Hcj.out.blks,Hcj.out.phis,Hcj.out.box,(Hcj.out.low.trans ((Hb7.out.trans (Hb78.out.mono Hb7.out.size)).mono hbw)).setCell (p:=⟨P,j * 2+1,none⟩) HPb.out _⟩⟩
       case measure=>simp [intOf];omega
     · obtain⟨wi,hwi⟩:∃wi:World,wi=wr:=⟨_,rfl⟩
       subst hwi;have hjp:pn=j:=by omega
       subst hjp;have zL:LB<wi.heap.size:=cell_lt g0;have f1:=(hcj.rows.at (p := .vBlk) trivial (g:=LB) (n:=1) (c:=1) (i:=0) hcj.box rfl).2 1;clear hjn hj hcj;go_upto_region 12 with (go_at_call 105;refine (Hcl.out wi (Hold.out wi Hcj.out.low)).mono ?_;rintro e w9 ⟨a9,c9,rfl,ho9,hb9⟩;have Ho9:=hid ho9;have Hb9:=hid hb9;have g1:=cell_later' g1 hb9;have f1:=(hb9.frozen (p:=⟨LB,1,none⟩) zL).trans f1;have zL:=cell_lt g1;clear ho9 hb9)
       obtain⟨W10,hW10⟩:∃W10,W10=w9.setCell ⟨LB,1,none⟩ (.slice a9 ln c9):=⟨_,rfl⟩
       rw [←hW10];have hwib:base≤wi.heap.size:=by have:=Hcj.out.low.size;have:=Hbs.out;omega
       have hB0:=copB_start Hcj.out.rows (by rw [Hxo.out];exact Hdat.out.1) Hyn.out Hcj.out.box Ho9.out Hzn.out Hzw.out Hb9.out hwib;rw [←hW10] at hB0;have hlow10:Below base W3 W10:=by
        rw [hW10];exact (Hcj.out.low.trans (Hb9.out.mono hwib)).setCell (p:=⟨LB,1,none⟩) (by dsimp only;have:=HLB.out;have:=Hst.out.low.size;have:=Hbs.out;omega) _
       obtain⟨m0,m1,m2,m3,m4,m5⟩:=(hB0.at (p := .vBlk) trivial (g:=LB) (n:=1) (c:=1) (i:=0) (by rw [updP_ne _ _ (by simp)];exact Hcj.out.box) rfl).1.get6;simp only [Nat.zero_mul,Nat.zero_add] at m0 m1 m2 m3 m4 m5;have hcb:CpB W3 W10 base bs xss zss [.slice a5 pn c5,.slice a9 ln c9,.int .i64 ek,.bool er,.int .i64 en,.slice ta tn tc] (.slice (some ⟨R,0,none⟩) n v0c) (.slice a5 pn c5) (.slice a9 ln c9) (.slice (some ⟨LB,0,none⟩) 1 1) k 0 _:=⟨hB0,by rw [updP_ne _ _ (by simp)];exact Hcj.out.blks,by rw [updP_ne _ _ (by simp)];exact Hcj.out.phis,by rw [updP_self],by rw [updP_ne _ _ (by simp)];exact Hcj.out.box,hlow10⟩
       have Hcb:=hid hcb;have hln2:ln≤1048576:=by rw [Hdat.out.2.1];exact Hsx.out.list
       clear hW10 hwib hB0 hlow10 hcb g0 g1 g2 g3 g4 g5 f1 zL Ho9 Hb9 Hca;go_wp2_with fail;clear m0 m1 m2 m3 m4 m5;go_loopw [49] (fun s49 wr=>∃(j:Nat) (U:Pth→Value),j≤ln∧s49 = .int .i64 (j:Int)∧CpB W3 wr base bs xss zss [.slice a5 pn c5,.slice a9 ln c9,.int .i64 ek,.bool er,.int .i64 en,.slice ta tn tc] (.slice (some ⟨R,0,none⟩) n v0c) (.slice a5 pn c5) (.slice a9 ln c9) (.slice (some ⟨LB,0,none⟩) 1 1) k j U) (fun s49 _=>ln - (intOf s49).toNat)
       case atStart=>exact⟨0,_,Nat.zero_le _,rfl,Hcb.out⟩
       case round =>
        clear Hcb Hcj U;obtain⟨j,U,hj,rfl,hcj⟩:=hrel;have Hcj:=hid hcj;obtain⟨g0,g1,g2,g3,g4,g5⟩:=(hcj.rows.at (p := .vBlk) trivial (g:=LB) (n:=1) (c:=1) (i:=0) hcj.box rfl).1.get6;simp only [Nat.zero_mul,Nat.zero_add] at g0 g1 g2 g3 g4 g5
        by_cases hjn:j<ln
        · obtain⟨y,hy⟩:∃y,x.list[j]?=some y:=⟨_,List.getElem?_eq_getElem (by have:=Hdat.out.2.1;omega)⟩
          obtain⟨cs,hcs,hrp⟩:=Hze.out j y hy;obtain⟨fa,fc,rfl,hsf,-⟩:=hrp.opens;obtain⟨fn,hfn⟩:∃fn,fn=y.args.length:=⟨_,rfl⟩
          have hfn2:fn≤1048576:=by rw [hfn];exact Hsx.out.args y (List.mem_of_getElem? hy)
          rw [←hfn] at hsf;obtain⟨y0,hy0⟩:∃y0,y0=y.op:=⟨_,rfl⟩
          obtain⟨y1,hy1⟩:∃y1,y1=y.dst:=⟨_,rfl⟩
          obtain⟨y2,hy2⟩:∃y2,y2=y.a.reg:=⟨_,rfl⟩
          obtain⟨y3,hy3⟩:∃y3,y3=y.a.n:=⟨_,rfl⟩
          obtain⟨y4,hy4⟩:∃y4,y4=y.b.reg:=⟨_,rfl⟩
          obtain⟨y5,hy5⟩:∃y5,y5=y.b.n:=⟨_,rfl⟩
          obtain⟨y6,hy6⟩:∃y6,y6=y.fn:=⟨_,rfl⟩
          have hcl:0<(copB bs xss zss [.slice a5 pn c5,.slice a9 ln c9,.int .i64 ek,.bool er,.int .i64 en,.slice ta tn tc] k j U (.list k)).length:=by simp only [copB,if_true];rw [List.length_mapIdx,Hzn.out];omega
          obtain⟨Q,pcap,hPv,-,-,hPb,hPl⟩:=hcj.rows.addr (p := .list k) (Nat.le_refl k) hcl;rw [hcj.list] at hPv;have ha5:a9=some ⟨Q,0,none⟩:=by injection hPv
          subst ha5;have hci:(copB bs xss zss [.slice a5 pn c5,.slice (some ⟨Q,0,none⟩) ln c9,.int .i64 ek,.bool er,.int .i64 en,.slice ta tn tc] k j U (.list k))[j]?=some [.int .i64 y0,.int .i64 y1,.bool y2,.int .i64 y3,.bool y4,.int .i64 y5,.int .i64 y6,.slice fa fn fc]:=by
           simp only [copB,if_true];rw [mapIdx_at,hcs,hfn,hy0,hy1,hy2,hy3,hy4,hy5,hy6];simp
          obtain⟨hpat,hpz⟩:=hcj.rows.at (p := .list k) (Nat.le_refl k) hcj.list hci;have hpat2:CellsAt wr Q (j * 8) [.int .i64 y0,.int .i64 y1,.bool y2,.int .i64 y3,.bool y4,.int .i64 y5,.int .i64 y6,.slice fa fn fc]:=hpat;obtain⟨q0,q1,q2,q3,q4,q5,q6,q7⟩:=hpat2.get8;have qz:=hpz (j * 8+7);have hPL:¬Q=LB:=by
           intro e;have:=hcj.rows.apart (.list k) .vBlk (Nat.le_refl k) trivial (by simp) Q (by rw [hcj.list];rfl);rw [hcj.box] at this;exact this (by rw [e];rfl)
          have zL:LB<wr.heap.size:=cell_lt g0;have Hsf:=hid hsf;have Hp:=hid hy;have Hcs:Hid (zss[j]?=some (cellsI y (.slice fa fn fc))):=by show _=_;rw [hfn];exact hcs
          have Hfn:=hid hfn;have HPL:=hid hPL;have HPb:Hid (base≤Q):=hPb;clear hcs hrp hsf hcl hPv hpat hpz hpat2 hy hfn hci hPL hcj hy0 hy1 hy2 hy3 hy4 hy5 hy6;go_upto_region 15 with (fail)
          obtain⟨W7,hW7⟩:∃W7,W7=wr.alloc (.cells #[.int .i64 y0,.int .i64 y1,.bool y2,.int .i64 y3,.bool y4,.int .i64 y5,.int .i64 y6,.slice fa fn fc] 80):=⟨_,rfl⟩
          have hb7:Below wr.heap.size wr W7:=by rw [hW7];(repeat (first | exact Below.refl _ _ | refine Below.alloc ?_ (by first|omega|(simp<;>omega)) _ | refine Below.setCell ?_ (by first|omega|(simp<;>omega)) _ | refine below_drewN ?_ _ | refine Below.drew ?_))
          obtain⟨PB,hPB⟩:∃PB,PB=wr.heap.size:=⟨_,rfl⟩
          have hl7:W7.heap[PB]?=some (.cells #[.int .i64 y0,.int .i64 y1,.bool y2,.int .i64 y3,.bool y4,.int .i64 y5,.int .i64 y6,.slice fa fn fc] 80 (0,0)):=by rw [hW7,hPB];exact heap_alloc_new _ _
          have h7s:W7.heap.size=PB+1:=by rw [hW7,hPB];simp
          rw [←hW7,←hPB];have p1:=(cells_of (cs:=[_,_,_,_,_,_,_,_]) hl7) 7 _ rfl;rw [Nat.zero_add] at p1;have hPB2:Q<PB∧LB<PB:=by rw [hPB];exact⟨hPl,zL⟩
          have HSd:Hid (W7.drew.cell? ⟨LB,1,none⟩=some (.slice (some ⟨Q,0,none⟩) ln c9)∧W7.drew.cell? ⟨PB,7,none⟩=some (.slice fa fn fc)):=⟨cell_later' g1 (hb7.trans ((Below.refl W7.heap.size W7).drew.mono hb7.size)),p1⟩
          have Hs1:Hid (W7.cell? ⟨Q,j * 8+7,none⟩=some (.slice fa fn fc)∧W7.frozen? ⟨Q,j * 8+7,none⟩=false):=⟨cell_later' q7 hb7,(hb7.frozen (p:=⟨Q,j * 8+7,none⟩) hPl).trans qz⟩
          have Hold7:Hid (Below w.heap.size w W7.drew):=by
           have h:=Hold.out _ (Hcj.out.low.trans (hb7.mono (by have:=Hcj.out.low.size;have:=Hbs.out;omega)));show Below _ _ _;exact h.trans ((Below.refl W7.heap.size W7).drew.mono h.size)
          have Hcv:=hid (cloneVals_src Hsf.out Hold7.out hfn2);have Hb7:Hid (Below wr.heap.size wr W7):=hb7;have HPB:Hid (PB=wr.heap.size∧Q<PB∧LB<PB∧W7.heap.size=PB+1):=⟨hPB,hPB2.1,hPB2.2,h7s⟩
          clear hW7 hb7 hPB hl7 h7s p1 hPB2 g0 g1 g2 g3 g4 g5 q0 q1 q2 q3 q4 q5 q6 q7 qz zL hPl hPb Hold7
          go_region_held3 (fun w' => w'.cell? ⟨LB, 1, none⟩ = some (.slice (some ⟨Q, 0, none⟩) ln c9) ∧ w'.cell? ⟨PB, 7, none⟩ = some (.slice fa fn fc))
           ((first | with_reducible exact HS9.out | with_reducible exact HS8.out | with_reducible exact HSd.out))
           ((go_at_call 104; (with_reducible refine Hcv.out.mono ?_); rintro e w8 ⟨a8, c8, rfl, ho8, hb8⟩
             have hb78 : Below W7.heap.size W7 w8 := (Below.refl W7.heap.size W7).drew.trans hb8
             have HS8 : Hid (w8.cell? ⟨LB, 1, none⟩ = some (.slice (some ⟨Q, 0, none⟩) ln c9) ∧ w8.cell? ⟨PB, 7, none⟩ = some (.slice fa fn fc)) := ⟨cell_later' HSd.out.1 hb8, cell_later' HSd.out.2 hb8⟩
             have r1 := cell_later' Hs1.out.1 hb78
             have rz := (hb78.frozen (p := ⟨Q, j * 8 + 7, none⟩) (cell_lt Hs1.out.1)).trans Hs1.out.2
             have HS9 : Hid ((w8.setCell ⟨Q, j * 8 + 7, none⟩ (.slice a8 fn c8)).cell? ⟨LB, 1, none⟩ = some (.slice (some ⟨Q, 0, none⟩) ln c9) ∧ (w8.setCell ⟨Q, j * 8 + 7, none⟩ (.slice a8 fn c8)).cell? ⟨PB, 7, none⟩ = some (.slice fa fn fc)) := by
              refine ⟨?_, ?_⟩
              · exact (cell_set_ne _ (fun e => HPL.out e.symm) _ _).trans HS8.out.1
              · exact (cell_set_ne _ (fun e => absurd HPB.out.2.1 (by rw [e]; exact Nat.lt_irrefl _)) _ _).trans HS8.out.2
             have Ho8 := hid ho8
             have Hb78 := hid hb78
             clear ho8 hb8 hb78))
          go_wp2_with fail;go_roundw
          case rel =>
           have hbw:base≤wr.heap.size:=by have:=Hcj.out.low.size;have:=Hbs.out;omega
           have hrow:=copB_step (P:=Q) (pn:=ln) (c:=c9) (m:=fn) (v := .slice a8 fn c8) Hcj.out.rows (HPB.out.1 ▸ (Hb7.out.trans (Hb78.out.mono Hb7.out.size))) (N:=W7.heap.size) Hb7.out.size Ho8.out Hfn.out.symm (by rw [Hxo.out];exact Hp.out) (f0 := .slice fa fn fc) Hcs.out (by rw [Hzn.out,Hxo.out];exact Hdat.out.2.1) Hcj.out.list (by have:=Hcj.out.low.size;have:=Hbs.out;omega);exact⟨j+1,_,by omega,by go_num,⟨hrow,Hcj.out.blks,Hcj.out.phis,Hcj.out.list,Hcj.out.box,(Hcj.out.low.trans ((Hb7.out.trans (Hb78.out.mono Hb7.out.size)).mono hbw)).setCell (p:=⟨Q,j * 8+7,none⟩) HPb.out _⟩⟩
          case measure=>simp [intOf];omega
        · obtain⟨wk,hwk⟩:∃wk:World,wk=wr:=⟨_,rfl⟩
          subst hwk;have hjp:ln=j:=by omega
          subst hjp;have zL:LB<wk.heap.size:=cell_lt g0;have f5:=(hcj.rows.at (p := .vBlk) trivial (g:=LB) (n:=1) (c:=1) (i:=0) hcj.box rfl).2 5;clear hjn hj hcj;go_upto_region 18 with (go_at_call 65;refine (Hct.out wk (Hold.out wk Hcj.out.low)).mono ?_;rintro e w11 ⟨a11,c11,rfl,ho11,hb11⟩;have Ho11:=hid ho11;have Hb11:=hid hb11;have g0:=cell_later' g0 hb11;have g1:=cell_later' g1 hb11;have g2:=cell_later' g2 hb11;have g3:=cell_later' g3 hb11;have g4:=cell_later' g4 hb11;have g5:=cell_later' g5 hb11;have f5:=(hb11.frozen (p:=⟨LB,5,none⟩) zL).trans f5;have zL:=cell_lt g5;clear ho11 hb11)
          obtain⟨W12,hW12⟩:∃W12,W12=w11.setCell ⟨LB,5,none⟩ (.slice a11 tn c11):=⟨_,rfl⟩
          rw [←hW12];have hwkb:base≤wk.heap.size:=by have:=Hcj.out.low.size;have:=Hbs.out;omega
          have hb12:Below base wk w11:=Hb11.out.mono hwkb;have hlow12:Below base W3 W12:=by
           rw [hW12];exact (Hcj.out.low.trans hb12).setCell (p:=⟨LB,5,none⟩) (by dsimp only;have:=HLB.out;have:=Hst.out.low.size;have:=Hbs.out;omega) _
          have htot:tss=x.fin.to.map fun t=>[Value.int .i64 t]:=rows_map _ (by rw [Htn.out];exact Hdat.out.2.2.1) Hte.out (fun cs x h=>h.1);have ho12:=Ho11.out;rw [htot] at ho12;have HloR:Hid (base≤R∧¬R=LB∧R<wk.heap.size):=by
           show _∧_;have hC2:0<(copB bs xss zss [.slice a5 pn c5,.slice a9 ln c9,.int .i64 ek,.bool er,.int .i64 en,.slice ta tn tc] k ln U .blks).length:=by simp only [copB,copC];rw [List.length_mapIdx,Hxn.out];omega
           obtain⟨g,c,e,-,-,h1,h2⟩:=Hcj.out.rows.addr (p := .blks) trivial hC2;rw [Hcj.out.blks] at e;cases e;refine⟨h1,fun e=>?_,h2⟩;have:=Hcj.out.rows.apart .blks .vBlk trivial trivial (by simp) R (by rw [Hcj.out.blks];rfl);rw [Hcj.out.box] at this;exact this (by rw [e];rfl)
          obtain⟨hrat,hrz⟩:=Hcj.out.rows.at (p := .blks) trivial (g:=R) (n:=n) (c:=v0c) (i:=k) Hcj.out.blks (cs:=[.slice pa pn pc,.slice la ln lc,.int .i64 ek,.bool er,.int .i64 en,.slice ta tn tc]) (by simp only [copB,copC];rw [mapIdx_at,Hq.out];simp);have hcar:∀o u,wk.cell? ⟨R,o,none⟩=some u→W12.cell? ⟨R,o,none⟩=some u:=fun o u h=>by
           rw [hW12];exact (cell_set_ne _ HloR.out.2.1 _ _).trans (cell_later' h Hb11.out)
          have hrz12:∀o,W12.frozen? ⟨R,o,none⟩=false:=fun o=>by
           rw [hW12,World.frozen?_setCell];exact (Hb11.out.frozen (p:=⟨R,o,none⟩) HloR.out.2.2).trans (hrz o)
          have hrat2:CellsAt wk R (k * 6) [.slice pa pn pc,.slice la ln lc,.int .i64 ek,.bool er,.int .i64 en,.slice ta tn tc]:=hrat;obtain⟨t0,t1,t2,t3,t4,t5⟩:=hrat2.get6;have t0:=hcar _ _ t0;have t1:=hcar _ _ t1;have t2:=hcar _ _ t2;have t3:=hcar _ _ t3;have t4:=hcar _ _ t4;have t5:=hcar _ _ t5;have z0:=hrz12 (k * 6);have z1:=hrz12 (k * 6+1);have z2:=hrz12 (k * 6+2);have z3:=hrz12 (k * 6+3);have z4:=hrz12 (k * 6+4);have z5:=hrz12 (k * 6+5);have hne:∀o u,w11.cell? ⟨LB,o,none⟩=some u→o≠5→W12.cell? ⟨LB,o,none⟩=some u:=fun o u h ho=>by
           rw [hW12,cell_set g5,if_neg ho];exact h
          have l0:=hne _ _ g0 (by decide);have l1:=hne _ _ g1 (by decide);have l2:=hne _ _ g2 (by decide);have l3:=hne _ _ g3 (by decide);have l4:=hne _ _ g4 (by decide);have l5:W12.cell? ⟨LB,5,none⟩=some (.slice a11 tn c11):=by rw [hW12,cell_set g5,if_pos rfl]
          have hub:W12.heap[UB]?=some (.cells #[.string nm,.int .i64 p,.int .i64 r,.slice (some ⟨R,0,none⟩) n v0c] 38 (0,0)):=(hlow12.block UB Hbs.out.2.1).trans HF3.out;have d3:=(cells_of (cs:=[_,_,_,_]) hub) 3 _ rfl;rw [Nat.zero_add] at d3;have HW12:=hid hW12;have Hlow12:=hid hlow12;have Hb12:=hid hb12;have Ho12:=hid ho12;clear hrat hrz hcar hrz12 hrat2 hne hub hW12 hlow12 htot ho12 hb12 hwkb g0 g1 g2 g3 g4 g5 f5 zL Ho11;go_wp2_with fail;go_roundw
          case rel =>
           obtain⟨e1,e2,e3,e4,e5,e6⟩:=Hdat.out;have hx:bs[k]?=some x:=by
            have hkl:k<bs.length:=by rw [Hbn.out];exact hkn
            rw [List.getElem?_eq_getElem hkl,←Hxo.out,blkOf_at (List.getElem?_eq_getElem hkl)]
           have hwkb:base≤wk.heap.size:=by have:=Hcj.out.low.size;have:=Hbs.out;omega
           have hrw:=Hcj.out.rows;rw [e4,e5,e6] at hrw;have hrow:=copC_step (W':=w11) (LB:=LB) (tv := .slice a11 tn c11) (tn:=tn) (R:=R) (n:=n) (c:=v0c) hrw hx e2 Hzn.out Hq.out (by rw [Hxn.out,Hbn.out]) Hcj.out.blks Hcj.out.box Hcj.out.phis Hcj.out.list Ho12.out e3.symm Hb11.out hwkb;rw [←HW12.out,←e4,←e5,←e6] at hrow;refine⟨k+1,_,by omega,by go_num,⟨hrow,by rw [updP_ne _ _ (by simp)];exact Hcj.out.blks,?_⟩⟩;have hl:=HloR.out.1;exact (((((Hlow12.out.setCell (p:=⟨R,k * 6,none⟩) hl _).setCell (p:=⟨R,k * 6+1,none⟩) hl _).setCell (p:=⟨R,k * 6+2,none⟩) hl _).setCell (p:=⟨R,k * 6+3,none⟩) hl _).setCell (p:=⟨R,k * 6+4,none⟩) hl _).setCell (p:=⟨R,k * 6+5,none⟩) hl _
          case measure=>simp [intOf];omega
  · have hkn':k=n:=by omega
    subst hkn';have hub:wo.heap[UB]?=some (.cells #[.string nm,.int .i64 p,.int .i64 r,.slice v0a k v0c] 38 (0,0)):=(hst.low.block UB Hbs.out.2.1).trans HF3.out;have huo:wo.heap[UO]?=some (.cells #[.string ⟨#[]⟩,.int .i64 0,.int .i64 0,.slice none 0 0] 38 (0,0)):=(hst.low.block UO Hbs.out.2.2.1).trans HF1.out;obtain⟨d0,d1,d2,d3⟩:=(cells_of (cs:=[_,_,_,_]) hub).get4;obtain⟨o0,o1,o2,o3⟩:=(cells_of (cs:=[_,_,_,_]) huo).get4;rw [Nat.zero_add] at d1 d2 d3 o1 o2 o3;have z0:=thawed huo 0;have z1:=thawed huo 1;have z2:=thawed huo 2;have z3:=thawed huo 3;have ho4:CellsAt wo UO 0 [.string ⟨#[]⟩,.int .i64 0,.int .i64 0,.slice none 0 0]:=cells_of huo;clear hub huo hst hkn;go_wp2_with fail;have hW5:=set4 (u0 := .string nm) (u1 := .int .i64 p) (u2 := .int .i64 r) (u3 := .slice v0a k v0c) ho4;refine bodyPost_ret (func_res1 rfl rfl hW5) rfl ?_;have hlow:=Hst.out.low;have hr:=(((Hst.out.rows.setLow (a:=⟨UO,0,none⟩) Hbs.out.2.2.1 (.string nm)).setLow (a:=⟨UO,1,none⟩) Hbs.out.2.2.1 (.int .i64 p)).setLow (a:=⟨UO,2,none⟩) Hbs.out.2.2.1 (.int .i64 r)).setLow (a:=⟨UO,3,none⟩) Hbs.out.2.2.1 (.slice v0a k v0c);have hkb:bs.length=k:=Hbn.out;refine⟨V,base,by rw [Hst.out.blks],Hbs.out.1,copC_end (xss:=xss) (by rw [hkb];exact hr) (by rw [Hxn.out,hkb]),?_⟩;have h0:=Hw3.out.trans (hlow.mono Hbs.out.1);have hl:w.heap.size≤UO:=by have:=HUs.out;omega
    exact (((h0.setCell (p:=⟨UO,0,none⟩) hl _).setCell (p:=⟨UO,1,none⟩) hl _).setCell (p:=⟨UO,2,none⟩) hl _).setCell (p:=⟨UO,3,none⟩) hl _

end Go.Proofs.YtnkogppgacappaaGreatDoor
