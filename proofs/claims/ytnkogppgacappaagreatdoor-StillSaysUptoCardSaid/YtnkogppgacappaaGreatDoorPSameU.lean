/- turnerysame.Vals, Ins, Block, Func, Globals, Units, None, where both read the same: true. turnerysame.Globals, Units, None, where both read the same: true. -/
import Derived.Test.YtnkogppgacappaaGreatDoorPCloneR
import Derived.Test.YtnkogppgacappaaGreatDoorPMrg1
import Derived.Deep.RegionHeld3
namespace Go.Proofs.YtnkogppgacappaaGreatDoor
open Go.RowKit

theorem val_at {S:Nat→Prop}{w:World}{a:Option Addr}{n c:Nat}{l:List DVal}(h:SlAt S w 2 rVal (.slice a n c) l){k:Nat}(hk:k<l.length) :
 ∃b off,a=some ⟨b,off,none⟩∧w.cell? ⟨b,off+k * 2,none⟩=some (.bool l[k].reg)∧w.cell? ⟨b,off+k * 2+1,none⟩=some (.int .i64 l[k].n):=by
 obtain⟨b,off,cs,ha,-,⟨rfl,-⟩,-,hcs⟩:=h.get hk;obtain⟨c0,c1⟩:=hcs.get2;exact⟨b,off,ha,c0,c1⟩

set_option maxRecDepth 100000 in
set_option maxHeartbeats 1000000 in
theorem vals_same {S S':Nat→Prop}(a a':Option Addr)(c c':Nat)(l:List DVal)(w:World)(h:SlAt S w 2 rVal (.slice a l.length c) l)(h':SlAt S' w 2 rVal (.slice a' l.length c') l)(hn:l.length≤1048576) :
 Calls Tryz.prog 98 #[.slice a l.length c,.slice a' l.length c'] w fun e w'=>e = .returned (.bool true)∧Below w.heap.size w w':=by
 have H:=hid h;have H':=hid h';clear h h';go_enter Tryz.func98,Tryz.ntmps98;go_wp2_with fail;go_loopw [5] (fun i wr=>∃(k q:Nat),k≤l.length∧i = .int .i64 k∧w.drewN q=wr) (fun i _=>l.length - (intOf i).toNat)
 case atStart=>exact⟨0,0,Nat.zero_le _,rfl,rfl⟩
 case round =>
  obtain⟨k,q,hk,rfl,rfl⟩:=hrel
  by_cases hkl:k<l.length
  · obtain⟨b,off,rfl,c0,c1⟩:=val_at H.out hkl
    obtain⟨b',off',rfl,d0,d1⟩:=val_at H'.out hkl;have hb1:b<w.heap.size:=cell_lt c0;have hb2:b'<w.heap.size:=cell_lt d0;go_wp2_with fail;go_quiet (fail);go_wp2_with fail;go_roundw
    case rel=>exact⟨k+1,_,by omega,by go_num,rfl⟩
    case measure=>simp [intOf];omega
  · obtain rfl:k=l.length:=by omega
    go_wp2_with fail;go_ret;exact⟨rfl,by (repeat (first | exact Below.refl _ _ | refine Below.alloc ?_ (by first|omega|(simp<;>omega)) _ | refine Below.setCell ?_ (by first|omega|(simp<;>omega)) _ | refine below_drewN ?_ _ | refine Below.drew ?_))⟩

set_option maxRecDepth 100000 in
set_option maxHeartbeats 1000000 in
theorem sins_same {S S':Nat→Prop}(a a':Option Addr)(c c':Nat)(x:DIns)(w:World)(h:SlAt S w 2 rVal (.slice a x.args.length c) x.args)(h':SlAt S' w 2 rVal (.slice a' x.args.length c') x.args)(hn:x.args.length≤1048576) :
 Calls Tryz.prog 99 #[.agg #[.int .i64 x.op,.int .i64 x.dst,.bool x.a.reg,.int .i64 x.a.n,.bool x.b.reg,.int .i64 x.b.n,.int .i64 x.fn,.slice a x.args.length c],.agg #[.int .i64 x.op,.int .i64 x.dst,.bool x.a.reg,.int .i64 x.a.n,.bool x.b.reg,.int .i64 x.b.n,.int .i64 x.fn,.slice a' x.args.length c']] w fun e w' =>
  e = .returned (.bool true)∧Below w.heap.size w w':=by
 have H:=hid h;have H':=hid h';clear h h';go_enter Tryz.func99,Tryz.ntmps99;go_wp2_with fail;refine (vals_same (S:=S) (S':=S') a a' c c' x.args _ (H.out.later rVal_mono ?_) (H'.out.later rVal_mono ?_) hn).mono ?_
 · (repeat (first | exact Below.refl _ _ | refine Below.alloc ?_ (by first|omega|(simp<;>omega)) _ | refine Below.setCell ?_ (by first|omega|(simp<;>omega)) _ | refine below_drewN ?_ _ | refine Below.drew ?_))
 · (repeat (first | exact Below.refl _ _ | refine Below.alloc ?_ (by first|omega|(simp<;>omega)) _ | refine Below.setCell ?_ (by first|omega|(simp<;>omega)) _ | refine below_drewN ?_ _ | refine Below.drew ?_))
 rintro e w2 ⟨rfl,hb2⟩;go_wp2_with fail;go_ret;exact⟨rfl,by (have hz0:=(hb2).size;have hy0:=hz0;(try simp at hy0);repeat (first | exact Below.refl _ _ | refine Below.trans ?_ ((hb2).mono (by first|omega|(simp<;>omega))) | refine Below.alloc ?_ (by first|omega|(simp<;>omega)) _ | refine Below.setCell ?_ (by first|omega|(simp<;>omega)) _ | refine below_drewN ?_ _ | refine Below.drew ?_))⟩

set_option maxRecDepth 100000 in
set_option maxHeartbeats 4000000 in
theorem sblock_same {S S' : Nat → Prop} (pa la ta pa' la' ta' : Option Addr) (pc lc tc pc' lc' tc' : Nat) (x : DBlock) (w : World) (hp : SlAt S w 2 rPhi (.slice pa x.phis.length pc) x.phis) (hl : SlAt S w 8 rIns (.slice la x.list.length lc) x.list) (ht : SlAt S w 1 rInt (.slice ta x.fin.to.length tc) x.fin.to)
 (hp':SlAt S' w 2 rPhi (.slice pa' x.phis.length pc') x.phis) (hl':SlAt S' w 8 rIns (.slice la' x.list.length lc') x.list) (ht':SlAt S' w 1 rInt (.slice ta' x.fin.to.length tc') x.fin.to) (hs:SmallB x) :
 Calls Tryz.prog 59 #[.agg #[.slice pa x.phis.length pc,.slice la x.list.length lc,.int .i64 x.fin.kind,.bool x.fin.on.reg,.int .i64 x.fin.on.n,.slice ta x.fin.to.length tc],.agg #[.slice pa' x.phis.length pc',.slice la' x.list.length lc',.int .i64 x.fin.kind,.bool x.fin.on.reg,.int .i64 x.fin.on.n,.slice ta' x.fin.to.length tc']] w fun e w' =>
  e = .returned (.bool true)∧Below w.heap.size w w':=by
 have Hp:=hid hp;have Hl:=hid hl;have Ht:=hid ht;have Hp':=hid hp';have Hl':=hid hl';have Ht':=hid ht';have Hsm:=hid hs;have hp1:=hs.phis;have hl1:=hs.list;have ht1:=hs.to;clear hp hl ht hp' hl' ht' hs;go_enter Tryz.func59,Tryz.ntmps59;obtain⟨W0,hW0⟩:∃W0,W0=(w.alloc (.cells #[.slice pa x.phis.length pc,.slice la x.list.length lc,.int .i64 x.fin.kind,.bool x.fin.on.reg,.int .i64 x.fin.on.n,.slice ta x.fin.to.length tc] 76)).alloc (.cells #[.slice pa' x.phis.length pc',.slice la' x.list.length lc',.int .i64 x.fin.kind,.bool x.fin.on.reg,.int .i64 x.fin.on.n,.slice ta' x.fin.to.length tc'] 76):=⟨_,rfl⟩
 have hb0:Below w.heap.size w W0:=by rw [hW0];(repeat (first | exact Below.refl _ _ | refine Below.alloc ?_ (by first|omega|(simp<;>omega)) _ | refine Below.setCell ?_ (by first|omega|(simp<;>omega)) _ | refine below_drewN ?_ _ | refine Below.drew ?_))
 have hs0:W0.heap.size=w.heap.size+2:=by rw [hW0];simp
 have B0:CellsAt W0 w.heap.size 0 [.slice pa x.phis.length pc,.slice la x.list.length lc,.int .i64 x.fin.kind,.bool x.fin.on.reg,.int .i64 x.fin.on.n,.slice ta x.fin.to.length tc]:=by
  intro j u hj;rw [hW0,Nat.zero_add,World.cell?_alloc2_first];simpa using hj
 have B1:CellsAt W0 (w.heap.size+1) 0 [.slice pa' x.phis.length pc',.slice la' x.list.length lc',.int .i64 x.fin.kind,.bool x.fin.on.reg,.int .i64 x.fin.on.n,.slice ta' x.fin.to.length tc']:=by
  intro j u hj;rw [hW0,Nat.zero_add,World.cell?_alloc2_new];simpa using hj
 have Hb0:=hid hb0;have HB0:=hid B0;have HB1:=hid B1;have Hs0:=hid hs0;go_wp2_with fail;rw [←hW0];clear hW0 hb0 B0 B1 hs0;go_loopw [5] (fun i wr=>∃(k:Nat),k≤x.phis.length∧i = .int .i64 k∧Below W0.heap.size W0 wr) (fun i _=>x.phis.length - (intOf i).toNat)
 case atStart=>exact⟨0,Nat.zero_le _,rfl,Below.refl _ _⟩
 case round =>
  obtain⟨k,hk,rfl,hwr⟩:=hrel;have Hwr:=hid hwr;have Hw:=hid (Hb0.out.trans (hwr.mono Hb0.out.size));obtain⟨b0,b1,b2,b3,b4,b5⟩:=(HB0.out.later hwr).get6;obtain⟨e0,e1,e2,e3,e4,e5⟩:=(HB1.out.later hwr).get6;simp only [Nat.zero_add] at b1 b2 b3 b4 b5 e1 e2 e3 e4 e5;have z0:w.heap.size<wr.heap.size:=cell_lt b0;have z1:w.heap.size+1<wr.heap.size:=cell_lt e0;clear hwr
  by_cases hkl:k<x.phis.length
  · obtain⟨b,off,fa,fc,rfl,c0,c1,hv,-,-⟩:=phi_at (Hp.out.later rPhi_mono Hw.out) hkl
    obtain⟨b',off',fa',fc',rfl,d0,d1,hv',-,-⟩:=phi_at (Hp'.out.later rPhi_mono Hw.out) hkl;have hv2:=Hsm.out.src _ (List.getElem_mem hkl);obtain⟨y,hy⟩:∃y,y=x.phis[k]:=⟨_,rfl⟩
    rw [←hy] at c0 c1 d0 d1 hv hv' hv2;have Hv:=hid hv;have Hv':=hid hv';have zb:b<wr.heap.size:=cell_lt c0;have zb':b'<wr.heap.size:=cell_lt d0;clear hy hv hv' b1 b2 b3 b4 b5 e1 e2 e3 e4 e5;go_wp2_with fail
    go_region_held3 (fun w' => w'.cell? ⟨w.heap.size, 0, none⟩ = some (.slice (some ⟨b, off, none⟩) x.phis.length pc) ∧ w'.cell? ⟨w.heap.size + 1, 0, none⟩ = some (.slice (some ⟨b', off', none⟩) x.phis.length pc') ∧ w'.cell? ⟨b, off + k * 2, none⟩ = some (.int .i64 y.dst) ∧ w'.cell? ⟨b, off + k * 2 + 1, none⟩ = some (.slice fa y.src.length fc) ∧
     w'.cell? ⟨b', off' + k * 2, none⟩ = some (.int .i64 y.dst) ∧ w'.cell? ⟨b', off' + k * 2 + 1, none⟩ = some (.slice fa' y.src.length fc'))
     (first | go_keep | simp [go_sem, *])
     ((go_at_call 98;refine (vals_same (S:=S) (S':=S') fa fa' fc fc' y.src wr.drew (Hv.out.later rVal_mono (Below.refl _ _).drew) (Hv'.out.later rVal_mono (Below.refl _ _).drew) hv2).mono ?_;rintro e w2 ⟨rfl,hb2⟩;have hbb:Below wr.heap.size wr w2:=(Below.refl wr.heap.size wr).drew.trans hb2;have Hbb:=hid hbb;have n0:=cell_later' b0 hbb;have n1:=cell_later' e0 hbb;have n2:=cell_later' c0 hbb;have n3:=cell_later' c1 hbb;have n4:=cell_later' d0 hbb;have n5:=cell_later' d1 hbb;clear hb2 hbb))
    go_wp2_with fail;go_roundw
    case rel=>exact⟨k+1,by omega,by go_num,by have h:=Hwr.out;have h2:=Hbb.out;(have hz0:=(h2).size;have hy0:=hz0;(try simp at hy0);have hz1:=(h).size;have hy1:=hz1;(try simp at hy1);repeat (first | exact Below.refl _ _ | refine Below.trans ?_ ((h2).mono (by first|omega|(simp<;>omega))) | refine Below.trans ?_ ((h).mono (by first|omega|(simp<;>omega))) | refine Below.alloc ?_ (by first|omega|(simp<;>omega)) _ | refine Below.setCell ?_ (by first|omega|(simp<;>omega)) _ | refine below_drewN ?_ _ | refine Below.drew ?_))⟩
    case measure=>simp [intOf];omega
  · obtain rfl:k=x.phis.length:=by omega
    clear b2 b3 b4 b5 e2 e3 e4 e5;obtain⟨WA,hWA⟩:∃WA,WA=wr:=⟨_,rfl⟩
    go_wp2_with fail;rw [←hWA] at Hwr Hw ⊢;clear hWA b0 e0 b1 e1 z0 z1;go_loopw [6] (fun i wr=>∃(k:Nat),k≤x.list.length∧i = .int .i64 k∧Below WA.heap.size WA wr) (fun i _=>x.list.length - (intOf i).toNat)
    case atStart=>exact⟨0,Nat.zero_le _,rfl,Below.refl _ _⟩
    case round =>
     obtain⟨k,hk,rfl,hwr2⟩:=hrel;have hwr:Below W0.heap.size W0 wr:=Hwr.out.trans (hwr2.mono Hwr.out.size);have Hwr2:=hid hwr;have Hw2:=hid (Hb0.out.trans (hwr.mono Hb0.out.size));obtain⟨b0,b1,b2,b3,b4,b5⟩:=(HB0.out.later hwr).get6;obtain⟨e0,e1,e2,e3,e4,e5⟩:=(HB1.out.later hwr).get6;simp only [Nat.zero_add] at b1 b2 b3 b4 b5 e1 e2 e3 e4 e5;have z0:w.heap.size<wr.heap.size:=cell_lt b0;have z1:w.heap.size+1<wr.heap.size:=cell_lt e0;clear hwr
     by_cases hkl:k<x.list.length
     · obtain⟨b,off,fa,fc,rfl,hcs,hv,-⟩:=ins_at (Hl.out.later rIns_mono Hw2.out) hkl
       obtain⟨b',off',fa',fc',rfl,hcs',hv',-⟩:=ins_at (Hl'.out.later rIns_mono Hw2.out) hkl;have hv2:=Hsm.out.args _ (List.getElem_mem hkl);obtain⟨y,hy⟩:∃y,y=x.list[k]:=⟨_,rfl⟩
       rw [←hy] at hcs hcs' hv hv' hv2;obtain⟨c0,c1,c2,c3,c4,c5,c6,c7⟩:=hcs.get8;obtain⟨d0,d1,d2,d3,d4,d5,d6,d7⟩:=hcs'.get8;have Hv:=hid hv;have Hv':=hid hv';have zb:b<wr.heap.size:=cell_lt c0;have zb':b'<wr.heap.size:=cell_lt d0;clear hy hv hv' b0 b2 b3 b4 b5 e0 e2 e3 e4 e5 hcs hcs';go_wp2_with fail
       go_region_held3 (fun w' => w'.cell? ⟨w.heap.size, 1, none⟩ = some (.slice (some ⟨b, off, none⟩) x.list.length lc) ∧ w'.cell? ⟨w.heap.size + 1, 1, none⟩ = some (.slice (some ⟨b', off', none⟩) x.list.length lc') ∧ w'.cell? ⟨b, off + k * 8, none⟩ = some (.int .i64 y.op) ∧ w'.cell? ⟨b, off + k * 8 + 1, none⟩ = some (.int .i64 y.dst) ∧ w'.cell? ⟨b, off + k * 8 + 2, none⟩ = some (.bool y.a.reg) ∧ w'.cell? ⟨b, off + k * 8 + 3, none⟩ = some (.int .i64 y.a.n) ∧ w'.cell? ⟨b, off + k * 8 + 4, none⟩ = some (.bool y.b.reg) ∧ w'.cell? ⟨b, off + k * 8 + 5, none⟩ = some (.int .i64 y.b.n) ∧ w'.cell? ⟨b, off + k * 8 + 6, none⟩ = some (.int .i64 y.fn) ∧ w'.cell? ⟨b, off + k * 8 + 7, none⟩ = some (.slice fa y.args.length fc) ∧ w'.cell? ⟨b', off' + k * 8, none⟩ = some (.int .i64 y.op) ∧ w'.cell? ⟨b', off' + k * 8 + 1, none⟩ = some (.int .i64 y.dst) ∧ w'.cell? ⟨b', off' + k * 8 + 2, none⟩ = some (.bool y.a.reg) ∧ w'.cell? ⟨b', off' + k * 8 + 3, none⟩ = some (.int .i64 y.a.n) ∧ w'.cell? ⟨b', off' + k * 8 + 4, none⟩ = some (.bool y.b.reg) ∧ w'.cell? ⟨b', off' + k * 8 + 5, none⟩ = some (.int .i64 y.b.n) ∧ w'.cell? ⟨b', off' + k * 8 + 6, none⟩ = some (.int .i64 y.fn) ∧ w'.cell? ⟨b', off' + k * 8 + 7, none⟩ = some (.slice fa' y.args.length fc'))
        (first | go_keep | simp [go_sem, *])
        ((go_at_call 99;refine (sins_same (S:=S) (S':=S') fa fa' fc fc' y wr.drew (Hv.out.later rVal_mono (Below.refl _ _).drew) (Hv'.out.later rVal_mono (Below.refl _ _).drew) hv2).mono ?_;rintro e w2 ⟨rfl,hb2⟩;have hbb:Below wr.heap.size wr w2:=(Below.refl wr.heap.size wr).drew.trans hb2;have Hbb:=hid hbb;have n0:=cell_later' b1 hbb;have n1:=cell_later' e1 hbb;have nc0:=cell_later' c0 hbb;have nc1:=cell_later' c1 hbb;have nc2:=cell_later' c2 hbb;have nc3:=cell_later' c3 hbb;have nc4:=cell_later' c4 hbb;have nc5:=cell_later' c5 hbb;have nc6:=cell_later' c6 hbb;have nc7:=cell_later' c7 hbb;have nd0:=cell_later' d0 hbb;have nd1:=cell_later' d1 hbb;have nd2:=cell_later' d2 hbb;have nd3:=cell_later' d3 hbb;have nd4:=cell_later' d4 hbb;have nd5:=cell_later' d5 hbb;have nd6:=cell_later' d6 hbb;have nd7:=cell_later' d7 hbb;clear hb2 hbb))
       go_wp2_with fail;go_roundw
       case rel=>exact⟨k+1,by omega,by go_num,by have h2:=Hbb.out;(have hz0:=(h2).size;have hy0:=hz0;(try simp at hy0);have hz1:=(hwr2).size;have hy1:=hz1;(try simp at hy1);repeat (first | exact Below.refl _ _ | refine Below.trans ?_ ((h2).mono (by first|omega|(simp<;>omega))) | refine Below.trans ?_ ((hwr2).mono (by first|omega|(simp<;>omega))) | refine Below.alloc ?_ (by first|omega|(simp<;>omega)) _ | refine Below.setCell ?_ (by first|omega|(simp<;>omega)) _ | refine below_drewN ?_ _ | refine Below.drew ?_))⟩
       case measure=>simp [intOf];omega
     · obtain rfl:k=x.list.length:=by omega
       go_wp2_with fail;refine (ints_any (S:=S) (S':=S') _ _ _ _ _ _ _ (Ht.out.later rInt_mono Hw2.out) (Ht'.out.later rInt_mono Hw2.out) ht1 ht1).mono ?_;rintro e w2 ⟨rfl,hb2⟩;simp only [decide_true];go_wp2_with fail;go_ret;exact⟨rfl,by have h:=Hw2.out;(have hz0:=(hb2).size;have hy0:=hz0;(try simp at hy0);have hz1:=(h).size;have hy1:=hz1;(try simp at hy1);repeat (first | exact Below.refl _ _ | refine Below.trans ?_ ((hb2).mono (by first|omega|(simp<;>omega))) | refine Below.trans ?_ ((h).mono (by first|omega|(simp<;>omega))) | refine Below.alloc ?_ (by first|omega|(simp<;>omega)) _ | refine Below.setCell ?_ (by first|omega|(simp<;>omega)) _ | refine below_drewN ?_ _ | refine Below.drew ?_))⟩

set_option maxRecDepth 100000 in
set_option maxHeartbeats 4000000 in
theorem sfunc_same {S S':Nat→Prop}(nm:ByteArray)(p r:Int)(ba ba':Option Addr)(bc bc':Nat)(bs:List DBlock)(w:World)(hb:SlAt S w 6 rBlock (.slice ba bs.length bc) bs)(hb':SlAt S' w 6 rBlock (.slice ba' bs.length bc') bs)(hn:bs.length≤1048576)(hsm:∀x∈bs,SmallB x) :
 Calls Tryz.prog 30 #[.agg #[.string nm,.int .i64 p,.int .i64 r,.slice ba bs.length bc],.agg #[.string nm,.int .i64 p,.int .i64 r,.slice ba' bs.length bc']] w fun e w'=>e = .returned (.bool true)∧Below w.heap.size w w':=by
 have Hb:=hid hb;have Hb':=hid hb';have Hsm:=hid hsm;clear hb hb' hsm;go_enter Tryz.func30,Tryz.ntmps30;obtain⟨W0,hW0⟩:∃W0,W0=(w.alloc (.cells #[.string nm,.int .i64 p,.int .i64 r,.slice ba bs.length bc] 38)).alloc (.cells #[.string nm,.int .i64 p,.int .i64 r,.slice ba' bs.length bc'] 38):=⟨_,rfl⟩
 have hb0:Below w.heap.size w W0:=by rw [hW0];(repeat (first | exact Below.refl _ _ | refine Below.alloc ?_ (by first|omega|(simp<;>omega)) _ | refine Below.setCell ?_ (by first|omega|(simp<;>omega)) _ | refine below_drewN ?_ _ | refine Below.drew ?_))
 have B0:CellsAt W0 w.heap.size 0 [.string nm,.int .i64 p,.int .i64 r,.slice ba bs.length bc]:=by
  intro j u hj;rw [hW0,Nat.zero_add,World.cell?_alloc2_first];simpa using hj
 have B1:CellsAt W0 (w.heap.size+1) 0 [.string nm,.int .i64 p,.int .i64 r,.slice ba' bs.length bc']:=by
  intro j u hj;rw [hW0,Nat.zero_add,World.cell?_alloc2_new];simpa using hj
 have Hb0:=hid hb0;have HB0:=hid B0;have HB1:=hid B1;go_wp2_with fail;rw [←hW0];clear hW0 hb0 B0 B1;go_loopw [5] (fun i wr=>∃(k:Nat),k≤bs.length∧i = .int .i64 k∧Below W0.heap.size W0 wr) (fun i _=>bs.length - (intOf i).toNat)
 case atStart=>exact⟨0,Nat.zero_le _,rfl,Below.refl _ _⟩
 case round =>
  obtain⟨k,hk,rfl,hwr⟩:=hrel;have Hwr:=hid hwr;have Hw:=hid (Hb0.out.trans (hwr.mono Hb0.out.size));obtain⟨b0,b1,b2,b3⟩:=(HB0.out.later hwr).get4;obtain⟨e0,e1,e2,e3⟩:=(HB1.out.later hwr).get4;simp only [Nat.zero_add] at b1 b2 b3 e1 e2 e3;have z0:w.heap.size<wr.heap.size:=cell_lt b0;have z1:w.heap.size+1<wr.heap.size:=cell_lt e0;clear hwr b0 b1 b2 e0 e1 e2
  by_cases hkl:k<bs.length
  · obtain⟨b,off,pa,pc,la,lc,ta,tc,rfl,hcs,hp,hl,ht,-,-⟩:=block_at (Hb.out.later rBlock_mono Hw.out) hkl
    obtain⟨b',off',pa',pc',la',lc',ta',tc',rfl,hcs',hp',hl',ht',-,-⟩:=block_at (Hb'.out.later rBlock_mono Hw.out) hkl;have hv2:=Hsm.out _ (List.getElem_mem hkl);obtain⟨y,hy⟩:∃y,y=bs[k]:=⟨_,rfl⟩
    rw [←hy] at hcs hcs' hp hl ht hp' hl' ht' hv2;obtain⟨c0,c1,c2,c3,c4,c5⟩:=hcs.get6;obtain⟨d0,d1,d2,d3,d4,d5⟩:=hcs'.get6;have Hp:=hid hp;have Hl:=hid hl;have Ht:=hid ht;have Hp':=hid hp';have Hl':=hid hl';have Ht':=hid ht';have Hv2:=hid hv2;have zb:b<wr.heap.size:=cell_lt c0;have zb':b'<wr.heap.size:=cell_lt d0;have Hdr:Hid (Below wr.heap.size wr wr.drew):=(Below.refl _ _).drew;clear hy hp hl ht hp' hl' ht' hcs hcs' hv2;go_wp2_with fail
    go_region_held3 (fun w' => w'.cell? ⟨w.heap.size, 3, none⟩ = some (.slice (some ⟨b, off, none⟩) bs.length bc) ∧ w'.cell? ⟨w.heap.size + 1, 3, none⟩ = some (.slice (some ⟨b', off', none⟩) bs.length bc') ∧ w'.cell? ⟨b, off + k * 6, none⟩ = some (.slice pa y.phis.length pc) ∧ w'.cell? ⟨b, off + k * 6 + 1, none⟩ = some (.slice la y.list.length lc) ∧ w'.cell? ⟨b, off + k * 6 + 2, none⟩ = some (.int .i64 y.fin.kind) ∧ w'.cell? ⟨b, off + k * 6 + 3, none⟩ = some (.bool y.fin.on.reg) ∧ w'.cell? ⟨b, off + k * 6 + 4, none⟩ = some (.int .i64 y.fin.on.n) ∧ w'.cell? ⟨b, off + k * 6 + 5, none⟩ = some (.slice ta y.fin.to.length tc) ∧ w'.cell? ⟨b', off' + k * 6, none⟩ = some (.slice pa' y.phis.length pc') ∧ w'.cell? ⟨b', off' + k * 6 + 1, none⟩ = some (.slice la' y.list.length lc') ∧ w'.cell? ⟨b', off' + k * 6 + 2, none⟩ = some (.int .i64 y.fin.kind) ∧ w'.cell? ⟨b', off' + k * 6 + 3, none⟩ = some (.bool y.fin.on.reg) ∧ w'.cell? ⟨b', off' + k * 6 + 4, none⟩ = some (.int .i64 y.fin.on.n) ∧ w'.cell? ⟨b', off' + k * 6 + 5, none⟩ = some (.slice ta' y.fin.to.length tc'))
     (first | go_keep | simp [go_sem, *])
     ((go_at_call 59;refine (sblock_same (S:=S) (S':=S') pa la ta pa' la' ta' pc lc tc pc' lc' tc' y wr.drew (Hp.out.later rPhi_mono Hdr.out) (Hl.out.later rIns_mono Hdr.out) (Ht.out.later rInt_mono Hdr.out) (Hp'.out.later rPhi_mono Hdr.out) (Hl'.out.later rIns_mono Hdr.out) (Ht'.out.later rInt_mono Hdr.out) Hv2.out).mono ?_;rintro e w2 ⟨rfl,hb2⟩;have hbb:Below wr.heap.size wr w2:=(Below.refl wr.heap.size wr).drew.trans hb2;have Hbb:=hid hbb;have n0:=cell_later' b3 hbb;have n1:=cell_later' e3 hbb;have nc0:=cell_later' c0 hbb;have nc1:=cell_later' c1 hbb;have nc2:=cell_later' c2 hbb;have nc3:=cell_later' c3 hbb;have nc4:=cell_later' c4 hbb;have nc5:=cell_later' c5 hbb;have nd0:=cell_later' d0 hbb;have nd1:=cell_later' d1 hbb;have nd2:=cell_later' d2 hbb;have nd3:=cell_later' d3 hbb;have nd4:=cell_later' d4 hbb;have nd5:=cell_later' d5 hbb;clear hb2 hbb))
    go_wp2_with fail;go_roundw
    case rel=>exact⟨k+1,by omega,by go_num,by have h:=Hwr.out;have h2:=Hbb.out;(have hz0:=(h2).size;have hy0:=hz0;(try simp at hy0);have hz1:=(h).size;have hy1:=hz1;(try simp at hy1);repeat (first | exact Below.refl _ _ | refine Below.trans ?_ ((h2).mono (by first|omega|(simp<;>omega))) | refine Below.trans ?_ ((h).mono (by first|omega|(simp<;>omega))) | refine Below.alloc ?_ (by first|omega|(simp<;>omega)) _ | refine Below.setCell ?_ (by first|omega|(simp<;>omega)) _ | refine below_drewN ?_ _ | refine Below.drew ?_))⟩
    case measure=>simp [intOf];omega
  · obtain rfl:k=bs.length:=by omega
    go_wp2_with fail;go_ret;exact⟨rfl,Hw.out⟩

end Go.Proofs.YtnkogppgacappaaGreatDoor

namespace Go.Proofs.YtnkogppgacappaaGreatDoor
open Go.RowKit

set_option maxRecDepth 100000 in
set_option maxHeartbeats 4000000 in
theorem sglobals_same {S S':Nat→Prop}(ga ga':Option Addr)(gc gc':Nat)(gs:List DGlobal)(w:World)(hb:SlAt S w 3 rGlobal (.slice ga gs.length gc) gs)(hb':SlAt S' w 3 rGlobal (.slice ga' gs.length gc') gs)(hn:gs.length≤1048576)(hsm:∀x∈gs,x.init.length≤1048576) :
 Calls Tryz.prog 29 #[.slice ga gs.length gc,.slice ga' gs.length gc'] w fun e w'=>e = .returned (.bool true)∧Below w.heap.size w w':=by
 have Hb:=hid hb;have Hb':=hid hb';have Hsm:=hid hsm;clear hb hb' hsm;go_enter Tryz.func29,Tryz.ntmps29;go_wp2_with fail;go_loopw [5] (fun i wr=>∃(k:Nat),k≤gs.length∧i = .int .i64 k∧Below w.heap.size w wr) (fun i _=>gs.length - (intOf i).toNat)
 case atStart=>exact⟨0,Nat.zero_le _,rfl,Below.refl _ _⟩
 case round =>
  obtain⟨k,hk,rfl,hwr⟩:=hrel;have Hw:=hid hwr;clear hwr
  by_cases hkl:k<gs.length
  · obtain⟨b,off,ia,ic,rfl,hcs,hp,-⟩:=global_at (Hb.out.later rGlobal_mono Hw.out) hkl
    obtain⟨b',off',ia',ic',rfl,hcs',hp',-⟩:=global_at (Hb'.out.later rGlobal_mono Hw.out) hkl;have hv2:=Hsm.out _ (List.getElem_mem hkl);obtain⟨y,hy⟩:∃y,y=gs[k]:=⟨_,rfl⟩
    rw [←hy] at hcs hcs' hp hp' hv2;obtain⟨c0,c1,c2⟩:=hcs.get3;obtain⟨d0,d1,d2⟩:=hcs'.get3;have Hp:=hid hp;have Hp':=hid hp';have zb:b<wr.heap.size:=cell_lt c0;have zb':b'<wr.heap.size:=cell_lt d0;have Hdr:Hid (Below wr.heap.size wr wr.drew):=(Below.refl _ _).drew;clear hy hp hp' hcs hcs';go_wp2_with fail
    go_region_held3 (fun w' => w'.cell? ⟨b, off + k * 3, none⟩ = some (.string y.name) ∧ w'.cell? ⟨b, off + k * 3 + 1, none⟩ = some (.int .i64 y.size) ∧ w'.cell? ⟨b, off + k * 3 + 2, none⟩ = some (.slice ia y.init.length ic) ∧ w'.cell? ⟨b', off' + k * 3, none⟩ = some (.string y.name) ∧ w'.cell? ⟨b', off' + k * 3 + 1, none⟩ = some (.int .i64 y.size) ∧ w'.cell? ⟨b', off' + k * 3 + 2, none⟩ = some (.slice ia' y.init.length ic'))
     (first | go_keep | simp [go_sem, *])
     ((go_at_call 58;refine (ints_any (S:=S) (S':=S') ia ic y.init ia' ic' y.init wr.drew (Hp.out.later rInt_mono Hdr.out) (Hp'.out.later rInt_mono Hdr.out) hv2 hv2).mono ?_;rintro e w2 ⟨rfl,hb2⟩;have hbb:Below wr.heap.size wr w2:=(Below.refl wr.heap.size wr).drew.trans hb2;have Hbb:=hid hbb;have nc0:=cell_later' c0 hbb;have nc1:=cell_later' c1 hbb;have nc2:=cell_later' c2 hbb;have nd0:=cell_later' d0 hbb;have nd1:=cell_later' d1 hbb;have nd2:=cell_later' d2 hbb;clear hb2 hbb;simp only [decide_true]))
    go_wp2_with fail;go_roundw
    case rel=>exact⟨k+1,by omega,by go_num,by have h:=Hw.out;have h2:=Hbb.out;(have hz0:=(h2).size;have hy0:=hz0;(try simp at hy0);have hz1:=(h).size;have hy1:=hz1;(try simp at hy1);repeat (first | exact Below.refl _ _ | refine Below.trans ?_ ((h2).mono (by first|omega|(simp<;>omega))) | refine Below.trans ?_ ((h).mono (by first|omega|(simp<;>omega))) | refine Below.alloc ?_ (by first|omega|(simp<;>omega)) _ | refine Below.setCell ?_ (by first|omega|(simp<;>omega)) _ | refine below_drewN ?_ _ | refine Below.drew ?_))⟩
    case measure=>simp [intOf];omega
  · obtain rfl:k=gs.length:=by omega
    go_wp2_with fail;go_ret;exact⟨rfl,Hw.out⟩

set_option maxRecDepth 100000 in
set_option maxHeartbeats 4000000 in
theorem units_same {S S' : Nat → Prop} (ga ga' fa fa' : Option Addr) (gc gc' fc fc' : Nat) (gs : List DGlobal) (fs : List DFunc) (w : World) (hg : SlAt S w 3 rGlobal (.slice ga gs.length gc) gs) (hg' : SlAt S' w 3 rGlobal (.slice ga' gs.length gc') gs)
 (hf:SlAt S w 4 rFunc (.slice fa fs.length fc) fs) (hf':SlAt S' w 4 rFunc (.slice fa' fs.length fc') fs) (hn:gs.length≤1048576) (hsm:∀x∈gs,x.init.length≤1048576) (hfn:fs.length≤1048576) (hfs:∀f∈fs,SmallF f) :
 Calls Tryz.prog 12 #[.agg #[.slice ga gs.length gc,.slice fa fs.length fc],.agg #[.slice ga' gs.length gc',.slice fa' fs.length fc']] w fun e w'=>e = .returned (.bool true)∧Below w.heap.size w w':=by
 have Hg:=hid hg;have Hg':=hid hg';have Hf:=hid hf;have Hf':=hid hf';have Hsm:=hid hsm;have Hfs:=hid hfs;clear hg hg' hf hf' hsm hfs;go_enter Tryz.func12,Tryz.ntmps12;obtain⟨W0,hW0⟩:∃W0,W0=(w.alloc (.cells #[.slice ga gs.length gc,.slice fa fs.length fc] 25)).alloc (.cells #[.slice ga' gs.length gc',.slice fa' fs.length fc'] 25):=⟨_,rfl⟩
 have hb0:Below w.heap.size w W0:=by rw [hW0];(repeat (first | exact Below.refl _ _ | refine Below.alloc ?_ (by first|omega|(simp<;>omega)) _ | refine Below.setCell ?_ (by first|omega|(simp<;>omega)) _ | refine below_drewN ?_ _ | refine Below.drew ?_))
 have B0:CellsAt W0 w.heap.size 0 [.slice ga gs.length gc,.slice fa fs.length fc]:=by
  intro j u hj;rw [hW0,Nat.zero_add,World.cell?_alloc2_first];simpa using hj
 have B1:CellsAt W0 (w.heap.size+1) 0 [.slice ga' gs.length gc',.slice fa' fs.length fc']:=by
  intro j u hj;rw [hW0,Nat.zero_add,World.cell?_alloc2_new];simpa using hj
 have Hb0:=hid hb0;have HB0:=hid B0;have HB1:=hid B1;go_wp2_with fail;rw [←hW0];clear hW0 B0 B1;refine (sglobals_same (S:=S) (S':=S') ga ga' gc gc' gs W0 (Hg.out.later rGlobal_mono hb0) (Hg'.out.later rGlobal_mono hb0) hn Hsm.out).mono ?_;rintro e w1 ⟨rfl,hb1⟩;obtain⟨b0,b1⟩:=(HB0.out.later hb1).get2;obtain⟨e0,e1⟩:=(HB1.out.later hb1).get2;rw [Nat.zero_add] at b1 e1;have Hb1:=hid hb1;clear hb0 hb1;go_wp2_with fail;clear b0 b1 e0 e1;go_loopw [5] (fun i wr=>∃(k:Nat),k≤fs.length∧i = .int .i64 k∧Below W0.heap.size W0 wr) (fun i _=>fs.length - (intOf i).toNat)
 case atStart=>exact⟨0,Nat.zero_le _,rfl,Hb1.out⟩
 case round =>
  obtain⟨k,hk,rfl,hwr⟩:=hrel;have Hwr:=hid hwr;have Hw:=hid (Hb0.out.trans (hwr.mono Hb0.out.size));obtain⟨b0,b1⟩:=(HB0.out.later hwr).get2;obtain⟨e0,e1⟩:=(HB1.out.later hwr).get2;rw [Nat.zero_add] at b1 e1;have z0:w.heap.size<wr.heap.size:=cell_lt b0;have z1:w.heap.size+1<wr.heap.size:=cell_lt e0;clear hwr b0 e0
  by_cases hkl:k<fs.length
  · obtain⟨b,off,xa,xc,rfl,hcs,hp,-,-⟩:=func_at (Hf.out.later rFunc_mono Hw.out) hkl
    obtain⟨b',off',xa',xc',rfl,hcs',hp',-,-⟩:=func_at (Hf'.out.later rFunc_mono Hw.out) hkl;have hv2:=Hfs.out _ (List.getElem_mem hkl);obtain⟨y,hy⟩:∃y,y=fs[k]:=⟨_,rfl⟩
    rw [←hy] at hcs hcs' hp hp' hv2;obtain⟨c0,c1,c2,c3⟩:=hcs.get4;obtain⟨d0,d1,d2,d3⟩:=hcs'.get4;have Hp:=hid hp;have Hp':=hid hp';have Hv2:=hid hv2;have zb:b<wr.heap.size:=cell_lt c0;have zb':b'<wr.heap.size:=cell_lt d0;have Hdr:Hid (Below wr.heap.size wr wr.drew):=(Below.refl _ _).drew;clear hy hp hp' hcs hcs' hv2;go_wp2_with fail
    go_region_held3 (fun w' => w'.cell? ⟨w.heap.size, 1, none⟩ = some (.slice (some ⟨b, off, none⟩) fs.length fc) ∧ w'.cell? ⟨w.heap.size + 1, 1, none⟩ = some (.slice (some ⟨b', off', none⟩) fs.length fc') ∧ w'.cell? ⟨b, off + k * 4, none⟩ = some (.string y.name) ∧ w'.cell? ⟨b, off + k * 4 + 1, none⟩ = some (.int .i64 y.params) ∧ w'.cell? ⟨b, off + k * 4 + 2, none⟩ = some (.int .i64 y.regs) ∧ w'.cell? ⟨b, off + k * 4 + 3, none⟩ = some (.slice xa y.blocks.length xc) ∧ w'.cell? ⟨b', off' + k * 4, none⟩ = some (.string y.name) ∧ w'.cell? ⟨b', off' + k * 4 + 1, none⟩ = some (.int .i64 y.params) ∧ w'.cell? ⟨b', off' + k * 4 + 2, none⟩ = some (.int .i64 y.regs) ∧ w'.cell? ⟨b', off' + k * 4 + 3, none⟩ = some (.slice xa' y.blocks.length xc'))
     (first | go_keep | simp [go_sem, *])
     ((go_at_call 30;refine (sfunc_same (S:=S) (S':=S') y.name y.params y.regs xa xa' xc xc' y.blocks wr.drew (Hp.out.later rBlock_mono Hdr.out) (Hp'.out.later rBlock_mono Hdr.out) Hv2.out.blocks Hv2.out.each).mono ?_;rintro e w2 ⟨rfl,hb2⟩;have hbb:Below wr.heap.size wr w2:=(Below.refl wr.heap.size wr).drew.trans hb2;have Hbb:=hid hbb;have n0:=cell_later' b1 hbb;have n1:=cell_later' e1 hbb;have nc0:=cell_later' c0 hbb;have nc1:=cell_later' c1 hbb;have nc2:=cell_later' c2 hbb;have nc3:=cell_later' c3 hbb;have nd0:=cell_later' d0 hbb;have nd1:=cell_later' d1 hbb;have nd2:=cell_later' d2 hbb;have nd3:=cell_later' d3 hbb;clear hb2 hbb))
    go_wp2_with fail;go_roundw
    case rel=>exact⟨k+1,by omega,by go_num,by have h:=Hwr.out;have h2:=Hbb.out;(have hz0:=(h2).size;have hy0:=hz0;(try simp at hy0);have hz1:=(h).size;have hy1:=hz1;(try simp at hy1);repeat (first | exact Below.refl _ _ | refine Below.trans ?_ ((h2).mono (by first|omega|(simp<;>omega))) | refine Below.trans ?_ ((h).mono (by first|omega|(simp<;>omega))) | refine Below.alloc ?_ (by first|omega|(simp<;>omega)) _ | refine Below.setCell ?_ (by first|omega|(simp<;>omega)) _ | refine below_drewN ?_ _ | refine Below.drew ?_))⟩
    case measure=>simp [intOf];omega
  · obtain rfl:k=fs.length:=by omega
    go_wp2_with fail;go_ret;exact⟨rfl,Hw.out⟩

set_option maxHeartbeats 1000000 in
theorem none_any(ga fa:Option Addr)(gc fc n m:Nat)(w:World) :
 Calls Tryz.prog 9 #[.agg #[.slice ga n gc,.slice fa m fc]] w fun e w'=>e = .returned (.bool (decide (n=0)&&decide (m=0)))∧Below w.heap.size w w':=by
 by_cases h1:n=0
 · by_cases h2:m=0
   · subst h1 h2
     go_enter Tryz.func9,Tryz.ntmps9;go_wp2_with fail;go_ret;exact⟨rfl,by (repeat (first | exact Below.refl _ _ | refine Below.alloc ?_ (by first|omega|(simp<;>omega)) _ | refine Below.setCell ?_ (by first|omega|(simp<;>omega)) _ | refine below_drewN ?_ _ | refine Below.drew ?_))⟩
   · subst h1
     have hq:decide (m=0)=false:=decide_eq_false h2;go_enter Tryz.func9,Tryz.ntmps9;go_wp2_with fail;go_ret;exact⟨by simp [h2],by (repeat (first | exact Below.refl _ _ | refine Below.alloc ?_ (by first|omega|(simp<;>omega)) _ | refine Below.setCell ?_ (by first|omega|(simp<;>omega)) _ | refine below_drewN ?_ _ | refine Below.drew ?_))⟩
 · have hq:decide (n=0)=false:=decide_eq_false h1
   go_enter Tryz.func9,Tryz.ntmps9;go_wp2_with fail;go_ret;exact⟨by simp [h1],by (repeat (first | exact Below.refl _ _ | refine Below.alloc ?_ (by first|omega|(simp<;>omega)) _ | refine Below.setCell ?_ (by first|omega|(simp<;>omega)) _ | refine below_drewN ?_ _ | refine Below.drew ?_))⟩

theorem units_same' {S S' : Nat → Prop} (ga ga' fa fa' : Option Addr) (gc gc' fc fc' : Nat) (gs : List DGlobal) (fs : List DFunc) (n : Nat) (w : World) (hg : SlAt S w 3 rGlobal (.slice ga gs.length gc) gs) (hg' : SlAt S' w 3 rGlobal (.slice ga' gs.length gc') gs)
 (hf:SlAt S w 4 rFunc (.slice fa n fc) fs) (hf':SlAt S' w 4 rFunc (.slice fa' n fc') fs) (hl:fs.length=n) (hn:gs.length≤1048576) (hsm:∀x∈gs,x.init.length≤1048576) (hfn:n≤1048576) (hfs:∀f∈fs,SmallF f) :
 Calls Tryz.prog 12 #[.agg #[.slice ga gs.length gc,.slice fa n fc],.agg #[.slice ga' gs.length gc',.slice fa' n fc']] w fun e w'=>e = .returned (.bool true)∧Below w.heap.size w w':=by
 subst hl;exact units_same ga ga' fa fa' gc gc' fc fc' gs fs w hg hg' hf hf' hn hsm hfn hfs

end Go.Proofs.YtnkogppgacappaaGreatDoor
