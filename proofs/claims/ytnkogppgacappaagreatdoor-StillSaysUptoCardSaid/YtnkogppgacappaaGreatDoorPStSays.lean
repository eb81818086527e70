/- turneryref6.StillDone: the walk. StillSays: the law's walk. -/
import Derived.Test.YtnkogppgacappaaGreatDoorPSdPl
import Derived.Test.YtnkogppgacappaaGreatDoorPStillOk
import Derived.BigRegion
import Derived.Test.YtnkogppgacappaaGreatDoorPSameU
import Derived.Test.YtnkogppgacappaaGreatDoorPSsa0
import Derived.Test.YtnkogppgacappaaGreatDoorPStRest
import Derived.Deep.DeepCutAuto
import Derived.Deep.RegionHeld3
namespace Go.Proofs.YtnkogppgacappaaGreatDoor
open Go.RowKit

set_option maxRecDepth 100000 in
set_option maxHeartbeats 4000000 in
theorem stillDone_any {S : Nat → Prop} (ga : Option Addr) (gc : Nat) (fa : Option Addr) (fc : Nat) (gs : List DGlobal) (fs : List DFunc) (w : World)
 (hg:SlAt S w 3 rGlobal (.slice ga gs.length gc) gs) (hf:SlAt S w 4 rFunc (.slice fa fs.length fc) fs) (hck:checkF ⟨gs,fs⟩=(0,0)) :
 Calls Tryz.prog 16 #[.agg #[.slice ga gs.length gc,.slice fa fs.length fc]] w fun e w'=>∃go gc2 fo fc2,e = .returned (.agg #[.slice go gs.length gc2,.slice fo fs.length fc2]) ∧
  SlAt (fun c=>c<w'.heap.size) w' 3 rGlobal (.slice go gs.length gc2) gs∧SlAt (fun c=>c<w'.heap.size) w' 4 rFunc (.slice fo fs.length fc2) (fs.map (doneFn (stillF (wordsL gs) (insU fs)) (wordsL gs)))∧Below w.heap.size w w':=by
 obtain⟨hgl10,hgsz,hwu,hmn200⟩:=checkF_globs (u:=⟨gs,fs⟩) (by rw [hck]);obtain⟨hsmG,hsmF⟩:=checkF_small (u:=⟨gs,fs⟩) hck;have hfs10:fs.length≤10:=(checkF_ok (u:=⟨gs,fs⟩) (by rw [hck])).2.1;dsimp only at hgl10 hgsz hwu hmn200 hsmG hsmF;have hpos:0<fs.length:=checkF_pos (u:=⟨gs,fs⟩) hck;obtain⟨mem,hmem⟩:∃mem,mem=wordsL gs:=⟨_,rfl⟩
 obtain⟨ls,hls⟩:∃ls,ls=stillF mem (insU fs):=⟨_,rfl⟩
 rw [←hmem] at hwu hmn200 ⊢;rw [←hls];obtain⟨N,hN⟩:∃N,N=mem.length:=⟨_,rfl⟩
 have hlsN:ls.length=N:=by
  rw [hls,hN];unfold stillF;split
  · exact List.length_replicate
  · exact calmL_len _ _
 have hso:∀V,Below w.heap.size w V→Calls Tryz.prog 42 #[.agg #[.slice ga gs.length gc,.slice fa fs.length fc]] V fun e w'=>∃a c,e = .returned (.slice a N c)∧SlAt (fun b=>V.heap.size≤b) w' 1 rBool (.slice a N c) ls∧Below V.heap.size V w':=fun V hV=>by
  have h:=refStillOf_any (S:=S) ga fa gc fc gs fs V (hg.later rGlobal_mono hV) (hf.later rFunc_mono hV) hgl10 (fun g hg=>⟨(hgsz g hg).1,(hgsz g hg).2.1⟩) N (by rw [hwu,hN]) (by omega) (by omega) (fun f hf=>⟨(hsmF f hf).blocks,fun x hx=>((hsmF f hf).each x hx).list⟩);rw [hN,hmem,still_eq (fun g hg=>(hgsz g hg).2.2),←hmem,←hls,←hN] at h;exact h
 have hcl:∀V,Below w.heap.size w V→_:=fun V hV=>clone_rows (S:=S) ga fa gc fc gs fs V (hg.later rGlobal_mono hV) (hf.later rFunc_mono hV) (by omega) (by omega) hsmG hsmF;have hmi:∀x∈mem,I64 x:=by rw [hmem];exact words_i64 hg
 have Hmi:=hid hmi;clear hmi;have Hso:=hid hso;have Hcl:=hid hcl;have Hg:=hid hg;have Hgsz:=hid hgsz;have HsmF:=hid hsmF;have Hmem:=hid hmem;have HN:=hid hN;have HlsN:=hid hlsN;clear hso hcl hg hf hck hgsz hsmF hsmG hmem hls hN hlsN hwu;go_enter Tryz.func16,Tryz.ntmps16;obtain⟨W,hW⟩:∃W,W=(w.alloc (.cells #[.slice ga gs.length gc,.slice fa fs.length fc] 25)).alloc (.cells #[.slice none 0 0,.slice none 0 0] 25):=⟨_,rfl⟩
 obtain⟨hWs,h0,h1⟩:=two_cells w (.cells #[.slice ga gs.length gc,.slice fa fs.length fc] 25) (.cells #[.slice none 0 0,.slice none 0 0] 25);rw [←hW] at hWs h0 h1;have hbW:Below w.heap.size w W:=by rw [hW];(repeat (first | exact Below.refl _ _ | refine Below.alloc ?_ (by first|omega|(simp<;>omega)) _ | refine Below.setCell ?_ (by first|omega|(simp<;>omega)) _ | refine below_drewN ?_ _ | refine Below.drew ?_))
 go_upto_region 1 with (fail)
 rw [←hW];obtain⟨UB,hUB⟩:∃UB,UB=w.heap.size:=⟨_,rfl⟩
 obtain⟨UO,hUO⟩:∃UO,UO=w.heap.size+1:=⟨_,rfl⟩
 rw [←hUO] at h1 ⊢;rw [←hUB] at h0 ⊢;have Hst:Hid (∀V,Below W.heap.size W V→Below w.heap.size w V∧(V.cell? ⟨UB,0,none⟩=some (.slice ga gs.length gc)∧V.cell? ⟨UB,1,none⟩=some (.slice fa fs.length fc))∧V.heap[UO]?=some (.cells #[.slice none 0 0,.slice none 0 0] 25 (0,0))) :=
  fun V hV=>⟨hbW.trans (hV.mono hbW.size),by have h:=(cells_of (cs:=[_,_]) ((hV.block UB (by omega)).trans h0)).get2;rw [Nat.zero_add] at h;exact h,(hV.block UO (by omega)).trans h1⟩
 obtain⟨-,⟨c0,c1⟩,-⟩:=Hst.out W (Below.refl _ _);have zU:UB<W.heap.size:=cell_lt c0;have HUs:Hid (UB=w.heap.size∧UO=w.heap.size+1∧W.heap.size=w.heap.size+2):=⟨hUB,hUO,hWs⟩
 have Hs1:=hid (Hso.out W hbW);have HbW:=hid hbW;clear hW hWs h0 h1 hbW hUB hUO;go_upto_region 2 with
  (go_at_call 42; refine Hs1.out.mono ?_; rintro e w2 ⟨la, lc, rfl, hl2, hb2⟩
   obtain ⟨Hw2, ⟨c0, c1⟩, -⟩ := Hst.out w2 hb2
   have Hc2 := hid (Hcl.out w2 Hw2)
   have Hl2 := hid hl2
   have Hb2 := hid hb2
   have zU2 : UB < w2.heap.size := cell_lt c0
   clear hl2 hb2 Hw2)
 go_upto_region 3 with
  (go_at_call 31; refine Hc2.out.mono ?_; rintro e w3 ⟨go, gc2, fo, fc2, A, B, lo, hi, rfl, hA1, hA2, hgo, hcs, hb3⟩
   have HA := hid (And.intro hA1 hA2)
   have Hgo := hid hgo
   have Hcs := hid hcs
   have Hb3 := hid hb3
   clear hA1 hA2 hgo hcs hb3)
 obtain⟨W4,hW4⟩:∃W4,W4=w3.alloc (.cells #[.slice go gs.length gc2,.slice fo fs.length fc2] 25):=⟨_,rfl⟩
 have hb4:Below w3.heap.size w3 W4:=by rw [hW4];(repeat (first | exact Below.refl _ _ | refine Below.alloc ?_ (by first|omega|(simp<;>omega)) _ | refine Below.setCell ?_ (by first|omega|(simp<;>omega)) _ | refine below_drewN ?_ _ | refine Below.drew ?_))
 obtain⟨TB,hTB⟩:∃TB,TB=w3.heap.size:=⟨_,rfl⟩
 have hT4:W4.heap[TB]?=some (.cells #[.slice go gs.length gc2,.slice fo fs.length fc2] 25 (0,0)):=by rw [hW4,hTB];exact heap_alloc_new _ _
 rw [←hW4,←hTB];have hb24:Below w2.heap.size w2 W4:=Hb3.out.trans (hb4.mono Hb3.out.size);have hbW4:Below W.heap.size W W4:=Hb2.out.trans (hb24.mono Hb2.out.size);have hsd:SdSt TB W4 A (.slice fo fs.length fc2) fs B lo hi:=by rw [hTB];exact (SdSt.of Hcs.out).later hb4
 have hAT:A≤TB∧w.heap.size+2<A:=by have:=HA.out;have:=Hb2.out.size;have:=HUs.out;omega
 have HAT:=hid hAT
 have Hbx : Hid (∀ V, Kp (fun c => c < A ∨ TB ≤ c) W4 V → Below w.heap.size w V ∧ ((V.cell? ⟨TB, 0, none⟩ = some (.slice go gs.length gc2) ∧ V.cell? ⟨TB, 1, none⟩ = some (.slice fo fs.length fc2)) ∧ (V.cell? ⟨UB, 0, none⟩ = some (.slice ga gs.length gc) ∧ V.cell? ⟨UB, 1, none⟩ = some (.slice fa fs.length fc))) ∧
  V.heap[UO]? = some (.cells #[.slice none 0 0, .slice none 0 0] 25 (0, 0)) ∧ SlAt (fun c => c < A) V 1 rBool (.slice la N lc) ls ∧ SlAt (fun c => UO < c ∧ c < A) V 3 rGlobal (.slice go gs.length gc2) gs) := fun V hV => by
  obtain⟨g1,⟨g2,g3⟩,g4⟩:=Hst.out W4 hbW4;have hu:=HUs.out;refine⟨g1.trans (hV.below fun b hb=>⟨Nat.lt_of_lt_of_le hb g1.size,.inl (by omega)⟩),⟨?_,hV.cell (.inl (by omega)) g2,hV.cell (.inl (by omega)) g3⟩,(hV.block UO (Array.getElem?_eq_some_iff.1 g4).1 (.inl (by omega))).trans g4,?_,?_⟩
  · obtain⟨e0,e1⟩:=(cells_of (cs:=[_,_]) hT4).get2
    rw [Nat.zero_add] at e1;exact⟨hV.cell (.inr (Nat.le_refl _)) e0,hV.cell (.inr (Nat.le_refl _)) e1⟩
  · exact (((Hl2.out.live (by decide) fun _ _ h=>h).later rBool_mono hb24).mono rBool_mono (fun b hb=>(by have:=hb.2;have:=HA.out;omega:b<A)) (Stays.refl _ _)).mono rBool_mono (fun _ h=>h) (hV.stays fun b hb => .inl hb)
  · exact ((Hgo.out.toSl rGlobal_mono (by decide)).mono rGlobal_mono (fun b hb=>(⟨by have:=hb.1;have:=Hb2.out.size;have:=HUs.out;omega,hb.2⟩:UO<b∧b<A)) (Stays.below' hb4)).mono rGlobal_mono (fun _ h=>h) (hV.stays fun b hb => .inl hb.2)
 obtain⟨FB,rfl⟩:∃FB,fo=some ⟨FB,0,none⟩:=by
  obtain⟨g,c',hv,-⟩:=hsd.row.at (i:=0) (by rw [List.getElem?_mapIdx,List.getElem?_eq_getElem hpos];rfl) (by decide)
  exact⟨g,by injection hv⟩
 have Hsd:=hid hsd;clear hW4 hb4 hTB hT4 hb24 hbW4 hsd hAT c0 c1 zU zU2;go_wp2_with fail;go_loopw [5] (fun s5 wr=>∃k:Nat,k≤fs.length∧s5 = .int .i64 (k:Int)∧SdSt TB wr A (.slice (some ⟨FB,0,none⟩) fs.length fc2) (fsUp ls mem fs k) B lo hi∧Kp (fun c=>c<A∨TB≤c) W4 wr) (fun s5 _=>fs.length - (intOf s5).toNat)
 case atStart=>exact⟨0,Nat.zero_le _,rfl,by rw [fsUp_zero];exact Hsd.out,Kp.refl _ _⟩
 case round =>
  obtain⟨wo,hwo⟩:∃wo:World,wo=wr:=⟨_,rfl⟩
  subst hwo;obtain⟨k,hk,rfl,hd,hkp⟩:=hrel;obtain⟨-,⟨⟨t0,t1⟩,-⟩,-⟩:=Hbx.out wo hkp;have zT:TB<wo.heap.size:=cell_lt t0;have Hd:=hid hd;have Hkp:=hid hkp;clear hd hkp
  by_cases hkl:k<fs.length
  · obtain⟨f,hf⟩:∃f,fs[k]?=some f:=⟨_,List.getElem?_eq_getElem hkl⟩
    have Hf:=hid hf;have hd1:SdSt TB wo A (.slice (some ⟨FB,0,none⟩) fs.length fc2) (fsB ls mem fs k 0 f) B lo hi:=by rw [←fsUp_open ls mem hf];exact Hd.out
    have Hd1:=hid hd1;obtain⟨nb,hnb⟩:∃nb,nb=f.blocks.length:=⟨_,rfl⟩
    have Hnb:=hid hnb;have hnb9:nb≤1048576:=by rw [hnb];exact (HsmF.out f (List.mem_of_getElem? hf)).blocks
    clear hf hd1 hnb;go_wp2_with fail;clear t0 t1 zT;go_loopw [6] (fun s6 wr=>∃b:Nat,b≤nb∧s6 = .int .i64 (b:Int)∧SdSt TB wr A (.slice (some ⟨FB,0,none⟩) fs.length fc2) (fsB ls mem fs k b f) B lo hi∧Kp (fun c=>c<A∨TB≤c) W4 wr) (fun s6 _=>nb - (intOf s6).toNat)
    case atStart=>exact⟨0,Nat.zero_le _,rfl,Hd1.out,Hkp.out⟩
    case round =>
     obtain⟨wb,hwb⟩:∃wb:World,wb=wr:=⟨_,rfl⟩
     subst hwb;obtain⟨b,hb,rfl,hd,hkp⟩:=hrel;obtain⟨-,⟨⟨t0,t1⟩,-⟩,-⟩:=Hbx.out wb hkp;have zT:TB<wb.heap.size:=cell_lt t0;have hfat:=fsB_at ls mem (b:=b) Hf.out;obtain⟨d3,ba,bc,hBk⟩:=hd.funcCell hfat rfl;dsimp only at hBk;rw [bsUp_len,←Hnb.out] at hBk;rw [hBk] at d3;have zF:FB<wb.heap.size:=cell_lt d3
     by_cases hbl:b<nb
     · obtain⟨x,hx⟩:∃x,f.blocks[b]?=some x:=⟨_,List.getElem?_eq_getElem (by rw [←Hnb.out];exact hbl)⟩
       have hxb:(bsUp ls mem f.blocks b)[b]?=some x:=upF_at _ hx;obtain⟨g,c,oa,oc,hBk',hcell,hfro,hold,hgA,hgT⟩:=hd.listCell hfat hxb;have hba:ba=some ⟨g,0,none⟩:=by rw [hBk] at hBk';injection hBk'
       subst hba;obtain⟨xn,hxn⟩:∃xn,xn=x.list.length:=⟨_,rfl⟩
       rw [←hxn] at hold hcell;have hxn9:xn≤1048576:=by rw [hxn];exact ((HsmF.out f (List.mem_of_getElem? Hf.out)).each x (List.mem_of_getElem? hx)).list
       obtain⟨SS,hSS⟩:∃SS:Nat→Prop,SS=fun c=>SdS TB (lo k) (hi k) (B k) c∧c<wb.heap.size:=⟨_,rfl⟩
       have hold2:SlAt SS wb 8 rIns (.slice oa xn oc) x.list:=by
        rw [hSS];exact hold.live (by decide) fun cs x ⟨v,q1,q2,q3⟩=>⟨v,q1,q2.live (by decide) (fun _ _ q=>q),q3⟩
       have HSS:=hid hSS;have Hold:=hid hold2;have Hxn:=hid hxn;have Hx:=hid hx;have Hxb:=hid hxb;have Hd2:=hid hd;have Hkp2:=hid hkp;have Hfat:=hid hfat;have HBk:=hid hBk;have HgA:=hid (And.intro hgA hgT);have zg:g<wb.heap.size:=cell_lt hcell;obtain⟨ii,hii,hiz0,hiz1,hiz2⟩:=info_parts infoIns;clear hd hkp hfat hBk hBk' hx hxb hold hold2 hxn hSS hgA hgT;go_wp2_with fail;clear t0 t1 zT d3 zF hcell;go_loopw [8,9] (fun s8 s9 wr=>∃(i:Nat) (xs:List (List Value)) (v:Value),v=s8∧i≤xn∧s9 = .int .i64 (i:Int)∧NowSt wr wb.heap.size SS v (outL ls mem (x.list.take i)) xs∧Below wb.heap.size wb wr) (fun _ s9 _=>xn - (intOf s9).toNat)
       case atStart=>exact⟨0,[],_,rfl,Nat.zero_le _,rfl,NowSt.nil _ _ _,Below.refl _ _⟩
       case round =>
        obtain⟨wi,hwi⟩:∃wi:World,wi=wr:=⟨_,rfl⟩
        subst hwi;obtain⟨i,xs,v,rfl,hi9,rfl,hnow,hbi⟩:=hrel
        by_cases hin:i<xn
        · have hil:i<x.list.length:=by rw [←Hxn.out];exact hin
          obtain⟨y,hy⟩:∃y,x.list[i]?=some y:=⟨_,List.getElem?_eq_getElem hil⟩
          have hye:x.list[i]=y:=by rw [List.getElem?_eq_getElem hil] at hy;exact Option.some.inj hy
          have holdi:=Hold.out.later rIns_mono hbi;rw [Hxn.out] at holdi;obtain⟨ob,oo,aa,ac,hoa,hat,hargs,hnum⟩:=ins_at holdi hil;rw [hye] at hat hargs hnum;subst hoa;obtain⟨yo,yd,⟨r,yn⟩,⟨br,bn⟩,yf,yargs⟩:=y;dsimp only at hat hargs hnum;obtain⟨al,hal⟩:∃al,al=yargs.length:=⟨_,rfl⟩
          rw [←hal] at hat hargs;obtain⟨d0,d1,d2,d3,d4,d5,d6,d7⟩:=hat.get8;have zo:=cell_lt d0;obtain⟨hw0,⟨-,c0,c1⟩,-,hla,-⟩:=Hbx.out wi (Hkp2.out.trans (Kp.of hbi));have hxs9:xs.length≤1048576:=by rw [hnow.len];refine Nat.le_trans (outL_len _) ?_;rw [List.length_take];omega
          have hrd:rIns SS wi [.int .i64 yo,.int .i64 yd,.bool r,.int .i64 yn,.bool br,.int .i64 bn,.int .i64 yf,.slice aa al ac] ⟨yo,yd,⟨r,yn⟩,⟨br,bn⟩,yf,yargs⟩:=⟨_,rfl,hargs,hnum⟩
          have Hrd:=hid hrd;have Hnow:=hid hnow;have Hbi:=hid hbi;have Hy:=hid hy;have Hla:=hid hla;have Hw0:=hid hw0;have Hxs:=hid hxs9;have zUi:UB<wi.heap.size:=cell_lt c0;clear hnow hbi hy hye holdi hat hargs hnum hrd hla hw0 hil hal hxs9;go_upto_region 15 with (fail)
          obtain⟨BB,hBB⟩:∃BB,BB=wi.heap.size:=⟨_,rfl⟩
          obtain⟨W7,hW7⟩:∃W7,W7=wi.alloc (.cells #[.int .i64 yo,.int .i64 yd,.bool r,.int .i64 yn,.bool br,.int .i64 bn,.int .i64 yf,.slice aa al ac] 80):=⟨_,rfl⟩
          have hl7:W7.heap[BB]?=some (.cells #[.int .i64 yo,.int .i64 yd,.bool r,.int .i64 yn,.bool br,.int .i64 bn,.int .i64 yf,.slice aa al ac] 80 (0,0)):=by rw [hW7,hBB];exact heap_alloc_new _ _
          have hb7:Below wi.heap.size wi W7:=by rw [hW7];(repeat (first | exact Below.refl _ _ | refine Below.alloc ?_ (by first|omega|(simp<;>omega)) _ | refine Below.setCell ?_ (by first|omega|(simp<;>omega)) _ | refine below_drewN ?_ _ | refine Below.drew ?_))
          rw [←hW7,←hBB];obtain⟨x0,x1,x2,x3,x4,x5,x6,x7⟩:=(cells_of (cs:=[_,_,_,_,_,_,_,_]) hl7).get8;rw [Nat.zero_add] at x1 x2 x3 x4 x5 x6 x7;have zB:=cell_lt x0;have c0:=cell_later' c0 hb7;have c1:=cell_later' c1 hb7;have zU7:UB<W7.heap.size:=cell_lt c0;have Hb7:=hid hb7;have Hnow7:=hid (Hnow.out.later hb7);have Hwz:Hid (wb.heap.size≤W7.heap.size):=Nat.le_trans Hbi.out.size hb7.size
          have Hkeep : Hid (goneI ls ⟨yo, yd, ⟨r, yn⟩, ⟨br, bn⟩, yf, yargs⟩ = false ∧ calmI ls ⟨yo, yd, ⟨r, yn⟩, ⟨br, bn⟩, yf, yargs⟩ = false → ∀ v9 w9, w9.ownsRow wb.heap.size 80 8 v9 (xs.length + 1) (xs.flatten ++ [.int .i64 yo, .int .i64 yd, .bool r, .int .i64 yn, .bool br, .int .i64 bn, .int .i64 yf, .slice aa al ac]) →
           (W7.alloc (.cells #[.int .i64 yo, .int .i64 yd, .bool r, .int .i64 yn, .bool br, .int .i64 bn, .int .i64 yf, .slice aa al ac] 80)).grownBy w9 v.ownBlock → NowSt w9 wb.heap.size SS v9 (outL ls mem (x.list.take (i + 1))) (xs ++ [[.int .i64 yo, .int .i64 yd, .bool r, .int .i64 yn, .bool br, .int .i64 bn, .int .i64 yf, .slice aa al ac]]) ∧ Below wb.heap.size wb w9) := fun hg v9 w9 hown hgrow => by
           have hb:Below wi.heap.size wi (W7.alloc (.cells #[.int .i64 yo,.int .i64 yd,.bool r,.int .i64 yn,.bool br,.int .i64 bn,.int .i64 yf,.slice aa al ac] 80)):=by (have hz0:=(hb7).size;have hy0:=hz0;(try simp at hy0);repeat (first | exact Below.refl _ _ | refine Below.trans ?_ ((hb7).mono (by first|omega|(simp<;>omega))) | refine Below.alloc ?_ (by first|omega|(simp<;>omega)) _ | refine Below.setCell ?_ (by first|omega|(simp<;>omega)) _ | refine below_drewN ?_ _ | refine Below.drew ?_))
           have hn:=Hnow.out.snoc hb rfl Hrd.out hown hgrow (fun c hc=>by rw [HSS.out] at hc;exact hc.2);rw [outL_snoc Hy.out,hg.1];have hd:doneI ls mem ⟨yo,yd,⟨r,yn⟩,⟨br,bn⟩,yf,yargs⟩=⟨yo,yd,⟨r,yn⟩,⟨br,bn⟩,yf,yargs⟩:=by unfold doneI;rw [hg.2];rfl
           rw [hd];exact⟨hn,Below.grown (Hbi.out.trans (hb.mono Hbi.out.size)) hgrow (by have:=Hbi.out.size;have:=hb.size;omega) (fun c hc=>(Hnow.out.row.lt c hc).1)⟩
          clear hBB hW7 hl7 hb7 d0 d1 d2 d3 d4 d5 d6 d7 zo
          by_cases hop:yo=18∨yo=19
          · by_cases hr:r=true
            · subst hr
              rcases hop with rfl | rfl
              · have Hgc:Hid (goneI ls ⟨18,yd,⟨true,yn⟩,⟨br,bn⟩,yf,yargs⟩=false∧calmI ls ⟨18,yd,⟨true,yn⟩,⟨br,bn⟩,yf,yargs⟩=false):=by
                 show _∧_;unfold goneI calmI gone calm inB;dsimp only;simp
                go_wp2_with (at_builtin;refine wpList_append_own_at _ rfl _ _ 70 rfl wb.heap.size 80 ii (.agg #[.int .i64 0,.int .i64 0,.bool false,.int .i64 0,.bool false,.int .i64 0,.int .i64 0,.slice none 0 0]) 8 80 Tryz.underlying70 hii hiz0 hiz1 hiz2 rfl (by decide) v xs.length xs.flatten rfl (ownsRow_later Hnow7.out.row.own (by (repeat (first | exact Below.refl _ _ | refine Below.alloc ?_ (by first|omega|(simp<;>omega)) _ | refine Below.setCell ?_ (by first|omega|(simp<;>omega)) _ | refine below_drewN ?_ _ | refine Below.drew ?_)))) ⟨W7.heap.size,0,none⟩ 1 1 [.int .i64 18,.int .i64 yd,.bool true,.int .i64 yn,.bool br,.int .i64 bn,.int .i64 yf,.slice aa al ac] rfl rfl (new_cells W7 _ _ rfl) (by intro u hu;simp only [List.mem_cons,List.not_mem_nil,or_false] at hu;rcases hu with rfl | rfl | rfl | rfl | rfl | rfl | rfl | rfl <;> rfl) (by have:=Hxs.out;unfold maxLen;omega) (by have:=Hxs.out;omega) (by have:=Hwz.out;simp;omega) ?_)
                · intro v9 w9 hown9 hgrow _ hat9
                  obtain⟨va9,vc9,rfl⟩:=ownsRow_shape hown9;have Hdone:=hid (Hkeep.out Hgc.out _ w9 hown9 hgrow);clear hown9 hgrow hat9;go_wp2_with fail;go_roundw
                  case rel=>exact⟨i+1,_,_,rfl,by omega,by go_num,Hdone.out.1,Hdone.out.2⟩
                  case measure=>simp [intOf];omega
              · have Hgc:Hid (goneI ls ⟨19,yd,⟨true,yn⟩,⟨br,bn⟩,yf,yargs⟩=false∧calmI ls ⟨19,yd,⟨true,yn⟩,⟨br,bn⟩,yf,yargs⟩=false):=by
                 show _∧_;unfold goneI calmI gone calm inB;dsimp only;simp
                go_wp2_with (at_builtin;refine wpList_append_own_at _ rfl _ _ 70 rfl wb.heap.size 80 ii (.agg #[.int .i64 0,.int .i64 0,.bool false,.int .i64 0,.bool false,.int .i64 0,.int .i64 0,.slice none 0 0]) 8 80 Tryz.underlying70 hii hiz0 hiz1 hiz2 rfl (by decide) v xs.length xs.flatten rfl (ownsRow_later Hnow7.out.row.own (by (repeat (first | exact Below.refl _ _ | refine Below.alloc ?_ (by first|omega|(simp<;>omega)) _ | refine Below.setCell ?_ (by first|omega|(simp<;>omega)) _ | refine below_drewN ?_ _ | refine Below.drew ?_)))) ⟨W7.heap.size,0,none⟩ 1 1 [.int .i64 19,.int .i64 yd,.bool true,.int .i64 yn,.bool br,.int .i64 bn,.int .i64 yf,.slice aa al ac] rfl rfl (new_cells W7 _ _ rfl) (by intro u hu;simp only [List.mem_cons,List.not_mem_nil,or_false] at hu;rcases hu with rfl | rfl | rfl | rfl | rfl | rfl | rfl | rfl <;> rfl) (by have:=Hxs.out;unfold maxLen;omega) (by have:=Hxs.out;omega) (by have:=Hwz.out;simp;omega) ?_)
                · intro v9 w9 hown9 hgrow _ hat9
                  obtain⟨va9,vc9,rfl⟩:=ownsRow_shape hown9;have Hdone:=hid (Hkeep.out Hgc.out _ w9 hown9 hgrow);clear hown9 hgrow hat9;go_wp2_with fail;go_roundw
                  case rel=>exact⟨i+1,_,_,rfl,by omega,by go_num,Hdone.out.1,Hdone.out.2⟩
                  case measure=>simp [intOf];omega
            · have hr0:r=false:=by simpa using hr
              subst hr0
              by_cases hn0:yn<0
              · have hn0':¬0≤yn:=by omega
                rcases hop with rfl | rfl
                · have Hgc:Hid (goneI ls ⟨18,yd,⟨false,yn⟩,⟨br,bn⟩,yf,yargs⟩=false∧calmI ls ⟨18,yd,⟨false,yn⟩,⟨br,bn⟩,yf,yargs⟩=false):=by
                   show _∧_;unfold goneI calmI gone calm inB;dsimp only;simp [hn0']
                  go_wp2_with (at_builtin;refine wpList_append_own_at _ rfl _ _ 70 rfl wb.heap.size 80 ii (.agg #[.int .i64 0,.int .i64 0,.bool false,.int .i64 0,.bool false,.int .i64 0,.int .i64 0,.slice none 0 0]) 8 80 Tryz.underlying70 hii hiz0 hiz1 hiz2 rfl (by decide) v xs.length xs.flatten rfl (ownsRow_later Hnow7.out.row.own (by (repeat (first | exact Below.refl _ _ | refine Below.alloc ?_ (by first|omega|(simp<;>omega)) _ | refine Below.setCell ?_ (by first|omega|(simp<;>omega)) _ | refine below_drewN ?_ _ | refine Below.drew ?_)))) ⟨W7.heap.size,0,none⟩ 1 1 [.int .i64 18,.int .i64 yd,.bool false,.int .i64 yn,.bool br,.int .i64 bn,.int .i64 yf,.slice aa al ac] rfl rfl (new_cells W7 _ _ rfl) (by intro u hu;simp only [List.mem_cons,List.not_mem_nil,or_false] at hu;rcases hu with rfl | rfl | rfl | rfl | rfl | rfl | rfl | rfl <;> rfl) (by have:=Hxs.out;unfold maxLen;omega) (by have:=Hxs.out;omega) (by have:=Hwz.out;simp;omega) ?_)
                  · intro v9 w9 hown9 hgrow _ hat9
                    obtain⟨va9,vc9,rfl⟩:=ownsRow_shape hown9;have Hdone:=hid (Hkeep.out Hgc.out _ w9 hown9 hgrow);clear hown9 hgrow hat9;go_wp2_with fail;go_roundw
                    case rel=>exact⟨i+1,_,_,rfl,by omega,by go_num,Hdone.out.1,Hdone.out.2⟩
                    case measure=>simp [intOf];omega
                · have Hgc:Hid (goneI ls ⟨19,yd,⟨false,yn⟩,⟨br,bn⟩,yf,yargs⟩=false∧calmI ls ⟨19,yd,⟨false,yn⟩,⟨br,bn⟩,yf,yargs⟩=false):=by
                   show _∧_;unfold goneI calmI gone calm inB;dsimp only;simp [hn0']
                  go_wp2_with (at_builtin;refine wpList_append_own_at _ rfl _ _ 70 rfl wb.heap.size 80 ii (.agg #[.int .i64 0,.int .i64 0,.bool false,.int .i64 0,.bool false,.int .i64 0,.int .i64 0,.slice none 0 0]) 8 80 Tryz.underlying70 hii hiz0 hiz1 hiz2 rfl (by decide) v xs.length xs.flatten rfl (ownsRow_later Hnow7.out.row.own (by (repeat (first | exact Below.refl _ _ | refine Below.alloc ?_ (by first|omega|(simp<;>omega)) _ | refine Below.setCell ?_ (by first|omega|(simp<;>omega)) _ | refine below_drewN ?_ _ | refine Below.drew ?_)))) ⟨W7.heap.size,0,none⟩ 1 1 [.int .i64 19,.int .i64 yd,.bool false,.int .i64 yn,.bool br,.int .i64 bn,.int .i64 yf,.slice aa al ac] rfl rfl (new_cells W7 _ _ rfl) (by intro u hu;simp only [List.mem_cons,List.not_mem_nil,or_false] at hu;rcases hu with rfl | rfl | rfl | rfl | rfl | rfl | rfl | rfl <;> rfl) (by have:=Hxs.out;unfold maxLen;omega) (by have:=Hxs.out;omega) (by have:=Hwz.out;simp;omega) ?_)
                  · intro v9 w9 hown9 hgrow _ hat9
                    obtain⟨va9,vc9,rfl⟩:=ownsRow_shape hown9;have Hdone:=hid (Hkeep.out Hgc.out _ w9 hown9 hgrow);clear hown9 hgrow hat9;go_wp2_with fail;go_roundw
                    case rel=>exact⟨i+1,_,_,rfl,by omega,by go_num,Hdone.out.1,Hdone.out.2⟩
                    case measure=>simp [intOf];omega
              · by_cases hn1:(N:Int)≤yn
                · have hn1':¬yn<(ls.length:Int):=by rw [HlsN.out];omega
                  rcases hop with rfl | rfl
                  · have Hgc:Hid (goneI ls ⟨18,yd,⟨false,yn⟩,⟨br,bn⟩,yf,yargs⟩=false∧calmI ls ⟨18,yd,⟨false,yn⟩,⟨br,bn⟩,yf,yargs⟩=false):=by
                     show _∧_;unfold goneI calmI gone calm inB;dsimp only;simp [hn1']
                    go_wp2_with (at_builtin;refine wpList_append_own_at _ rfl _ _ 70 rfl wb.heap.size 80 ii (.agg #[.int .i64 0,.int .i64 0,.bool false,.int .i64 0,.bool false,.int .i64 0,.int .i64 0,.slice none 0 0]) 8 80 Tryz.underlying70 hii hiz0 hiz1 hiz2 rfl (by decide) v xs.length xs.flatten rfl (ownsRow_later Hnow7.out.row.own (by (repeat (first | exact Below.refl _ _ | refine Below.alloc ?_ (by first|omega|(simp<;>omega)) _ | refine Below.setCell ?_ (by first|omega|(simp<;>omega)) _ | refine below_drewN ?_ _ | refine Below.drew ?_)))) ⟨W7.heap.size,0,none⟩ 1 1 [.int .i64 18,.int .i64 yd,.bool false,.int .i64 yn,.bool br,.int .i64 bn,.int .i64 yf,.slice aa al ac] rfl rfl (new_cells W7 _ _ rfl) (by intro u hu;simp only [List.mem_cons,List.not_mem_nil,or_false] at hu;rcases hu with rfl | rfl | rfl | rfl | rfl | rfl | rfl | rfl <;> rfl) (by have:=Hxs.out;unfold maxLen;omega) (by have:=Hxs.out;omega) (by have:=Hwz.out;simp;omega) ?_)
                    · intro v9 w9 hown9 hgrow _ hat9
                      obtain⟨va9,vc9,rfl⟩:=ownsRow_shape hown9;have Hdone:=hid (Hkeep.out Hgc.out _ w9 hown9 hgrow);clear hown9 hgrow hat9;go_wp2_with fail;go_roundw
                      case rel=>exact⟨i+1,_,_,rfl,by omega,by go_num,Hdone.out.1,Hdone.out.2⟩
                      case measure=>simp [intOf];omega
                  · have Hgc:Hid (goneI ls ⟨19,yd,⟨false,yn⟩,⟨br,bn⟩,yf,yargs⟩=false∧calmI ls ⟨19,yd,⟨false,yn⟩,⟨br,bn⟩,yf,yargs⟩=false):=by
                     show _∧_;unfold goneI calmI gone calm inB;dsimp only;simp [hn1']
                    go_wp2_with (at_builtin;refine wpList_append_own_at _ rfl _ _ 70 rfl wb.heap.size 80 ii (.agg #[.int .i64 0,.int .i64 0,.bool false,.int .i64 0,.bool false,.int .i64 0,.int .i64 0,.slice none 0 0]) 8 80 Tryz.underlying70 hii hiz0 hiz1 hiz2 rfl (by decide) v xs.length xs.flatten rfl (ownsRow_later Hnow7.out.row.own (by (repeat (first | exact Below.refl _ _ | refine Below.alloc ?_ (by first|omega|(simp<;>omega)) _ | refine Below.setCell ?_ (by first|omega|(simp<;>omega)) _ | refine below_drewN ?_ _ | refine Below.drew ?_)))) ⟨W7.heap.size,0,none⟩ 1 1 [.int .i64 19,.int .i64 yd,.bool false,.int .i64 yn,.bool br,.int .i64 bn,.int .i64 yf,.slice aa al ac] rfl rfl (new_cells W7 _ _ rfl) (by intro u hu;simp only [List.mem_cons,List.not_mem_nil,or_false] at hu;rcases hu with rfl | rfl | rfl | rfl | rfl | rfl | rfl | rfl <;> rfl) (by have:=Hxs.out;unfold maxLen;omega) (by have:=Hxs.out;omega) (by have:=Hwz.out;simp;omega) ?_)
                    · intro v9 w9 hown9 hgrow _ hat9
                      obtain⟨va9,vc9,rfl⟩:=ownsRow_shape hown9;have Hdone:=hid (Hkeep.out Hgc.out _ w9 hown9 hgrow);clear hown9 hgrow hat9;go_wp2_with fail;go_roundw
                      case rel=>exact⟨i+1,_,_,rfl,by omega,by go_num,Hdone.out.1,Hdone.out.2⟩
                      case measure=>simp [intOf];omega
                · obtain⟨q,hq⟩:∃q:Nat,yn=(q:Int):=⟨yn.toNat,by omega⟩
                  subst hq;have hqN:q<N:=by omega
                  have hqN2:¬N≤q:=by omega
                  have hql:q<ls.length:=by rw [HlsN.out];exact hqN
                  obtain⟨lb,lo2,rfl,hlc⟩:=bool_at Hla.out hql;have hlc:=cell_later' hlc Hb7.out;have zlb:=cell_lt hlc;obtain⟨u,hu⟩:∃u,u=ls[q]:=⟨_,rfl⟩
                  rw [←hu] at hlc;have Hu:Hid (ls.getD q false=u):=by show _=_;rw [List.getD_eq_getElem?_getD,List.getElem?_eq_getElem hql,hu];rfl
                  have Hin:Hid (inB false (q:Int) (ls.length:Int)=true):=by show _=_;unfold inB;simp;omega
                  clear hu hn0 hn1;cases u with
                  | false =>
                    rcases hop with rfl | rfl
                    · have Hgc:Hid (goneI ls ⟨18,yd,⟨false,(q:Int)⟩,⟨br,bn⟩,yf,yargs⟩=false∧calmI ls ⟨18,yd,⟨false,(q:Int)⟩,⟨br,bn⟩,yf,yargs⟩=false):=by
                       show _∧_;unfold goneI calmI gone calm inB;dsimp only;rw [Int.toNat_natCast,Hu.out];simp
                      go_wp2_with (at_builtin;refine wpList_append_own_at _ rfl _ _ 70 rfl wb.heap.size 80 ii (.agg #[.int .i64 0,.int .i64 0,.bool false,.int .i64 0,.bool false,.int .i64 0,.int .i64 0,.slice none 0 0]) 8 80 Tryz.underlying70 hii hiz0 hiz1 hiz2 rfl (by decide) v xs.length xs.flatten rfl (ownsRow_later Hnow7.out.row.own (by (repeat (first | exact Below.refl _ _ | refine Below.alloc ?_ (by first|omega|(simp<;>omega)) _ | refine Below.setCell ?_ (by first|omega|(simp<;>omega)) _ | refine below_drewN ?_ _ | refine Below.drew ?_)))) ⟨W7.heap.size,0,none⟩ 1 1 [.int .i64 18,.int .i64 yd,.bool false,.int .i64 (q:Int),.bool br,.int .i64 bn,.int .i64 yf,.slice aa al ac] rfl rfl (new_cells W7 _ _ rfl) (by intro u hu;simp only [List.mem_cons,List.not_mem_nil,or_false] at hu;rcases hu with rfl | rfl | rfl | rfl | rfl | rfl | rfl | rfl <;> rfl) (by have:=Hxs.out;unfold maxLen;omega) (by have:=Hxs.out;omega) (by have:=Hwz.out;simp;omega) ?_)
                      · intro v9 w9 hown9 hgrow _ hat9
                        obtain⟨va9,vc9,rfl⟩:=ownsRow_shape hown9;have Hdone:=hid (Hkeep.out Hgc.out _ w9 hown9 hgrow);clear hown9 hgrow hat9;go_wp2_with fail;go_roundw
                        case rel=>exact⟨i+1,_,_,rfl,by omega,by go_num,Hdone.out.1,Hdone.out.2⟩
                        case measure=>simp [intOf];omega
                    · have Hgc:Hid (goneI ls ⟨19,yd,⟨false,(q:Int)⟩,⟨br,bn⟩,yf,yargs⟩=false∧calmI ls ⟨19,yd,⟨false,(q:Int)⟩,⟨br,bn⟩,yf,yargs⟩=false):=by
                       show _∧_;unfold goneI calmI gone calm inB;dsimp only;rw [Int.toNat_natCast,Hu.out];simp
                      go_wp2_with (at_builtin;refine wpList_append_own_at _ rfl _ _ 70 rfl wb.heap.size 80 ii (.agg #[.int .i64 0,.int .i64 0,.bool false,.int .i64 0,.bool false,.int .i64 0,.int .i64 0,.slice none 0 0]) 8 80 Tryz.underlying70 hii hiz0 hiz1 hiz2 rfl (by decide) v xs.length xs.flatten rfl (ownsRow_later Hnow7.out.row.own (by (repeat (first | exact Below.refl _ _ | refine Below.alloc ?_ (by first|omega|(simp<;>omega)) _ | refine Below.setCell ?_ (by first|omega|(simp<;>omega)) _ | refine below_drewN ?_ _ | refine Below.drew ?_)))) ⟨W7.heap.size,0,none⟩ 1 1 [.int .i64 19,.int .i64 yd,.bool false,.int .i64 (q:Int),.bool br,.int .i64 bn,.int .i64 yf,.slice aa al ac] rfl rfl (new_cells W7 _ _ rfl) (by intro u hu;simp only [List.mem_cons,List.not_mem_nil,or_false] at hu;rcases hu with rfl | rfl | rfl | rfl | rfl | rfl | rfl | rfl <;> rfl) (by have:=Hxs.out;unfold maxLen;omega) (by have:=Hxs.out;omega) (by have:=Hwz.out;simp;omega) ?_)
                      · intro v9 w9 hown9 hgrow _ hat9
                        obtain⟨va9,vc9,rfl⟩:=ownsRow_shape hown9;have Hdone:=hid (Hkeep.out Hgc.out _ w9 hown9 hgrow);clear hown9 hgrow hat9;go_wp2_with fail;go_roundw
                        case rel=>exact⟨i+1,_,_,rfl,by omega,by go_num,Hdone.out.1,Hdone.out.2⟩
                        case measure=>simp [intOf];omega
                  | true =>
                    rcases hop with rfl | rfl
                    · have Hgo:Hid (goneI ls ⟨18,yd,⟨false,(q:Int)⟩,⟨br,bn⟩,yf,yargs⟩=false∧calmI ls ⟨18,yd,⟨false,(q:Int)⟩,⟨br,bn⟩,yf,yargs⟩=true):=by
                       show _∧_;unfold goneI calmI gone calm;dsimp only;rw [Int.toNat_natCast,Hu.out,Hin.out];exact⟨rfl,rfl⟩
                      obtain⟨mv,hmv⟩:∃mv,mv=mem.getD q 0:=⟨_,rfl⟩
                      have hfst:stFirst gs (q:Int)=(mv,true):=by
                       rw [hmv,Hmem.out];have hw:wordsL gs=gs.flatMap wordsG:=by unfold wordsL wordsK;rw [List.take_length]
                       rw [hw];exact stFirst_at gs (fun g hg=>(Hgsz.out g hg).2.2) q (by rw [←hw,←Hmem.out,←HN.out];exact hqN)
                      have hN200:N≤200:=by rw [HN.out];exact hmn200
                      have hq200 : -200≤(q:Int)∧(q:Int)≤2000:=by omega
                      have hsf:=stillFirst_any (S:=S) ga fa gc fs.length fc gs (q:Int) W7 (Hg.out.later rGlobal_mono (Hw0.out.trans (Hb7.out.mono Hw0.out.size))) hgl10 (fun g hg=>⟨(Hgsz.out g hg).1,(Hgsz.out g hg).2.1⟩) hq200;rw [hfst] at hsf;dsimp only at hsf;have Hsf:=hid hsf;have Hmv:Hid (I64 mv):=by show I64 mv;rw [hmv];exact mem_i64 Hmi.out q
                      have Hyd:Hid (I64 yd):=Hrd.out.choose_spec.2.2.2.1;have Hcp:Hid (doneI ls mem ⟨18,yd,⟨false,(q:Int)⟩,⟨br,bn⟩,yf,yargs⟩=⟨1,yd,⟨false,mv⟩,⟨false,0⟩,0,[]⟩):=by
                       show _=_;unfold doneI;rw [if_pos Hgo.out.2];unfold copyI;dsimp only;rw [Int.toNat_natCast,←hmv]
                      clear hmv hfst hsf hN200 hq200;go_upto_region 19 with
                       (go_at_call 43; refine Hsf.out.mono ?_; rintro e w8 ⟨rfl, hb8⟩
                        have x0 := cell_later' x0 hb8
                        have x1 := cell_later' x1 hb8
                        have Hb8 := hid hb8
                        have Hnow8 := hid (Hnow7.out.later hb8)
                        have Hwz8 : Hid (wb.heap.size ≤ w8.heap.size) := Nat.le_trans Hwz.out hb8.size
                        clear hb8)
                      clear x2 x3 x4 x5 x6 x7 c0 c1 hlc zlb zU7 zUi;have zB8:=cell_lt x0
                      have Hcopy : Hid (∀ v9 w9, w9.ownsRow wb.heap.size 80 8 v9 (xs.length + 1) (xs.flatten ++ [.int .i64 1, .int .i64 yd, .bool false, .int .i64 mv, .bool false, .int .i64 0, .int .i64 0, .slice none 0 0]) →
                       (w8.alloc (.cells #[.int .i64 1, .int .i64 yd, .bool false, .int .i64 mv, .bool false, .int .i64 0, .int .i64 0, .slice none 0 0] 80)).grownBy w9 v.ownBlock → NowSt w9 wb.heap.size SS v9 (outL ls mem (x.list.take (i + 1))) (xs ++ [[.int .i64 1, .int .i64 yd, .bool false, .int .i64 mv, .bool false, .int .i64 0, .int .i64 0, .slice none 0 0]]) ∧ Below wb.heap.size wb w9) := fun v9 w9 hown hgrow => by
                       have h78:Below wi.heap.size wi w8:=Hb7.out.trans (Hb8.out.mono Hb7.out.size);have hb:Below wi.heap.size wi (w8.alloc (.cells #[.int .i64 1,.int .i64 yd,.bool false,.int .i64 mv,.bool false,.int .i64 0,.int .i64 0,.slice none 0 0] 80)):=by (have hz0:=(h78).size;have hy0:=hz0;(try simp at hy0);repeat (first | exact Below.refl _ _ | refine Below.trans ?_ ((h78).mono (by first|omega|(simp<;>omega))) | refine Below.alloc ?_ (by first|omega|(simp<;>omega)) _ | refine Below.setCell ?_ (by first|omega|(simp<;>omega)) _ | refine below_drewN ?_ _ | refine Below.drew ?_))
                       have hrd1:rIns SS wi [.int .i64 1,.int .i64 yd,.bool false,.int .i64 mv,.bool false,.int .i64 0,.int .i64 0,.slice none 0 0] ⟨1,yd,⟨false,mv⟩,⟨false,0⟩,0,[]⟩:=⟨_,rfl,⟨none,0,rfl,Nat.le_refl _,by decide,fun h=>absurd rfl h⟩,i64_lit 1 (by decide) (by decide),Hyd.out,Hmv.out,i64_lit 0 (by decide) (by decide),i64_lit 0 (by decide) (by decide)⟩
                       have hn:=Hnow.out.snoc hb rfl hrd1 hown hgrow (fun c hc=>by rw [HSS.out] at hc;exact hc.2);rw [outL_snoc Hy.out,Hgo.out.1,Hcp.out];exact⟨hn,Below.grown (Hbi.out.trans (hb.mono Hbi.out.size)) hgrow (by have:=Hbi.out.size;have:=hb.size;omega) (fun c hc=>(Hnow.out.row.lt c hc).1)⟩
                      go_wp2_with (at_builtin;refine wpList_append_own_at _ rfl _ _ 70 rfl wb.heap.size 80 ii (.agg #[.int .i64 0,.int .i64 0,.bool false,.int .i64 0,.bool false,.int .i64 0,.int .i64 0,.slice none 0 0]) 8 80 Tryz.underlying70 hii hiz0 hiz1 hiz2 rfl (by decide) v xs.length xs.flatten rfl (ownsRow_later Hnow8.out.row.own (by (repeat (first | exact Below.refl _ _ | refine Below.alloc ?_ (by first|omega|(simp<;>omega)) _ | refine Below.setCell ?_ (by first|omega|(simp<;>omega)) _ | refine below_drewN ?_ _ | refine Below.drew ?_)))) ⟨w8.heap.size,0,none⟩ 1 1 [.int .i64 1,.int .i64 yd,.bool false,.int .i64 mv,.bool false,.int .i64 0,.int .i64 0,.slice none 0 0] rfl rfl (new_cells w8 _ _ rfl) (by intro u hu;simp only [List.mem_cons,List.not_mem_nil,or_false] at hu;rcases hu with rfl | rfl | rfl | rfl | rfl | rfl | rfl | rfl <;> rfl) (by have:=Hxs.out;unfold maxLen;omega) (by have:=Hxs.out;omega) (by have:=Hwz8.out;simp;omega) ?_)
                      · intro v9 w9 hown9 hgrow _ hat9
                        obtain⟨va9,vc9,rfl⟩:=ownsRow_shape hown9;have Hdone:=hid (Hcopy.out _ w9 hown9 hgrow);clear hown9 hgrow hat9;go_wp2_with fail;go_roundw
                        case rel=>exact⟨i+1,_,_,rfl,by omega,by go_num,Hdone.out.1,Hdone.out.2⟩
                        case measure=>simp [intOf];omega
                    · have Hgo:Hid (goneI ls ⟨19,yd,⟨false,(q:Int)⟩,⟨br,bn⟩,yf,yargs⟩=true):=by
                       show _=_;unfold goneI gone;dsimp only;rw [Int.toNat_natCast,Hu.out,Hin.out];rfl
                      have Hsame:Hid (NowSt W7 wb.heap.size SS v (outL ls mem (x.list.take (i+1))) xs∧Below wb.heap.size wb W7):=by
                       show _∧_;rw [outL_snoc Hy.out,Hgo.out,if_pos rfl,List.append_nil];exact⟨Hnow7.out,Hbi.out.trans (Hb7.out.mono Hbi.out.size)⟩
                      clear c0 c1 zU7 zUi;go_wp2_with fail;go_roundw
                      case rel=>exact⟨i+1,xs,v,rfl,by omega,by go_num,Hsame.out.1,Hsame.out.2⟩
                      case measure=>simp [intOf];omega
          · have hop1:yo≠18:=fun e=>hop (.inl e)
            have hop2:yo≠19:=fun e=>hop (.inr e);have Hgc:Hid (goneI ls ⟨yo,yd,⟨r,yn⟩,⟨br,bn⟩,yf,yargs⟩=false∧calmI ls ⟨yo,yd,⟨r,yn⟩,⟨br,bn⟩,yf,yargs⟩=false):=by
             show _∧_;unfold goneI calmI gone calm inB;dsimp only;simp [hop1,hop2]
            go_wp2_with (at_builtin;refine wpList_append_own_at _ rfl _ _ 70 rfl wb.heap.size 80 ii (.agg #[.int .i64 0,.int .i64 0,.bool false,.int .i64 0,.bool false,.int .i64 0,.int .i64 0,.slice none 0 0]) 8 80 Tryz.underlying70 hii hiz0 hiz1 hiz2 rfl (by decide) v xs.length xs.flatten rfl (ownsRow_later Hnow7.out.row.own (by (repeat (first | exact Below.refl _ _ | refine Below.alloc ?_ (by first|omega|(simp<;>omega)) _ | refine Below.setCell ?_ (by first|omega|(simp<;>omega)) _ | refine below_drewN ?_ _ | refine Below.drew ?_)))) ⟨W7.heap.size,0,none⟩ 1 1 [.int .i64 yo,.int .i64 yd,.bool r,.int .i64 yn,.bool br,.int .i64 bn,.int .i64 yf,.slice aa al ac] rfl rfl (new_cells W7 _ _ rfl) (by intro u hu;simp only [List.mem_cons,List.not_mem_nil,or_false] at hu;rcases hu with rfl | rfl | rfl | rfl | rfl | rfl | rfl | rfl <;> rfl) (by have:=Hxs.out;unfold maxLen;omega) (by have:=Hxs.out;omega) (by have:=Hwz.out;simp;omega) ?_)
            · intro v9 w9 hown9 hgrow _ hat9
              obtain⟨va9,vc9,rfl⟩:=ownsRow_shape hown9;have Hdone:=hid (Hkeep.out Hgc.out _ w9 hown9 hgrow);clear hown9 hgrow hat9;go_wp2_with fail;go_roundw
              case rel=>exact⟨i+1,_,_,rfl,by omega,by go_num,Hdone.out.1,Hdone.out.2⟩
              case measure=>simp [intOf];omega
        · have hix:i=xn:=by omega
          have htk:x.list.take i=x.list:=List.take_of_length_le (by rw [←Hxn.out];omega);rw [htk] at hnow;obtain⟨va,vc,hve⟩:=ownsRow_shape hnow.row.own;subst hve;have hkp3:=Hkp2.out.trans (Kp.of hbi);obtain⟨-,⟨⟨t0,t1⟩,-⟩,-⟩:=Hbx.out wi hkp3;have hd3:=Hd2.out.later hbi;obtain⟨d3,-⟩:=hd3.funcCell Hfat.out rfl;rw [HBk.out] at d3;obtain⟨g',c',oa',oc',hBk',hcell,hfro,-,-,-⟩:=hd3.listCell Hfat.out Hxb.out;have hgg:g=g':=by rw [HBk.out] at hBk';injection hBk' with e1;injection e1 with e2;injection e2
          subst hgg;have hl:=hnow.read (S':=SdS TB (lo k) (hi k) (B k)) (fun c hc=>by rw [HSS.out] at hc;exact hc.1) (fun c hc => .inr (Nat.le_trans Hd2.out.le hc));have hnx:=hd3.set Hfat.out Hxb.out hl HBk.out;have hfe:(fsB ls mem fs k b f).set k { ({ f with blocks:=bsUp ls mem f.blocks b }:DFunc) with blocks:=(bsUp ls mem f.blocks b).set b { x with list:=outL ls mem x.list } }=fsB ls mem fs k (b+1) f:=by
           unfold fsB;rw [List.set_set];have e:(bsUp ls mem f.blocks b).set b { x with list:=outL ls mem x.list }=bsUp ls mem f.blocks (b+1):=upF_set (doneB ls mem) Hx.out;rw [e]
          rw [hfe] at hnx;have Hnx:=hid hnx;have Hk3:=hid (hkp3.set (a:=⟨g,b * 6+1,none⟩) (fun h=>by have:=HgA.out;rcases h with h | h <;> (dsimp only at h;omega)) (.slice va xs.length vc));have zT:TB<wi.heap.size:=cell_lt t0;have zF:FB<wi.heap.size:=cell_lt d3;have zgi:g<wi.heap.size:=cell_lt hcell;clear hnow hkp3 hd3 hl hnx hfe hBk' htk hix hbi;go_wp2_with fail;go_roundw
          case rel=>exact⟨b+1,by omega,by go_num,Hnx.out,Hk3.out⟩
          case measure=>simp [intOf];omega
     · have hdn:SdSt TB wb A (.slice (some ⟨FB,0,none⟩) fs.length fc2) (fsUp ls mem fs (k+1)) B lo hi:=by
        rw [←fsB_close ls mem Hf.out (b:=b) (by rw [←Hnb.out];omega)];exact hd
       have Hdn:=hid hdn;have Hkpn:=hid hkp;clear hd hkp hfat hBk hdn;go_wp2_with fail;go_roundw
       case rel=>exact⟨k+1,by omega,by go_num,Hdn.out,Hkpn.out⟩
       case measure=>simp [intOf];omega
  · have hkn:k=fs.length:=by omega
    have hdn:=Hd.out;rw [fsUp_all ls mem (by omega)] at hdn;obtain⟨hwo,-,hUo,-,hgv⟩:=Hbx.out wo Hkp.out;have Hdn:=hid hdn;have Hwo:=hid hwo;have Hgv:=hid hgv;have f0:=thawed hUo 0;have f1:=thawed hUo 1;obtain⟨b0,b1⟩:=(cells_of (cs:=[_,_]) hUo).get2;rw [Nat.zero_add] at b1;have HUo:=hid hUo;have zO:UO<wo.heap.size:=cell_lt b0;clear hdn hwo hgv hUo;go_wp2_with fail;obtain⟨W9,hW9⟩:∃W9,W9=(wo.setCell ⟨UO,0,none⟩ (.slice go gs.length gc2)).setCell ⟨UO,1,none⟩ (.slice (some ⟨FB,0,none⟩) fs.length fc2):=⟨_,rfl⟩
    rw [←hW9];have h9:W9.heap[UO]?=some (.cells #[.slice go gs.length gc2,.slice (some ⟨FB,0,none⟩) fs.length fc2] 25 (0,0)):=by rw [hW9];exact heap_set_row (heap_set_row HUo.out _) _
    obtain⟨r0,r1⟩:=(cells_of (cs:=[_,_]) h9).get2;rw [Nat.zero_add] at r1;have hk9:Kp (fun c=>c≠UO) wo W9:=by rw [hW9];exact (kp_one wo UO 0 _).trans (kp_one _ UO 1 _)
    have hu:=HUs.out;have ha:=HAT.out;have hle:=Hdn.out.le;have hs9:=hk9.size;refine bodyPost_ret (unit1_res rfl rfl r0 r1) rfl ⟨go,gc2,_,fc2,rfl,?_,?_,?_⟩
    · exact Hgv.out.mono rGlobal_mono (fun c hc=>by omega) (hk9.stays fun c hc=>by omega)
    · exact (Hdn.out.kp hk9 (fun c hc=>by omega) ha.1).read
    · exact Hwo.out.trans (hk9.below fun b hb=>⟨Nat.lt_of_lt_of_le hb Hwo.out.size,by omega⟩)

end Go.Proofs.YtnkogppgacappaaGreatDoor

namespace Go.Proofs.YtnkogppgacappaaGreatDoor
open Go.RowKit

theorem stillDone_ok {S : Nat → Prop} (ga : Option Addr) (gc : Nat) (fa : Option Addr) (n fc : Nat) (gs : List DGlobal) (fs : List DFunc) (w : World)
 (hg:SlAt S w 3 rGlobal (.slice ga gs.length gc) gs) (hf:SlAt S w 4 rFunc (.slice fa n fc) fs) (hn:fs.length=n) (hck:checkF ⟨gs,fs⟩=(0,0)) :
 Calls Tryz.prog 16 #[.agg #[.slice ga gs.length gc,.slice fa n fc]] w fun e w'=>∃go gc2 fo fc2,e = .returned (.agg #[.slice go gs.length gc2,.slice fo n fc2]) ∧
  SlAt (fun c=>c<w'.heap.size) w' 3 rGlobal (.slice go gs.length gc2) gs∧SlAt (fun c=>c<w'.heap.size) w' 4 rFunc (.slice fo n fc2) (fs.map (doneFn (stillF (wordsL gs) (insU fs)) (wordsL gs)))∧Below w.heap.size w w':=by
 subst hn;exact stillDone_any ga gc fa fc gs fs w hg hf hck
theorem still_say2 {S : Nat → Prop} (ga : Option Addr) (gc : Nat) (fa : Option Addr) (fc : Nat) (gs : List DGlobal) (fs : List DFunc) (w : World)
 (hg:SlAt S w 3 rGlobal (.slice ga gs.length gc) gs) (hf:SlAt S w 4 rFunc (.slice fa fs.length fc) fs) (hw:Ways w) (hS:∀b,S b→b<w.heap.size) (hsm:Small gs fs) (c d:Int) (hc:checkF ⟨gs,fs⟩=(c,d)) :
 Calls Tryz.prog 14 #[.agg #[.slice ga gs.length gc,.slice fa fs.length fc]] w fun e w1=>∃va vn vc wa wn wc,e = .returned (.tuple #[.agg #[.slice va vn vc,.slice wa wn wc],.agg #[.int .i64 c,.int .i64 d]])∧Below w.heap.size w w1 ∧
  ((c≠0∧vn=0∧wn=0)∨(c=0∧d=0∧vn=gs.length∧wn=fs.length∧SlAt (iv w.heap.size w1.heap.size) w1 3 rGlobal (.slice va vn vc) gs∧SlAt (iv w.heap.size w1.heap.size) w1 4 rFunc (.slice wa wn wc) (stillT gs fs))):=by
 refine (still_say ga gc fa fc gs fs w hg hf hw hS hsm).mono fun e w1=>?_;rintro⟨va,vn,vc,wa,wn,wc,c',d',h1,h2,h3⟩;rcases h3 with⟨k1,k2,k3,k4⟩ | ⟨k1,k2,k3,k4,k5,k6,k7⟩
 · rw [hc] at k4
   injection k4 with e1 e2;subst e1 e2;exact⟨va,vn,vc,wa,wn,wc,h1,h2,.inl ⟨k1,k2,k3⟩⟩
 · rw [hc] at k5
   injection k5 with e1 e2;subst k1 k2 e1 e2;exact⟨va,vn,vc,wa,wn,wc,h1,h2,.inr ⟨rfl,rfl,k3,k4,k6,k7⟩⟩

set_option maxRecDepth 100000 in
set_option maxHeartbeats 4000000 in
theorem stillSays_any (w : World) (hw : Ways w) (ga : Option Addr) (gc : Nat) (fa : Option Addr) (fc : Nat) (gs : List DGlobal) (fs : List DFunc) (hg : SlAt (fun b => b < w.heap.size) w 3 rGlobal (.slice ga gs.length gc) gs) (hf : SlAt (fun b => b < w.heap.size) w 4 rFunc (.slice fa fs.length fc) fs)
 (hsm:Small gs fs) :
 Calls Tryz.prog 4 #[.agg #[.slice ga gs.length gc,.slice fa fs.length fc]] w fun e w'=>e = .returned (.bool true)∧Below w.heap.size w w':=by
 obtain⟨c,hc⟩:∃c,c=(checkF ⟨gs,fs⟩).1:=⟨_,rfl⟩
 obtain⟨d,hd⟩:∃d,d=(checkF ⟨gs,fs⟩).2:=⟨_,rfl⟩
 have Hcd:Hid (checkF ⟨gs,fs⟩=(c,d)):=by show _=_;rw [hc,hd]
 clear hc hd;have Hnum:=hid (NumU_of (gs:=gs) hf);have Hi64:=hid (words_i64 hg);have hgl:=hsm.globals;have hfl:=hsm.funcs;have Hg:=hid hg;have Hf:=hid hf;have Hw:=hid hw;have Hsm:=hid hsm;clear hg hf hw hsm;go_enter Tryz.func4,Tryz.ntmps4;obtain⟨W,hW⟩:∃W,W=(w.alloc (.cells #[.slice ga gs.length gc,.slice fa fs.length fc] 25)):=⟨_,rfl⟩
 have hbW:Below w.heap.size w W:=by rw [hW];(repeat (first | exact Below.refl _ _ | refine Below.alloc ?_ (by first|omega|(simp<;>omega)) _ | refine Below.setCell ?_ (by first|omega|(simp<;>omega)) _ | refine below_drewN ?_ _ | refine Below.drew ?_))
 have h0:W.heap[w.heap.size]?=some (.cells #[.slice ga gs.length gc,.slice fa fs.length fc] 25 (0,0)):=by rw [hW];exact heap_alloc_new _ _
 have hWs:W.heap.size=w.heap.size+1:=by rw [hW];simp
 go_upto_region 1 with (fail)
 rw [←hW];obtain⟨UB,hUB⟩:∃UB,UB=w.heap.size:=⟨_,rfl⟩
 rw [←hUB] at h0 ⊢;have HbW:=hid hbW;have H0:Hid (∀V,Below W.heap.size W V→Below w.heap.size w V∧V.cell? ⟨UB,0,none⟩=some (.slice ga gs.length gc)∧V.cell? ⟨UB,1,none⟩=some (.slice fa fs.length fc)):=fun V hV=>by
  have h1:=(hV.block UB (by omega)).trans h0;obtain⟨c0,c1⟩:=(cells_of (cs:=[_,_]) h1).get2;rw [Nat.zero_add] at c1;exact⟨hbW.trans (hV.mono hbW.size),c0,c1⟩
 obtain⟨-,c0,c1⟩:=H0.out W (Below.refl _ _);have zB:UB<W.heap.size:=cell_lt c0;have hby:=still_say2 (S:=fun b=>b<w.heap.size) ga gc fa fc gs fs W (Hg.out.later rGlobal_mono hbW) (Hf.out.later rFunc_mono hbW) (Ways.below Hw.out hbW) (fun b hb=>by omega) Hsm.out c d Hcd.out;have Hby:=hid hby;clear hW hWs hUB hbW h0 hby;go_upto_region 2 with (go_at_call 14;refine Hby.out.mono ?_;rintro e w1 ⟨va,vn,vc,wa,wn,wc,rfl,hb1,hcase⟩;have Hb1:=hid hb1;have Hcase:=hid hcase;clear hb1 hcase)
 obtain⟨W2,hW2⟩:∃W2,W2=(w1.alloc (.cells #[.slice va vn vc,.slice wa wn wc] 25)).alloc (.cells #[.int .i64 c,.int .i64 d] 27):=⟨_,rfl⟩
 obtain⟨h2s,hv0,hx0⟩:=two_cells w1 (.cells #[.slice va vn vc,.slice wa wn wc] 25) (.cells #[.int .i64 c,.int .i64 d] 27);rw [←hW2] at h2s hv0 hx0 ⊢;have hb2:Below w1.heap.size w1 W2:=by rw [hW2];(repeat (first | exact Below.refl _ _ | refine Below.alloc ?_ (by first|omega|(simp<;>omega)) _ | refine Below.setCell ?_ (by first|omega|(simp<;>omega)) _ | refine below_drewN ?_ _ | refine Below.drew ?_))
 have Hb12:=hid hb2;have Hb2:Hid (Below W.heap.size W W2):=Hb1.out.trans (hb2.mono Hb1.out.size);obtain⟨VB,hVB⟩:∃VB,VB=w1.heap.size:=⟨_,rfl⟩
 obtain⟨FB,hFB⟩:∃FB,FB=w1.heap.size+1:=⟨_,rfl⟩
 rw [←hFB] at hx0 ⊢;rw [←hVB] at hv0 ⊢;have Hcl:Hid (∀V,Below W2.heap.size W2 V→Below w.heap.size w V∧V.cell? ⟨UB,0,none⟩=some (.slice ga gs.length gc)∧V.cell? ⟨UB,1,none⟩=some (.slice fa fs.length fc)∧V.cell? ⟨VB,0,none⟩=some (.slice va vn vc)∧V.cell? ⟨VB,1,none⟩=some (.slice wa wn wc)∧V.cell? ⟨FB,0,none⟩=some (.int .i64 c)∧V.cell? ⟨FB,1,none⟩=some (.int .i64 d)):=fun V hV=>by
  obtain⟨h1,h2,h3⟩:=H0.out V (Hb2.out.trans (hV.mono Hb2.out.size));obtain⟨v0,v1⟩:=(cells_of (cs:=[_,_]) ((hV.block VB (by omega)).trans hv0)).get2;obtain⟨x0,x1⟩:=(cells_of (cs:=[_,_]) ((hV.block FB (by omega)).trans hx0)).get2;rw [Nat.zero_add] at v1 x1;exact⟨h1,h2,h3,v0,v1,x0,x1⟩
 obtain⟨hw2,a0,a1,-,-,-,-⟩:=Hcl.out W2 (Below.refl _ _);have zU2:UB<W2.heap.size:=cell_lt a0;have hck:=check_any (S:=fun b=>b<w.heap.size) ga gc fa fc gs fs W2 (Hg.out.later rGlobal_mono hw2) (Hf.out.later rFunc_mono hw2) (Ways.below Hw.out hw2) Hsm.out.globals Hsm.out.funcs Hsm.out.many;rw [Hcd.out] at hck;have Hck:=hid hck;clear hW2 h2s hv0 hx0 hb2 hVB hFB hw2 c0 c1 zB hck;go_upto_region 3 with (go_at_call 8;refine Hck.out.mono ?_;rintro e w2 ⟨rfl,hb2⟩;have Hb22:=hid hb2;clear hb2)
 obtain⟨W3,hW3⟩:∃W3,W3=w2.alloc (.cells #[.int .i64 c,.int .i64 d] 27):=⟨_,rfl⟩
 have hb3:Below w2.heap.size w2 W3:=by rw [hW3];(repeat (first | exact Below.refl _ _ | refine Below.alloc ?_ (by first|omega|(simp<;>omega)) _ | refine Below.setCell ?_ (by first|omega|(simp<;>omega)) _ | refine below_drewN ?_ _ | refine Below.drew ?_))
 obtain⟨EB,hEB⟩:∃EB,EB=w2.heap.size:=⟨_,rfl⟩
 have hE0:W3.heap[EB]?=some (.cells #[.int .i64 c,.int .i64 d] 27 (0,0)):=by rw [hW3,hEB];exact heap_alloc_new _ _
 rw [←hW3,←hEB];have Hb3:Hid (Below W2.heap.size W2 W3):=Hb22.out.trans (hb3.mono Hb22.out.size);obtain⟨e0,e1⟩:=(cells_of (cs:=[_,_]) hE0).get2;rw [Nat.zero_add] at e1;obtain⟨hw3,a0,a1,v0,v1,x0,x1⟩:=Hcl.out W3 Hb3.out;have Hw3:=hid hw3;have zU3:=cell_lt a0;have zV3:=cell_lt v0;have zF3:=cell_lt x0;have zE3:=cell_lt e0;clear hW3 hb3 hEB hE0 hw3 zU2
 by_cases hc0:c=0
 · obtain⟨rfl,rfl,rfl,Hgv,Hfv⟩:d=0∧vn=gs.length∧wn=fs.length∧Hid (SlAt (iv W.heap.size w1.heap.size) w1 3 rGlobal (.slice va vn vc) gs)∧Hid (SlAt (iv W.heap.size w1.heap.size) w1 4 rFunc (.slice wa wn wc) (stillT gs fs)):=by
    rcases Hcase.out with h | h
    · exact absurd hc0 h.1
    · exact⟨h.2.1,h.2.2.1,h.2.2.2.1,h.2.2.2.2.1,h.2.2.2.2.2⟩
   subst hc0;have hT1:=tidy_ok (S:=fun b=>b<w.heap.size) ga gc fa fs.length fc gs fs W3 (Hg.out.later rGlobal_mono Hw3.out) (Hf.out.later rFunc_mono Hw3.out) rfl (Ways.below Hw.out Hw3.out) (fun b hb=>Nat.lt_of_lt_of_le hb Hw3.out.size) Hcd.out;have HT1:=hid hT1;obtain⟨hm1,hm2⟩:=still_mid Hcd.out Hnum.out Hi64.out (stillF (wordsL gs) (insU (fs.map tidyFn)));have Hm1:=hid hm1;have htc:checkF ⟨gs,fs.map tidyFn⟩=(0,0):=tidyU_check Hcd.out Hnum.out;have Htc:=hid htc;obtain⟨k1,k2⟩:=stillT_check Hcd.out Hnum.out Hi64.out;obtain⟨hsg,hsf⟩:=checkF_small (u:=⟨gs,stillT gs fs⟩) k1;have Hsmg:=hid hsg;have Hsmf:=hid hsf;have hlpos:0<fs.length:=checkF_pos (u:=⟨gs,fs⟩) Hcd.out;have hpos2:(0:Int)<(fs.length:Int):=by omega
   have Hlm:=hid (stillT_len gs fs);clear Hcase hT1 hm1 hm2 htc k1 k2 hsg hsf;go_upto_region 6 with (go_at_call 15;refine HT1.out.mono ?_;rintro e w4 ⟨ta,tc,ua,uc,rfl,hg4,hf4,hb4⟩;have Hg4:=hid hg4;have Hf4:=hid hf4;have Hb4:=hid hb4;clear hg4 hf4 hb4)
   obtain⟨W5,hW5⟩:∃W5,W5=(w4.alloc (.cells #[.slice ta gs.length tc,.slice ua fs.length uc] 25)).alloc (.cells #[.int .i64 0,.int .i64 0] 27):=⟨_,rfl⟩
   obtain⟨h5s,ht0,hy0⟩:=two_cells w4 (.cells #[.slice ta gs.length tc,.slice ua fs.length uc] 25) (.cells #[.int .i64 0,.int .i64 0] 27);rw [←hW5] at h5s ht0 hy0 ⊢;have hb5:Below w4.heap.size w4 W5:=by rw [hW5];(repeat (first | exact Below.refl _ _ | refine Below.alloc ?_ (by first|omega|(simp<;>omega)) _ | refine Below.setCell ?_ (by first|omega|(simp<;>omega)) _ | refine below_drewN ?_ _ | refine Below.drew ?_))
   have Hb45:=hid hb5;have Hb35:Hid (Below W3.heap.size W3 W5):=Hb4.out.trans (hb5.mono Hb4.out.size);have Hb25:Hid (Below W2.heap.size W2 W5):=Hb3.out.trans (Hb35.out.mono Hb3.out.size);obtain⟨TB,hTB⟩:∃TB,TB=w4.heap.size:=⟨_,rfl⟩
   rw [←hTB] at ht0 ⊢;obtain⟨t0,t1⟩:=(cells_of (cs:=[_,_]) ht0).get2;rw [Nat.zero_add] at t1;have zT5:=cell_lt t0;have hdn:=stillDone_ok (S:=iv W3.heap.size w4.heap.size) ta tc ua fs.length uc gs (fs.map tidyFn) W5 (Hg4.out.later rGlobal_mono hb5) (Hf4.out.later rFunc_mono hb5) (by simp) Htc.out;have Hdn:=hid hdn;have Hw5:Hid (Below w.heap.size w W5):=Hw3.out.trans (Hb35.out.mono Hw3.out.size);clear hW5 h5s ht0 hy0 hb5 hTB hdn a0 a1 v0 v1 x0 x1 e0 e1 zU3 zV3 zF3 zE3
   go_upto_region 7 with (first
    | (go_at_call 16; refine Hdn.out.mono ?_; rintro e w6 ⟨pa, pc, qa, qc, rfl, hg6, hf6, hb6⟩
       have Hb6 := hid hb6
       have hti := tidy_ok (S := fun b => b < w6.heap.size) pa pc qa fs.length qc gs ((fs.map tidyFn).map (doneFn (stillF (wordsL gs) (insU (fs.map tidyFn))) (wordsL gs))) w6 hg6 hf6 (by simp) (Ways.below Hw.out (Hw5.out.trans (hb6.mono Hw5.out.size))) (fun b hb => hb) Hm1.out
       have Hti := hid hti
       clear hg6 hf6 hb6 hti)
    | (go_at_call 15; refine Hti.out.mono ?_; rintro e w7 ⟨ra, rc, sa, sc, rfl, hg7, hf7, hb7⟩
       have Hg7 := hid hg7
       have Hf7 := hid hf7
       have Hb7 := hid hb7
       clear hg7 hf7 hb7))
   obtain⟨W8,hW8⟩:∃W8,W8=(w7.alloc (.cells #[.slice ra gs.length rc,.slice sa fs.length sc] 25)).alloc (.cells #[.int .i64 0,.int .i64 0] 27):=⟨_,rfl⟩
   obtain⟨h8s,hr0,hz0⟩:=two_cells w7 (.cells #[.slice ra gs.length rc,.slice sa fs.length sc] 25) (.cells #[.int .i64 0,.int .i64 0] 27);rw [←hW8] at h8s hr0 hz0 ⊢;have hb8:Below w7.heap.size w7 W8:=by rw [hW8];(repeat (first | exact Below.refl _ _ | refine Below.alloc ?_ (by first|omega|(simp<;>omega)) _ | refine Below.setCell ?_ (by first|omega|(simp<;>omega)) _ | refine below_drewN ?_ _ | refine Below.drew ?_))
   have Hb78:=hid hb8;have Hb68:Hid (Below w6.heap.size w6 W8):=Hb7.out.trans (hb8.mono Hb7.out.size);have Hb58:Hid (Below W5.heap.size W5 W8):=Hb6.out.trans (Hb68.out.mono Hb6.out.size);have Hb28:Hid (Below W2.heap.size W2 W8):=Hb25.out.trans (Hb58.out.mono Hb25.out.size);obtain⟨RB,hRB⟩:∃RB,RB=w7.heap.size:=⟨_,rfl⟩
   obtain⟨ZB,hZB⟩:∃ZB,ZB=w7.heap.size+1:=⟨_,rfl⟩
   rw [←hZB] at hz0 ⊢;rw [←hRB] at hr0 ⊢;obtain⟨r0,r1⟩:=(cells_of (cs:=[_,_]) hr0).get2;obtain⟨z0,z1⟩:=(cells_of (cs:=[_,_]) hz0).get2;rw [Nat.zero_add] at r1 z1;obtain⟨hw8,-,-,v0,v1,x0,x1⟩:=Hcl.out W8 Hb28.out;have Hw8:=hid hw8;have zV8:=cell_lt v0;have zF8:=cell_lt x0;have zR8:=cell_lt r0;have zZ8:=cell_lt z0
   have Hun := hid (units_same' (S := iv W.heap.size w1.heap.size) (S' := iv w6.heap.size w7.heap.size) va ra wa sa vc rc wc sc gs (stillT gs fs) fs.length W8
    (Hgv.out.later rGlobal_mono (Hb12.out.trans (Hb28.out.mono Hb12.out.size))) (Hg7.out.later rGlobal_mono hb8) (Hfv.out.later rFunc_mono (Hb12.out.trans (Hb28.out.mono Hb12.out.size))) (Hf7.out.later rFunc_mono hb8) Hlm.out hgl Hsmg.out hfl Hsmf.out)
   clear hW8 h8s hr0 hz0 hb8 hRB hZB hw8 t0 t1 zT5;go_wp2_with (go_at_call 12;refine Hun.out.mono ?_;rintro e w9 ⟨rfl,hb9⟩;have v0:=cell_later' v0 hb9;have v1:=cell_later' v1 hb9;have zV9:=cell_lt v0);go_ret;exact⟨rfl,by have h:=Hw8.out;(have hz0:=(hb9).size;have hy0:=hz0;(try simp at hy0);have hz1:=(h).size;have hy1:=hz1;(try simp at hy1);repeat (first | exact Below.refl _ _ | refine Below.trans ?_ ((hb9).mono (by first|omega|(simp<;>omega))) | refine Below.trans ?_ ((h).mono (by first|omega|(simp<;>omega))) | refine Below.alloc ?_ (by first|omega|(simp<;>omega)) _ | refine Below.setCell ?_ (by first|omega|(simp<;>omega)) _ | refine below_drewN ?_ _ | refine Below.drew ?_))⟩
 · obtain⟨rfl,rfl⟩:vn=0∧wn=0:=by
    rcases Hcase.out with h | h
    · exact⟨h.2.1,h.2.2⟩
    · exact absurd h.1 hc0
   have hq:(decide (c<0)||decide (0<c))=true:=ne_yes hc0;clear Hcase hc0
   go_wp2_with (first
    | (go_at_call 9; refine (none_any _ _ _ _ 0 0 _).mono ?_; rintro e w6 ⟨rfl, hb6⟩))
   go_ret;exact⟨rfl,by have h:=Hw3.out;(have hz0:=(hb6).size;have hy0:=hz0;(try simp at hy0);have hz1:=(h).size;have hy1:=hz1;(try simp at hy1);repeat (first | exact Below.refl _ _ | refine Below.trans ?_ ((hb6).mono (by first|omega|(simp<;>omega))) | refine Below.trans ?_ ((h).mono (by first|omega|(simp<;>omega))) | refine Below.alloc ?_ (by first|omega|(simp<;>omega)) _ | refine Below.setCell ?_ (by first|omega|(simp<;>omega)) _ | refine below_drewN ?_ _ | refine Below.drew ?_))⟩

end Go.Proofs.YtnkogppgacappaaGreatDoor
