/- tidy.NamesOf: the walk. -/
import Derived.Test.YtnkogppgacappaaGreatDoorPNm3
import Derived.Test.YtnkogppgacappaaGreatDoorPNmW
import Derived.Test.YtnkogppgacappaaGreatDoorPKeep
import Derived.Test.YtnkogppgacappaaGreatDoorPGPost
import Derived.BigRegion
import Derived.Deep.DeepCutAuto
import Derived.Deep.RegionHeld3
import Derived.Deep.RegionLaw
import Derived.Deep.RegionWith
namespace Go.Proofs.YtnkogppgacappaaGreatDoor
open Go.RowKit

def namF(T NB:Nat)(bs:List DBlock)(V:Pth→Value)(b:Nat):Prop:=b≠T∧b≠NB∧∀q,okP bs q→(V q).ownBlock≠some b

def NCut {S:Nat→Prop}(w wc:World)(base UB UO:Nat)(nm:ByteArray)(pn n:Nat)(bk:List DBlock):Prop :=
 ∃V1 ra rc,FunSt wc base bk V1∧V1 .blks = .slice ra bk.length rc∧wc.heap[UB]?=some (.cells #[.string nm,.int .i64 (pn:Int),.int .i64 (n:Int),.slice ra bk.length rc] 38 (0,0)) ∧
   wc.heap[UO]?=some (.cells #[.string ⟨#[]⟩,.int .i64 0,.int .i64 0,.slice none 0 0] 38 (0,0))∧Below base w wc∧(∀b,S b→wc.heap[b]?=w.heap[b]?)∧∀b,S b∨b=UB∨b=UO→∀q,okP bk q→(V1 q).ownBlock≠some b

set_option maxRecDepth 100000 in
set_option maxHeartbeats 8000000 in
theorem names_any {S : Nat → Prop} (nm : ByteArray) (pn n : Nat) (bs : List DBlock) (V : Pth → Value) (base : Nat) (w : World) (hf : FunSt w base bs V) (hbase : base ≤ w.heap.size) (hok : FunOk bs) (hto : ToOk bs)
 (hn:n≤1048576) (hpn:pn≤n) (bk:List DBlock) (hbk:bk=keepF bs (ordL bs)) (hokk:FunOk bk) (hreg:∀x∈bk,RegIn n x)
 (hS:∀b,S b→b<w.heap.size∧∀q,okP bs q→(V q).ownBlock≠some b) :
 Calls Tryz.prog 72 #[.agg #[.string nm,.int .i64 (pn:Int),.int .i64 (n:Int),V .blks]] w fun e w' =>
  ∃V',e = .returned (.agg #[.string nm,.int .i64 (pn:Int),.int .i64 (namesN pn n bk),V' .blks])∧FunSt w' base (namesB pn n bk) V'∧Below base w w'∧Kept S w w' (namesB pn n bk) V':=by
 obtain⟨ba,bc,hbv⟩:=RowsAt.shape (p := .blks) hf trivial;obtain⟨m,hm⟩:∃m,m=bs.length:=⟨_,rfl⟩
 rw [show (elemsP bs V .blks).length=m by simp [elemsP,hm]] at hbv;have Hf:=hid hf;have Hok:=hid hok;have Hto:=hid hto;have Hbk:=hid hbk;have Hokk:=hid hokk;have Hreg:=hid hreg;have HS:=hid hS;have Hm:=hid hm;have Hbv:=hid hbv;rw [hbv];clear hf hok hto hbk hokk hreg hS hm hbv;go_enter Tryz.func72,Tryz.ntmps72;go_upto_region 1 with (fail)
 obtain⟨W,hW⟩:∃W,W=(w.alloc (.cells #[.string nm,.int .i64 (pn:Int),.int .i64 (n:Int),.slice ba m bc] 38)).alloc (.cells #[.string ⟨#[]⟩,.int .i64 0,.int .i64 0,.slice none 0 0] 38):=⟨_,rfl⟩
 obtain⟨hWs,h0,h1⟩:=two_cells w (.cells #[.string nm,.int .i64 (pn:Int),.int .i64 (n:Int),.slice ba m bc] 38) (.cells #[.string ⟨#[]⟩,.int .i64 0,.int .i64 0,.slice none 0 0] 38);rw [←hW] at hWs h0 h1 ⊢;have hbW:Below w.heap.size w W:=by rw [hW];(repeat (first | exact Below.refl _ _ | refine Below.alloc ?_ (by first|omega|(simp<;>omega)) _ | refine Below.setCell ?_ (by first|omega|(simp<;>omega)) _ | refine below_drewN ?_ _ | refine Below.drew ?_))
 obtain⟨UB,hUB⟩:∃UB,UB=w.heap.size:=⟨_,rfl⟩
 obtain⟨UO,hUO⟩:∃UO,UO=w.heap.size+1:=⟨_,rfl⟩
 rw [←hUO] at h1 ⊢;rw [←hUB] at h0 ⊢;have HUs:Hid (UB=w.heap.size∧UO=w.heap.size+1∧W.heap.size=w.heap.size+2):=⟨hUB,hUO,hWs⟩
 have HB:Hid (base≤w.heap.size):=hbase;have H0:=hid h0;have H1:=hid h1;have HbW:=hid hbW;obtain⟨c0,c1,c2,c3⟩:=(cells_of (cs:=[_,_,_,_]) h0).get4;rw [Nat.zero_add] at c1 c2 c3;have hrd:SlAt (fun b=>base≤b∧b<w.heap.size) W.drew 6 rBlock (.slice ba m bc) bs:=by
  have h:=FunSt.read Hf.out Hok.out.num;rw [Hbv.out] at h;exact h.later rBlock_mono (HbW.out.trans ((Below.refl W.heap.size W).drew.mono HbW.out.size))
 have Hrd:=hid hrd;have Hcl:Hid (∀w',Below W.heap.size W w'→w'.cell? ⟨UB,0,none⟩=some (.string nm)∧w'.cell? ⟨UB,1,none⟩=some (.int .i64 (pn:Int))∧w'.cell? ⟨UB,2,none⟩=some (.int .i64 (n:Int))∧w'.cell? ⟨UB,3,none⟩=some (.slice ba m bc)) :=
  fun w' h=>⟨cell_later' c0 h,cell_later' c1 h,cell_later' c2 h,cell_later' c3 h⟩
 have zU:UB<W.heap.size:=cell_lt c0;have hm2:m≤1048576:=by rw [Hm.out];exact Hok.out.len
 have HO:=hid (orderOf_any nm (pn:Int) (n:Int) ba m bc bs W.drew Hrd.out (fun b hb=>by have:=HbW.out.size;simp;omega) Hm.out.symm hm2 Hto.out)
 have HK0 : Hid (∀ w8 oa oc, Below W.heap.size W w8 → OwnInts W.drew.heap.size w8 (.slice oa (ordL bs).length oc) (ordL bs) →
  Calls Tryz.prog 74 #[.agg #[.string nm, .int .i64 (pn : Int), .int .i64 (n : Int), .slice ba m bc], .slice oa (ordL bs).length oc] w8 fun e w' => ∃ V', e = .returned (.agg #[.string nm, .int .i64 (pn : Int), .int .i64 (n : Int), V' .blks]) ∧
   FunSt w' base bk V' ∧ Below base w8 w' ∧ Kept (fun b => S b ∨ (w.heap.size ≤ b ∧ b < w8.heap.size)) w8 w' bk V') := fun w8 oa oc hW8 hv => by
  have hwz:=HbW.out.size;have hwz8:=hW8.size
  have hK := keep_any (S := fun b => S b ∨ (w.heap.size ≤ b ∧ b < w8.heap.size)) nm (pn : Int) (n : Int) bs V base w8 (Hf.out.later (HbW.out.trans (hW8.mono hwz))) (by omega) Hok.out oa (ordL bs).length oc (ordL bs)
   (hv.sl.mono rInt_mono (fun b hb => .inr ⟨Nat.le_trans hwz hb.1,hb.2⟩) (Stays.refl _ _)) rfl (Nat.le_trans (by have h:=ordN_le Hto.out;rw [ordN_len] at h;rw [show (ordL bs).length=(postF bs).length from List.length_reverse ..];exact h) Hok.out.len)
   (fun b hb => by
     rcases hb with h | h
     · exact ⟨Nat.lt_of_lt_of_le (HS.out b h).1 (Nat.le_trans hwz hwz8), (HS.out b h).2⟩
     · exact ⟨h.2, fun q hq e => by have := (RowsAt.lt Hf.out hq b e).2; omega⟩)
   (fun x hx=>(post_facts Hto.out).1 x (List.mem_reverse.1 hx)) (List.pairwise_reverse.2 ((post_facts Hto.out).2.1.imp fun h e=>h e.symm))
  rw [Hbv.out,←Hbk.out] at hK;exact hK
 clear hW h0 h1 hbW hUB hUO hWs hbase hrd;go_cut [26] (fun v26 wc=>v26=v26∧NCut (S:=S) w wc base UB UO nm pn n bk)
 case first =>
  --DEV
  go_region_law
   ((first
     | (go_simp; go_at_call 75; refine HO.out.mono ?_; rintro e w8 ⟨v, rfl, hv, hb8⟩
        obtain ⟨oa, oc, hov⟩ := hv.shape
        subst hov
        have hW8 : Below W.heap.size W w8 := (Below.refl W.heap.size W).drew.trans hb8
        obtain ⟨d0, d1, d2, d3⟩ := Hcl.out w8 hW8
        have zU8 := cell_lt d0
        have HK := hid (HK0.out w8 oa oc hW8 hv)
        have HW8 := hid hW8
        clear hv hb8 hW8)
     | (go_simp; go_at_call 74; refine HK.out.mono ?_; rintro e w9 ⟨V1, rfl, hf9, hb9, hk9⟩
        obtain ⟨ra, rc, hrv⟩ := RowsAt.shape (p := .blks) hf9 trivial
        obtain ⟨l, hl⟩ : ∃ l, l = bk.length := ⟨_, rfl⟩
        rw [show (elemsP bk V1 .blks).length = l by simp [elemsP, hl]] at hrv
        rw [hrv]
        have hu9 : w9.heap[UB]? = some (.cells #[.string nm, .int .i64 (pn : Int), .int .i64 (n : Int), .slice ba m bc] 38 (0, 0)) := ((hk9 UB (.inr ⟨by have := HUs.out; omega, zU8⟩)).1.trans (HW8.out.block UB zU)).trans H0.out
        obtain ⟨e0, e1, e2, e3⟩ := (cells_of (cs := [_, _, _, _]) hu9).get4
        rw [Nat.zero_add] at e1 e2 e3
        have k0 := thawed hu9 0
        have k1 := thawed hu9 1
        have k2 := thawed hu9 2
        have k3 := thawed hu9 3
        have Hl := hid hl
        have Hrv := hid hrv
        have Hu9 := hid hu9
        have Hf9 := hid hf9
        have Hb9 := hid hb9
        have Hk9 := hid hk9
        clear hf9 hb9 hk9 hu9 hrv hl)))
  all_goals
   have hne:UO≠UB:=by have:=HUs.out;omega
   have hoff:∀b,S b∨b=UB∨b=UO→∀q,okP bk q→(V1 q).ownBlock≠some b:=fun b hb=>by
    rcases hb with h | rfl | rfl
    · exact (Hk9.out b (.inl h)).2
    · exact (Hk9.out b (.inr ⟨by have:=HUs.out;omega,zU8⟩)).2
    · exact (Hk9.out b (.inr ⟨by have:=HUs.out;omega,by have:=HUs.out;have:=HW8.out.size;omega⟩)).2
   have hxb:=hoff UB (.inr (.inl rfl));have hrows:=(((RowsAt.setOff Hf9.out (o:=0) hxb (.string nm)).setOff (o:=1) hxb (.int .i64 (pn:Int))).setOff (o:=2) hxb (.int .i64 (n:Int))).setOff (o:=3) hxb (.slice ra l rc);have hkp:Kp (fun b=>b≠UB) w9 ((((w9.setCell ⟨UB,0,none⟩ (.string nm)).setCell ⟨UB,1,none⟩ (.int .i64 (pn:Int))).setCell ⟨UB,2,none⟩ (.int .i64 (n:Int))).setCell ⟨UB,3,none⟩ (.slice ra l rc)):=kp_more (kp_more (kp_more (kp_one _ _ _ _) _ _) _ _) _ _;have hz9:=Hb9.out.size;have hz8:=HW8.out.size;have hzw:=HUs.out;have hS9:∀b,S b→w9.heap[b]?=w.heap[b]?:=fun b hb=>(Hk9.out b (.inl hb)).1.trans ((HW8.out.block b (by have:=(HS.out b hb).1;omega)).trans (HbW.out.block b (HS.out b hb).1));have hcut:NCut (S:=S) w ((((w9.setCell ⟨UB,0,none⟩ (.string nm)).setCell ⟨UB,1,none⟩ (.int .i64 (pn:Int))).setCell ⟨UB,2,none⟩ (.int .i64 (n:Int))).setCell ⟨UB,3,none⟩ (.slice ra l rc)) base UB UO nm pn n bk:=by
    refine⟨V1,ra,rc,hrows,by rw [Hrv.out,Hl.out],by rw [←Hl.out];exact set4H Hu9.out,?_,?_,fun b hb=>?_,hoff⟩
    · refine (hkp.block UO (by omega) hne).trans (((Hk9.out UO (.inr ⟨by omega,by omega⟩)).1.trans (HW8.out.block UO (by omega))).trans H1.out)
    · refine ((((((HbW.out.mono HB.out).trans (HW8.out.mono (by have:=HB.out;omega))).trans Hb9.out).setCell (p:=⟨UB,0,none⟩) ?_ _).setCell (p:=⟨UB,1,none⟩) ?_ _).setCell (p:=⟨UB,2,none⟩) ?_ _).setCell (p:=⟨UB,3,none⟩) ?_ _ <;> (have:=HB.out;show base≤UB;omega)
    · have hbl:=(HS.out b hb).1
      exact (hkp.block b (by omega) (show b≠UB by omega)).trans (hS9 b hb)
   have Hcut:=hid hcut;clear hcut hS9 hkp hrows hoff hxb hz9 hz8 hzw hne e0 e1 e2 e3 k0 k1 k2 k3;go_wp2_with fail;go_meet;exact⟨trivial,Hcut.out⟩
  --END
 case rest =>
  obtain⟨-,V1,ra,rc,hrows,hrv,hub,huo,hbc,hsk,hoff⟩:=hcut;obtain⟨W9,hW9⟩:∃W9:World,W9=wc:=⟨_,rfl⟩
  subst hW9;obtain⟨l,hl⟩:∃l,l=bk.length:=⟨_,rfl⟩
  rw [←hl] at hrv hub;obtain⟨e0,e1,e2,e3⟩:=(cells_of (cs:=[_,_,_,_]) hub).get4;rw [Nat.zero_add] at e1 e2 e3;have Hrows:=hid hrows;have Hrv:=hid hrv;have Hub:=hid hub;have Huo:=hid huo;have Hbc:=hid hbc;have Hsk:=hid hsk;have Hoff:=hid hoff;have Hl:=hid hl;have zB:UB<W9.heap.size:=cell_lt e0;clear hrows hrv hub huo hbc hsk hoff hl c0 c1 c2 c3 HO HK0 Hrd e0 e1;go_upto_region 2 with (fail)
  go_upto_region 3 with (go_at_call 90;refine (repeatInts_any _ _ (-1) n hn _ (new_cells _ [.int .i64 (-1)] 3 rfl 0 _ rfl)).mono ?_;rintro e w2 ⟨T,rfl,hg,hrow,hb2⟩;have hWb2:Below W9.heap.size W9 w2:=(by (have hz0:=(hb2).size;have hy0:=hz0;(try simp at hy0);repeat (first | exact Below.refl _ _ | refine Below.trans ?_ ((hb2).mono (by first|omega|(simp<;>omega))) | refine Below.alloc ?_ (by first|omega|(simp<;>omega)) _ | refine Below.setCell ?_ (by first|omega|(simp<;>omega)) _ | refine below_drewN ?_ _ | refine Below.drew ?_)));have hT:W9.heap.size≤T:=(by simp at hg;omega);have Hrow:=hid hrow;have HWb2:=hid hWb2;have HT:=hid hT;clear hg hrow hb2 hWb2 hT)
  obtain⟨NB,hNB⟩:∃NB,NB=w2.heap.size:=⟨_,rfl⟩
  obtain⟨W3,hW3⟩:∃W3,W3=w2.alloc (.cells #[.slice (some ⟨T,0,none⟩) n n,.int .i64 0] 154):=⟨_,rfl⟩
  have hbx:W3.heap[NB]?=some (.cells #[.slice (some ⟨T,0,none⟩) n n,.int .i64 0] 154 (0,0)):=by rw [hW3,hNB];exact heap_alloc_new _ _
  rw [←hW3,←hNB];have hb23:Below w2.heap.size w2 W3:=by rw [hW3];(repeat (first | exact Below.refl _ _ | refine Below.alloc ?_ (by first|omega|(simp<;>omega)) _ | refine Below.setCell ?_ (by first|omega|(simp<;>omega)) _ | refine below_drewN ?_ _ | refine Below.drew ?_))
  have h3s:W3.heap.size=NB+1:=by rw [hW3,hNB];simp
  have hTl:T<w2.heap.size:=(Array.getElem?_eq_some_iff.1 Hrow.out).1;have hnm:NmSt W3 T NB n (nm0 n):=⟨by rw [hb23.block T hTl,Hrow.out];simp [nm0],hbx,nm0_ok n⟩
  have h93:Below W9.heap.size W9 W3:=HWb2.out.trans (hb23.mono HWb2.out.size);have HNs:Hid (W9.heap.size≤T∧T<W3.heap.size∧W9.heap.size≤NB∧NB<W3.heap.size∧w.heap.size≤W9.heap.size∧W9.heap.size≤W3.heap.size):=by
   show _∧_;have h1:=HT.out;have h2:=HWb2.out.size;have h3:=Hbc.out.size;have h4:=h93.size;omega
  have Hnm:=hid hnm;have H93:=hid h93;have e1:W3.cell? ⟨UB,1,none⟩=some (.int .i64 (pn:Int)):=by
   have h:=(cells_of (cs:=[_,_,_,_]) Hub.out) 1 _ rfl;rw [Nat.zero_add] at h;exact cell_later' h h93
  have HFk:Hid (∀b,b<W9.heap.size→NmF T NB b):=fun b hb=>⟨by have:=HNs.out;omega,by have:=HNs.out;omega⟩
  clear hNB hW3 hbx hb23 h3s hTl hnm h93 e2 e3 zB Hrow HWb2 HT;go_wp2_with fail;go_loopw [35] (fun s35 wr=>∃k:Nat,k≤pn∧s35 = .int .i64 (k:Int)∧NmSt wr T NB n (nmPar (nm0 n) k)∧Kp (NmF T NB) W3 wr) (fun s35 _=>pn - (intOf s35).toNat)
  case atStart=>exact⟨0,Nat.zero_le _,rfl,Hnm.out,Kp.refl _ _⟩
  case round =>
   obtain⟨k,hk,rfl,hnk,hkp⟩:=hrel;have Hnk:=hid hnk;have Hkp:=hid hkp;clear hnk hkp
   by_cases hkn:k<pn
   · have Hrk:Hid (0≤(k:Int)∧(k:Int)<n):=by show _∧_;omega
     go_wp2_with (go_at_call 106;refine (nmName_any hn wr Hnk.out (k:Int) Hrk.out).mono ?_;rintro e w2 ⟨rfl,hn2,hk2⟩;have Hn2:=hid hn2;have Hk2:=hid hk2;clear hn2 hk2);go_roundw
     case rel=>exact⟨k+1,by omega,by go_num,by rw [nmPar_succ];exact Hn2.out,Hkp.out.trans Hk2.out⟩
     case measure=>simp [intOf];omega
   · have hkp2:pn=k:=by omega
     subst hkp2;obtain⟨s0,hs0⟩:∃s0,s0=nmPar (nm0 n) pn:=⟨_,rfl⟩
     obtain⟨W4,hW4⟩:∃W4:World,W4=wr:=⟨_,rfl⟩
     subst hW4;rw [←hs0] at Hnk;have Hs0:=hid hs0;have u3:W4.cell? ⟨UB,3,none⟩=some (.slice ra l rc):=by
      have h:=(cells_of (cs:=[_,_,_,_]) Hub.out) 3 _ rfl;rw [Nat.zero_add] at h;exact Hkp.out.cell (HFk.out UB (cell_lt h)) (cell_later' h H93.out)
     have hrd3:SlAt (fun b=>base≤b∧b<W9.heap.size) W4 6 rBlock (.slice ra l rc) bk:=by
      have h:=FunSt.read Hrows.out Hokk.out.num;rw [Hrv.out] at h;exact (h.later rBlock_mono H93.out).mono rBlock_mono (fun _ h=>h) (Hkp.out.stays fun b hb=>HFk.out b hb.2)
     have Hrd3:=hid hrd3;have HW4:Hid (W3.heap.size≤W4.heap.size):=Hkp.out.size;have hl2:l≤1048576:=by rw [Hl.out];exact Hokk.out.len
     have HFn:Hid (∀b,W3.heap.size≤b→NmF T NB b):=fun b hb=>⟨by have:=HNs.out;omega,by have:=HNs.out;omega⟩
     clear hs0 hrd3 hk hkn e1;go_wp2_with fail;clear u3;go_loopw [45] (fun s45 wr=>∃k:Nat,k≤l∧s45 = .int .i64 (k:Int)∧NmSt wr T NB n ((bk.take k).foldl nmB1 s0)∧Kp (NmF T NB) W4 wr) (fun s45 _=>l - (intOf s45).toNat)
     case atStart=>exact⟨0,Nat.zero_le _,rfl,Hnk.out,Kp.refl _ _⟩
     case round =>
      obtain⟨wo,hwo⟩:∃wo:World,wo=wr:=⟨_,rfl⟩
      subst hwo;obtain⟨k,hk,rfl,hnk,hkp⟩:=hrel
      by_cases hkl:k<l
      · skip
        --DEV
        have hkb:k<bk.length:=by rw [←Hl.out];exact hkl
        obtain⟨x,hx⟩:∃x,bk[k]?=some x:=⟨_,List.getElem?_eq_getElem hkb⟩
        obtain⟨ob,off,cs,hra,hSb,hxx,-,hcs⟩:=(Hrd3.out.mono rBlock_mono (fun _ h=>h) (hkp.stays fun b hb=>HFk.out b hb.2)).get hkb;rw [(List.getElem?_eq_some_iff.1 hx).2] at hxx;subst hra;obtain⟨pa,pc,la,lc,ta,tc,rfl,hps,hls,-,hpm,hlm,htm,-,-⟩:=hxx.opens;obtain⟨p,hp⟩:∃p,p=x.phis.length:=⟨_,rfl⟩
        obtain⟨q,hq⟩:∃q,q=x.list.length:=⟨_,rfl⟩
        obtain⟨tn,htn⟩:∃tn,tn=x.fin.to.length:=⟨_,rfl⟩
        obtain⟨ek,hek⟩:∃ek,ek=x.fin.kind:=⟨_,rfl⟩
        obtain⟨er,her⟩:∃er,er=x.fin.on.reg:=⟨_,rfl⟩
        obtain⟨en,hen⟩:∃en,en=x.fin.on.n:=⟨_,rfl⟩
        rw [←hp] at hps hpm hcs;rw [←hq] at hls hlm hcs;rw [←htn] at htm hcs;rw [←hek,←her,←hen] at hcs;obtain⟨s1,hs1⟩:∃s1,s1=(bk.take k).foldl nmB1 s0:=⟨_,rfl⟩
        rw [←hs1] at hnk;have Hs1:=hid hs1;have Hx:=hid hx;have Hdat:Hid (p=x.phis.length∧q=x.list.length∧er=x.fin.on.reg∧en=x.fin.on.n):=⟨hp,hq,her,hen⟩
        have Hnk1:=hid hnk;have Hkp1:=hid hkp;have hsmx:=Hokk.out.small x (List.mem_of_getElem? hx);have hp2:p≤1048576:=by rw [hp];exact hsmx.phis
        have hq2:q≤1048576:=by rw [hq];exact hsmx.list
        have Hrx:=hid (Hreg.out x (List.mem_of_getElem? hx));have Hsm:=hid hsmx;have hat:CellsAt wo ob (off+k * 6) [.slice pa p pc,.slice la q lc,.int .i64 ek,.bool er,.int .i64 en,.slice ta tn tc]:=hcs;obtain⟨c0,c1,c2,c3,c4,c5⟩:=hat.get6;have zo:ob<wo.heap.size:=cell_lt c0;have Hps:=hid hps;have Hls:=hid hls;clear hs1 hnk hkp hx hp hq htn hek her hen hxx hcs hat hsmx hps hls hSb hkb;go_upto_region 11 with (fail)
        obtain⟨LB,hLB⟩:∃LB,LB=wo.heap.size:=⟨_,rfl⟩
        obtain⟨W5,hW5⟩:∃W5,W5=wo.alloc (.cells #[.slice pa p pc,.slice la q lc,.int .i64 ek,.bool er,.int .i64 en,.slice ta tn tc] 76):=⟨_,rfl⟩
        have hl5:W5.heap[LB]?=some (.cells #[.slice pa p pc,.slice la q lc,.int .i64 ek,.bool er,.int .i64 en,.slice ta tn tc] 76 (0,0)):=by rw [hW5,hLB];exact heap_alloc_new _ _
        rw [←hW5,←hLB];have hb5:Below wo.heap.size wo W5:=by rw [hW5];(repeat (first | exact Below.refl _ _ | refine Below.alloc ?_ (by first|omega|(simp<;>omega)) _ | refine Below.setCell ?_ (by first|omega|(simp<;>omega)) _ | refine below_drewN ?_ _ | refine Below.drew ?_))
        have HFL:Hid (NmF T NB LB):=by
         refine HFn.out LB ?_;have:=Hkp1.out.size;have:=HW4.out;omega
        have Hnm5:=hid (Hnk1.out.below hb5);have Hkp5:Hid (Kp (NmF T NB) W4 W5):=Hkp1.out.trans (Kp.of hb5);have Hps5:=hid (Hps.out.later rPhi_mono hb5);have Hls5:=hid (Hls.out.later rIns_mono hb5);have Hl5:=hid hl5;have Hb5:=hid hb5;obtain⟨l0,l1,l2,l3,l4,l5⟩:=(cells_of (cs:=[_,_,_,_,_,_]) hl5).get6;rw [Nat.zero_add] at l1 l2 l3 l4 l5;clear hLB hW5 hl5 hb5 c0 c1 c2 c3 c4 c5 zo Hps Hls Hnk1 Hkp1;go_wp2_with fail;clear l0 l1 l2 l3 l4 l5;go_loopw [52] (fun s52 wr=>∃i:Nat,i≤p∧s52 = .int .i64 (i:Int)∧NmSt wr T NB n ((x.phis.take i).foldl nmPhi s1)∧Kp (NmF T NB) W5 wr) (fun s52 _=>p - (intOf s52).toNat)
        case atStart=>exact⟨0,Nat.zero_le _,rfl,Hnm5.out,Kp.refl _ _⟩
        case round =>
         obtain⟨wp,hwp⟩:∃wp:World,wp=wr:=⟨_,rfl⟩
         subst hwp;obtain⟨i,hi,rfl,hni,hki⟩:=hrel
         by_cases hip:i<p
         · have hil:i<x.phis.length:=by rw [←Hdat.out.1];exact hip
           obtain⟨ph,hph⟩:∃ph,x.phis[i]?=some ph:=⟨_,List.getElem?_eq_getElem hil⟩
           obtain⟨pb,poff,cs,hpa,hSb,hxx,-,hcs⟩:=(Hps5.out.mono rPhi_mono (fun _ h=>h) (hki.stays fun b hb=>HFk.out b hb.2)).get hil;rw [(List.getElem?_eq_some_iff.1 hph).2] at hxx;subst hpa;obtain⟨fa,fc,rfl,-,-,-⟩:=hxx.opens;obtain⟨fn,hfn⟩:∃fn,fn=ph.src.length:=⟨_,rfl⟩
           obtain⟨d,hd⟩:∃d,d=ph.dst:=⟨_,rfl⟩
           rw [←hfn,←hd] at hcs;have hat:CellsAt wp pb (poff+i * 2) [.int .i64 d,.slice fa fn fc]:=hcs;obtain⟨c0,c1⟩:=hat.get2;have zp:pb<wp.heap.size:=cell_lt c0;have Hrd:Hid (0≤d∧d<n):=by rw [hd];exact (Hrx.out.phi ph (List.mem_of_getElem? hph)).1
           have Hni:=hid hni;have Hki:=hid hki;have Hph:=hid hph;have Hd:=hid hd;clear hni hki hph hd hfn hxx hcs hat hil hSb;go_upto_region 14 with (fail)
           obtain⟨W6,hW6⟩:∃W6,W6=wp.alloc (.cells #[.int .i64 d,.slice fa fn fc] 94):=⟨_,rfl⟩
           have hl6:=heap_alloc_new wp (.cells #[.int .i64 d,.slice fa fn fc] 94);have hb6:Below wp.heap.size wp W6:=by rw [hW6];(repeat (first | exact Below.refl _ _ | refine Below.alloc ?_ (by first|omega|(simp<;>omega)) _ | refine Below.setCell ?_ (by first|omega|(simp<;>omega)) _ | refine below_drewN ?_ _ | refine Below.drew ?_))
           rw [←hW6] at hl6 ⊢;obtain⟨PB,hPB⟩:∃PB,PB=wp.heap.size:=⟨_,rfl⟩
           rw [←hPB] at hl6 ⊢;obtain⟨l0,l1⟩:=(cells_of (cs:=[_,_]) hl6).get2;have Hb6:=hid hb6;have Hnm6:=hid (Hni.out.below hb6);clear hW6 hl6 hb6 hPB c0 c1 zp;go_wp2_with (go_at_call 106;refine (nmName_any hn W6 Hnm6.out d Hrd.out).mono ?_;rintro e w2 ⟨rfl,hn2,hk2⟩;have Hn2:=hid hn2;have Hk2:=hid hk2;clear hn2 hk2);go_roundw
           case rel =>
            refine⟨i+1,by omega,by go_num,?_,(Hki.out.trans (Kp.of Hb6.out)).trans Hk2.out⟩;rw [foldl_step nmPhi s1 Hph.out];unfold nmPhi;rw [←Hd.out];exact Hn2.out
           case measure=>simp [intOf];omega
         · have hip2:p=i:=by omega
           subst hip2;rw [Hdat.out.1,List.take_length] at hni;obtain⟨s2,hs2⟩:∃s2,s2=x.phis.foldl nmPhi s1:=⟨_,rfl⟩
           rw [←hs2] at hni;obtain⟨W6,hW6⟩:∃W6:World,W6=wp:=⟨_,rfl⟩
           subst hW6;have hls6:=Hls5.out.mono rIns_mono (fun _ h=>h) (hki.stays fun b hb=>HFk.out b hb.2);have hl6:W6.heap[LB]?=some (.cells #[.slice pa p pc,.slice la q lc,.int .i64 ek,.bool er,.int .i64 en,.slice ta tn tc] 76 (0,0)):=(hki.block LB (Array.getElem?_eq_some_iff.1 Hl5.out).1 HFL.out).trans Hl5.out;obtain⟨l0,l1,l2,l3,l4,l5⟩:=(cells_of (cs:=[_,_,_,_,_,_]) hl6).get6;rw [Nat.zero_add] at l1 l2 l3 l4 l5;have Hls6:=hid hls6;have Hl6:=hid hl6;have Hs2:=hid hs2;have Hni:=hid hni;have Hk46:Hid (Kp (NmF T NB) W4 W6):=Hkp5.out.trans hki;clear hs2 hls6 hl6 hni hki hi hip Hps5 Hls5 Hl5;go_wp2_with fail;clear l0 l1 l2 l3 l4 l5;go_loopw [64] (fun s64 wr=>∃i:Nat,i≤q∧s64 = .int .i64 (i:Int)∧NmSt wr T NB n ((x.list.take i).foldl nmIns s2)∧Kp (NmF T NB) W6 wr) (fun s64 _=>q - (intOf s64).toNat)
           case atStart=>exact⟨0,Nat.zero_le _,rfl,Hni.out,Kp.refl _ _⟩
           case round =>
            obtain⟨wp,hwp⟩:∃wp:World,wp=wr:=⟨_,rfl⟩
            subst hwp;obtain⟨i,hi,rfl,hni,hki⟩:=hrel
            by_cases hiq:i<q
            · have hil:i<x.list.length:=by rw [←Hdat.out.2.1];exact hiq
              obtain⟨y,hy⟩:∃y,x.list[i]?=some y:=⟨_,List.getElem?_eq_getElem hil⟩
              obtain⟨pb,poff,cs,hpa,hSb,hxx,-,hcs⟩:=(Hls6.out.mono rIns_mono (fun _ h=>h) (hki.stays fun b hb=>HFk.out b hb.2)).get hil;rw [(List.getElem?_eq_some_iff.1 hy).2] at hxx;subst hpa;obtain⟨fa,fc,rfl,has,-,-⟩:=hxx.opens;obtain⟨fn,hfn⟩:∃fn,fn=y.args.length:=⟨_,rfl⟩
              obtain⟨op,hop⟩:∃op,op=y.op:=⟨_,rfl⟩
              obtain⟨d,hd⟩:∃d,d=y.dst:=⟨_,rfl⟩
              obtain⟨ar,har⟩:∃ar,ar=y.a.reg:=⟨_,rfl⟩
              obtain⟨an,han⟩:∃an,an=y.a.n:=⟨_,rfl⟩
              obtain⟨br,hbr⟩:∃br,br=y.b.reg:=⟨_,rfl⟩
              obtain⟨bn,hbn⟩:∃bn,bn=y.b.n:=⟨_,rfl⟩
              obtain⟨yf,hyf⟩:∃yf,yf=y.fn:=⟨_,rfl⟩
              rw [←hfn,←hop,←hd,←har,←han,←hbr,←hbn,←hyf] at hcs;rw [←hfn] at has;have hat:CellsAt wp pb (poff+i * 8) [.int .i64 op,.int .i64 d,.bool ar,.int .i64 an,.bool br,.int .i64 bn,.int .i64 yf,.slice fa fn fc]:=hcs;obtain⟨c0,c1,c2,c3,c4,c5,c6,c7⟩:=hat.get8;have zp:pb<wp.heap.size:=cell_lt c0;obtain⟨s3,hs3⟩:∃s3,s3=(x.list.take i).foldl nmIns s2:=⟨_,rfl⟩
              rw [←hs3] at hni;have hri:=Hrx.out.ins y (List.mem_of_getElem? hy);have Hia:Hid (InV n ⟨ar,an⟩):=by rw [har,han];exact hri.1
              have Hib:Hid (InV n ⟨br,bn⟩):=by rw [hbr,hbn];exact hri.2.1
              have Hiv:=hid hri.2.2.1;have Hid':Hid (d<n):=by rw [hd];exact hri.2.2.2
              have hfn2:fn≤1048576:=by rw [hfn];exact Hsm.out.args y (List.mem_of_getElem? hy)
              have Hni:=hid hni;have Hki:=hid hki;have Hs3:=hid hs3;have Hy:=hid hy;have HyD:Hid (fn=y.args.length∧d=y.dst∧(⟨ar,an⟩:DVal)=y.a∧(⟨br,bn⟩:DVal)=y.b):=⟨hfn,hd,by rw [har,han],by rw [hbr,hbn]⟩
              have Has:=hid has;clear hni hki hs3 hy hfn hop hd har han hbr hbn hyf hxx hcs hat hil hSb hri has;go_upto_region 19 with (fail)
              obtain⟨W7,hW7⟩:∃W7,W7=wp.alloc (.cells #[.int .i64 op,.int .i64 d,.bool ar,.int .i64 an,.bool br,.int .i64 bn,.int .i64 yf,.slice fa fn fc] 80):=⟨_,rfl⟩
              have hl7:=heap_alloc_new wp (.cells #[.int .i64 op,.int .i64 d,.bool ar,.int .i64 an,.bool br,.int .i64 bn,.int .i64 yf,.slice fa fn fc] 80);have hb7:Below wp.heap.size wp W7:=by rw [hW7];(repeat (first | exact Below.refl _ _ | refine Below.alloc ?_ (by first|omega|(simp<;>omega)) _ | refine Below.setCell ?_ (by first|omega|(simp<;>omega)) _ | refine below_drewN ?_ _ | refine Below.drew ?_))
              rw [←hW7] at hl7 ⊢;obtain⟨IB,hIB⟩:∃IB,IB=wp.heap.size:=⟨_,rfl⟩
              rw [←hIB] at hl7 ⊢;have HFI:Hid (NmF T NB IB):=by
               refine HFn.out IB ?_;have:=Hki.out.size;have:=Hk46.out.size;have:=HW4.out;omega
              obtain⟨l0,l1,l2,l3,l4,l5,l6,l7⟩:=(cells_of (cs:=[_,_,_,_,_,_,_,_]) hl7).get8;rw [Nat.zero_add] at l1 l2 l3 l4 l5 l6 l7;have Hb7:=hid hb7;have Hl7:=hid hl7;have Hnm7:=hid (Hni.out.below hb7);have Has7:=hid (Has.out.later rVal_mono hb7);have zI:IB<W7.heap.size:=cell_lt l0;clear hW7 hl7 hb7 hIB c0 c1 c2 c3 c4 c5 c6 c7 zp Has;go_upto_region 20 with (go_at_call 107;refine (nmVal_any hn W7 Hnm7.out ⟨ar,an⟩ Hia.out).mono ?_;rintro e w8 ⟨rfl,hn8,hk8⟩;have Hn8:=hid hn8;have Hk8:=hid hk8;have l1:=hk8.cell HFI.out l1;have l4:=hk8.cell HFI.out l4;have l5:=hk8.cell HFI.out l5;have l7:=hk8.cell HFI.out l7;have zI:=cell_lt l1;clear hn8 hk8 l0 l2 l3 l6)
              have HN8:=hid (nmVal_any hn w8 Hn8.out ⟨br,bn⟩ Hib.out);go_upto_region 21 with (go_at_call 107;refine HN8.out.mono ?_;rintro e w9 ⟨rfl,hn9,hk9⟩;have Hn9:=hid hn9;have Hk9:=hid hk9;have l1:=hk9.cell HFI.out l1;have l7:=hk9.cell HFI.out l7;have zI:=cell_lt l1;clear hn9 hk9 l4 l5 HN8)
              have Hk79:Hid (Kp (NmF T NB) W7 w9):=Hk8.out.trans Hk9.out;have Has9:=hid (Has7.out.mono rVal_mono (fun _ h=>h) (Hk79.out.stays fun b hb=>HFk.out b hb.2));have Hl1:=hid l1;clear Has7 Hk8 Hk9 Hn8;go_wp2_with fail;clear l1 l7;go_loopw [79] (fun s79 wr=>∃m:Nat,m≤fn∧s79 = .int .i64 (m:Int)∧NmSt wr T NB n (nmArgs (valS (valS s3 ⟨ar,an⟩) ⟨br,bn⟩) (y.args.take m))∧Kp (NmF T NB) w9 wr) (fun s79 _=>fn - (intOf s79).toNat)
              case atStart=>exact⟨0,Nat.zero_le _,rfl,Hn9.out,Kp.refl _ _⟩
              case round =>
               obtain⟨wq,hwq⟩:∃wq:World,wq=wr:=⟨_,rfl⟩
               subst hwq;obtain⟨m,hm,rfl,hnm,hkm⟩:=hrel
               by_cases hmf:m<fn
               · have hml:m<y.args.length:=by rw [←HyD.out.1];exact hmf
                 obtain⟨v,hv⟩:∃v,y.args[m]?=some v:=⟨_,List.getElem?_eq_getElem hml⟩
                 obtain⟨vb,voff,hva,c0,c1⟩:=val_at (Has9.out.mono rVal_mono (fun _ h=>h) (hkm.stays fun b hb=>HFk.out b hb.2)) hml;rw [(List.getElem?_eq_some_iff.1 hv).2] at c0 c1;subst hva;have Hiv2:=hid (Hiv.out v (List.mem_of_getElem? hv));obtain⟨vr,vn⟩:=v;have zv:vb<wq.heap.size:=cell_lt c0;have Hnm:=hid hnm;have Hkm:=hid hkm;have Hv:=hid hv;clear hnm hkm hv hml;go_upto_region 24 with (fail)
                 obtain⟨W10,hW10⟩:∃W10,W10=wq.alloc (.cells #[.bool vr,.int .i64 vn] 72):=⟨_,rfl⟩
                 have hl10:=heap_alloc_new wq (.cells #[.bool vr,.int .i64 vn] 72);have hb10:Below wq.heap.size wq W10:=by rw [hW10];(repeat (first | exact Below.refl _ _ | refine Below.alloc ?_ (by first|omega|(simp<;>omega)) _ | refine Below.setCell ?_ (by first|omega|(simp<;>omega)) _ | refine below_drewN ?_ _ | refine Below.drew ?_))
                 rw [←hW10] at hl10 ⊢;obtain⟨VB,hVB⟩:∃VB,VB=wq.heap.size:=⟨_,rfl⟩
                 rw [←hVB] at hl10 ⊢;obtain⟨v0,v1⟩:=(cells_of (cs:=[_,_]) hl10).get2;rw [Nat.zero_add] at v1;have Hb10:=hid hb10;have HN10:=hid (nmVal_any hn W10 (Hnm.out.below hb10) ⟨vr,vn⟩ Hiv2.out);clear hW10 hl10 hb10 hVB c0 c1 zv;go_wp2_with (go_at_call 107;refine HN10.out.mono ?_;rintro e w2 ⟨rfl,hn2,hk2⟩;have Hn2:=hid hn2;have Hk2:=hid hk2;clear hn2 hk2);go_roundw
                 case rel =>
                  refine⟨m+1,by omega,by go_num,?_,(Hkm.out.trans (Kp.of Hb10.out)).trans Hk2.out⟩;rw [nmArgs_step _ Hv.out];exact Hn2.out
                 case measure=>simp [intOf];omega
               · have hmf2:fn=m:=by omega
                 subst hmf2;rw [HyD.out.1,List.take_length,HyD.out.2.2.1,HyD.out.2.2.2] at hnm;have l1:=hkm.cell HFI.out Hl1.out;have zI:IB<wq.heap.size:=cell_lt l1;have Hnm:=hid hnm;have Hkq:Hid (Kp (NmF T NB) W6 wq):=((Hki.out.trans (Kp.of Hb7.out)).trans Hk79.out).trans hkm;have Hnx:Hid (∀w',NmSt w' T NB n (nmDst (nmArgs (valS (valS s3 y.a) y.b) y.args) d)→NmSt w' T NB n ((x.list.take (i+1)).foldl nmIns s2)):=fun w' h=>by
                  rw [foldl_step nmIns s2 Hy.out,←Hs3.out];unfold nmIns;rw [←HyD.out.2.1];exact h
                 clear hnm hkm hmf hm
                 by_cases hd0:0≤d
                 · have Hrd:Hid (0≤d∧d<n):=⟨hd0,Hid'.out⟩
                   have HN11:=hid (nmName_any hn wq Hnm.out d Hrd.out);go_wp2_with (go_at_call 106;refine HN11.out.mono ?_;rintro e w2 ⟨rfl,hn2,hk2⟩;have Hn2:=hid hn2;have Hk2:=hid hk2;clear hn2 hk2);go_roundw
                   case rel=>exact⟨i+1,by omega,by go_num,Hnx.out _ (by unfold nmDst;rw [if_pos hd0];exact Hn2.out),Hkq.out.trans Hk2.out⟩
                   case measure=>simp [intOf];omega
                 · go_wp2_with fail
                   go_roundw
                   case rel=>exact⟨i+1,by omega,by go_num,Hnx.out _ (by unfold nmDst;rw [if_neg hd0];exact Hnm.out),Hkq.out⟩
                   case measure=>simp [intOf];omega
            · have hiq2:q=i:=by omega
              subst hiq2;rw [Hdat.out.2.1,List.take_length] at hni;have hl6:=(hki.block LB (Array.getElem?_eq_some_iff.1 Hl6.out).1 HFL.out).trans Hl6.out;obtain⟨-,-,-,l3,l4,-⟩:=(cells_of (cs:=[_,_,_,_,_,_]) hl6).get6;rw [Nat.zero_add] at l3 l4;have zL:LB<wp.heap.size:=cell_lt l3;have Hni2:=hid hni;have Hkq:Hid (Kp (NmF T NB) W4 wp):=Hk46.out.trans hki;have Hon:Hid (InV n ⟨er,en⟩):=by rw [Hdat.out.2.2.1,Hdat.out.2.2.2];exact Hrx.out.on
              have HN11:=hid (nmVal_any hn wp Hni2.out ⟨er,en⟩ Hon.out);clear hni hki hl6 hi hiq;go_wp2_with (go_at_call 107;refine HN11.out.mono ?_;rintro e w2 ⟨rfl,hn2,hk2⟩;have Hn2:=hid hn2;have Hk2:=hid hk2;clear hn2 hk2);go_roundw
              case rel =>
               refine⟨k+1,by omega,by go_num,?_,Hkq.out.trans Hk2.out⟩;rw [foldl_step nmB1 s0 Hx.out,←Hs1.out];unfold nmB1;rw [←Hs2.out];have h:=Hn2.out;rw [Hdat.out.2.2.1,Hdat.out.2.2.2] at h;exact h
              case measure=>simp [intOf];omega
        --END
      · have hlk:l=k:=by omega
        subst hlk;rw [show (bk.take l).foldl nmB1 s0=nmAll pn n bk by rw [foldl_full nmB1 s0 Hl.out,Hs0.out];rfl] at hnk;obtain⟨sA,hsA⟩:∃sA,sA=nmAll pn n bk:=⟨_,rfl⟩
        rw [←hsA] at hnk;obtain⟨W5,hW5⟩:∃W5:World,W5=wo:=⟨_,rfl⟩
        subst hW5;have hkp35:Kp (NmF T NB) W3 W5:=Hkp.out.trans hkp;have hrw5:FunSt W5 base bk V1:=RowsAt.kp (Hrows.out.later H93.out) hkp35 fun q hq b hb=>HFk.out b (RowsAt.lt Hrows.out hq b hb).2;have hna:NaSt W5 base T NB n (namF T NB bk V1) bk V1 sA:=⟨hrw5,hnk,fun q hq b hb=>⟨fun h=>h.2.2 q hq hb,fun e=>(HFk.out b (RowsAt.lt Hrows.out hq b hb).2).1 e,fun e=>(HFk.out b (RowsAt.lt Hrows.out hq b hb).2).2 e⟩,fun h=>h.1 rfl,fun h=>h.2.1 rfl⟩
        have HFG : Hid (∀ b, W3.heap.size ≤ b → namF T NB bk V1 b) := fun b hb => ⟨(HFn.out b hb).1, (HFn.out b hb).2, fun q hq e => by
         have := (RowsAt.lt Hrows.out hq b e).2
         have := HNs.out
         omega⟩
        have HFO:Hid (∀b,b<W9.heap.size→(S b∨b=UB∨b=UO)→namF T NB bk V1 b):=fun b hb h=>⟨(HFk.out b hb).1,(HFk.out b hb).2,Hoff.out b h⟩
        obtain⟨F,hF⟩:∃F,F=namF T NB bk V1:=⟨_,rfl⟩
        rw [←hF] at hna HFG HFO;have hub5:W5.heap[UB]?=some (.cells #[.string nm,.int .i64 (pn:Int),.int .i64 (n:Int),.slice ra l rc] 38 (0,0)):=by
         have hz:=(Array.getElem?_eq_some_iff.1 Hub.out).1;exact (hkp35.block UB (Nat.lt_of_lt_of_le hz H93.out.size) (HFk.out UB hz)).trans ((H93.out.block UB hz).trans Hub.out)
        have huo5:W5.heap[UO]?=some (.cells #[.string ⟨#[]⟩,.int .i64 0,.int .i64 0,.slice none 0 0] 38 (0,0)):=by
         have hz:=(Array.getElem?_eq_some_iff.1 Huo.out).1;exact (hkp35.block UO (Nat.lt_of_lt_of_le hz H93.out.size) (HFk.out UO hz)).trans ((H93.out.block UO hz).trans Huo.out)
        have HS5:Hid (W3.heap.size≤W5.heap.size):=hkp35.size;have Hkp35:=hid hkp35;have Hna:=hid hna;have HF:=hid hF;have HsA:=hid hsA;have Hub5:=hid hub5;have Huo5:=hid huo5;have u3:=(cells_of (cs:=[_,_,_,_]) hub5) 3 _ rfl;rw [Nat.zero_add] at u3;have zB5:UB<W5.heap.size:=cell_lt u3;have HFU:Hid (F UB∧F UO):=⟨HFO.out UB (Array.getElem?_eq_some_iff.1 Hub.out).1 (.inr (.inl rfl)),HFO.out UO (Array.getElem?_eq_some_iff.1 Huo.out).1 (.inr (.inr rfl))⟩
        clear hsA hnk hkp hkp35 hrw5 hna hF hub5 huo5 hk hkl Hnk Hrd3 Hs0;go_wp2_with fail;clear u3;go_loopw [104] (fun s104 wr=>∃k:Nat,k≤l∧s104 = .int .i64 (k:Int)∧NaSt wr base T NB n F (blksUp sA bk k) V1 ((bk.take k).foldl nmB2 sA)∧Kp F W5 wr) (fun s104 _=>l - (intOf s104).toNat)
        case atStart=>exact⟨0,Nat.zero_le _,rfl,by rw [blksUp_zero];exact Hna.out,Kp.refl _ _⟩
        case round =>
         obtain⟨wo,hwo⟩:∃wo:World,wo=wr:=⟨_,rfl⟩
         subst hwo;obtain⟨k,hk,rfl,hna,hkp⟩:=hrel
         by_cases hkl:k<l
         · have hkb:k<bk.length:=by rw [←Hl.out];exact hkl
           obtain⟨x,hx⟩:∃x,bk[k]?=some x:=⟨_,List.getElem?_eq_getElem hkb⟩
           obtain⟨bsk,hbsk⟩:∃bsk,bsk=blksUp sA bk k:=⟨_,rfl⟩
           have hbl:bsk.length=bk.length:=by rw [hbsk,blksUp_len]
           have hkb2:k<bsk.length:=by rw [hbl];exact hkb
           have hxk:bsk[k]?=some x:=by rw [hbsk];exact blksUp_at sA hx
           rw [←hbsk,←list_set_self hxk] at hna;obtain⟨s1,hs1⟩:∃s1,s1=(bk.take k).foldl nmB2 sA:=⟨_,rfl⟩
           rw [←hs1] at hna;obtain⟨pa,pc,hvp⟩:=RowsAt.shape (p := .phis k) hna.rows (by show k<_;rw [List.length_set];exact hkb2);obtain⟨la,lc,hvl⟩:=RowsAt.shape (p := .list k) hna.rows (by show k<_;rw [List.length_set];exact hkb2);obtain⟨ta,tc,hvt⟩:=RowsAt.shape (p := .to k) hna.rows (by show k<_;rw [List.length_set];exact hkb2);obtain⟨p,hp⟩:∃p,p=x.phis.length:=⟨_,rfl⟩
           obtain⟨q,hq⟩:∃q,q=x.list.length:=⟨_,rfl⟩
           obtain⟨tn,htn⟩:∃tn,tn=x.fin.to.length:=⟨_,rfl⟩
           obtain⟨ek,hek⟩:∃ek,ek=x.fin.kind:=⟨_,rfl⟩
           obtain⟨er,her⟩:∃er,er=x.fin.on.reg:=⟨_,rfl⟩
           obtain⟨en,hen⟩:∃en,en=x.fin.on.n:=⟨_,rfl⟩
           rw [show (elemsP (bsk.set k x) V1 (.phis k)).length=p by simp only [elemsP];rw [blkOf_here hkb2];simp [hp]] at hvp;rw [show (elemsP (bsk.set k x) V1 (.list k)).length=q by simp only [elemsP];rw [blkOf_here hkb2];simp [hq]] at hvl;rw [show (elemsP (bsk.set k x) V1 (.to k)).length=tn by simp only [elemsP];rw [blkOf_here hkb2];simp [htn]] at hvt;have hcs:(elemsP (bsk.set k x) V1 .blks)[k]?=some [.slice pa p pc,.slice la q lc,.int .i64 ek,.bool er,.int .i64 en,.slice ta tn tc]:=by
            simp only [elemsP];rw [mapIdx_at,List.getElem?_set_self hkb2,hek,her,hen,←hvp,←hvl,←hvt];rfl
           obtain⟨R,rc2,hRv,-,-,-,-⟩:=hna.rows.addr (p := .blks) trivial (Nat.lt_of_le_of_lt (Nat.zero_le _) (List.getElem?_eq_some_iff.1 hcs).1);rw [Hrv.out] at hRv;have hra:ra=some ⟨R,0,none⟩:=by injection hRv
           subst hra;obtain⟨hat,hz⟩:=hna.rows.at (p := .blks) trivial (g:=R) (n:=l) (c:=rc) Hrv.out hcs;have hat2:CellsAt wo R (k * 6) [.slice pa p pc,.slice la q lc,.int .i64 ek,.bool er,.int .i64 en,.slice ta tn tc]:=hat;obtain⟨c0,c1,c2,c3,c4,c5⟩:=hat2.get6;have zR:R<wo.heap.size:=cell_lt c0;have hsmx:=Hokk.out.small x (List.mem_of_getElem? hx);have hp2:p≤1048576:=by rw [hp];exact hsmx.phis
           have hq2:q≤1048576:=by rw [hq];exact hsmx.list
           have Hrx:=hid (Hreg.out x (List.mem_of_getElem? hx));have Hsm:=hid hsmx;have Hbsk:=hid hbsk;have Hkb2:=hid hkb2;have Hs1:=hid hs1;have Hx:=hid hx;have Hdat:Hid (p=x.phis.length∧q=x.list.length∧er=x.fin.on.reg∧en=x.fin.on.n):=⟨hp,hq,her,hen⟩
           have Hvs:Hid (V1 (.phis k) = .slice pa p pc∧V1 (.list k) = .slice la q lc):=⟨hvp,hvl⟩
           have Hna2:=hid hna;have Hkp2:=hid hkp;clear hkb hx hbsk hbl hkb2 hxk hna hs1 hvp hvl hvt hp hq htn hek her hen hcs hRv hat hz hat2 hsmx hkp;go_upto_region 34 with (fail)
           obtain⟨LB,hLB⟩:∃LB,LB=wo.heap.size:=⟨_,rfl⟩
           obtain⟨W6,hW6⟩:∃W6,W6=wo.alloc (.cells #[.slice pa p pc,.slice la q lc,.int .i64 ek,.bool er,.int .i64 en,.slice ta tn tc] 76):=⟨_,rfl⟩
           have hl6:W6.heap[LB]?=some (.cells #[.slice pa p pc,.slice la q lc,.int .i64 ek,.bool er,.int .i64 en,.slice ta tn tc] 76 (0,0)):=by rw [hW6,hLB];exact heap_alloc_new _ _
           rw [←hW6,←hLB];have hb6:Below wo.heap.size wo W6:=by rw [hW6];(repeat (first | exact Below.refl _ _ | refine Below.alloc ?_ (by first|omega|(simp<;>omega)) _ | refine Below.setCell ?_ (by first|omega|(simp<;>omega)) _ | refine below_drewN ?_ _ | refine Below.drew ?_))
           have HFL:Hid (F LB):=by
            refine HFG.out LB ?_;have:=Hkp2.out.size;have:=HS5.out;omega
           have Hna6:=hid (Hna2.out.later hb6);have Hkp6:Hid (Kp F W5 W6):=Hkp2.out.trans (Kp.of hb6);have Hl6:=hid hl6;have HS6:Hid (W3.heap.size≤W6.heap.size):=by show _≤_;have:=Hkp6.out.size;have:=HS5.out;omega
           obtain⟨l0,l1,l2,l3,l4,l5⟩:=(cells_of (cs:=[_,_,_,_,_,_]) hl6).get6;rw [Nat.zero_add] at l1 l2 l3 l4 l5;clear hLB hW6 hl6 hb6 c0 c1 c2 c3 c4 c5 zR Hna2 Hkp2;go_wp2_with fail;clear l0 l1 l2 l3 l4 l5;go_loopw [112] (fun s112 wr=>∃i:Nat,i≤p∧s112 = .int .i64 (i:Int)∧NaSt wr base T NB n F (bsk.set k (phA s1 x i)) V1 ((x.phis.take i).foldl phiS s1)∧Kp F W6 wr) (fun s112 _=>p - (intOf s112).toNat)
           case atStart=>exact⟨0,Nat.zero_le _,rfl,by rw [phA_zero];exact Hna6.out,Kp.refl _ _⟩
           case round =>
            obtain⟨wp,hwp⟩:∃wp:World,wp=wr:=⟨_,rfl⟩
            subst hwp;obtain⟨i,hi,rfl,hni,hki⟩:=hrel
            by_cases hip:i<p
            · skip
              --DEV
              have hil:i<x.phis.length:=by rw [←Hdat.out.1];exact hip
              obtain⟨ph,hph⟩:∃ph,x.phis[i]?=some ph:=⟨_,List.getElem?_eq_getElem hil⟩
              obtain⟨s2,hs2⟩:∃s2,s2=(x.phis.take i).foldl phiS s1:=⟨_,rfl⟩
              rw [←hs2] at hni;have hokp:okP (bsk.set k (phA s1 x i)) (.phis k):=by show k<_;rw [List.length_set];exact Hkb2.out
              have hoks:okP (bsk.set k (phA s1 x i)) (.src k i):=by show i<_;rw [blkOf_here Hkb2.out];show i<(phisUp s1 x.phis i).length;rw [phisUp_len];exact hil
              obtain⟨fa,fc,hvf⟩:=RowsAt.shape (p := .src k i) hni.rows hoks;obtain⟨fn,hfn⟩:∃fn,fn=ph.src.length:=⟨_,rfl⟩
              obtain⟨d,hd⟩:∃d,d=ph.dst:=⟨_,rfl⟩
              rw [show (elemsP (bsk.set k (phA s1 x i)) V1 (.src k i)).length=fn by simp only [elemsP];rw [blkOf_here Hkb2.out,show (phA s1 x i).phis=phisUp s1 x.phis i from rfl,getD_at (phisUp_at s1 hph),List.length_map,hfn]] at hvf;have hcs:(elemsP (bsk.set k (phA s1 x i)) V1 (.phis k))[i]?=some [.int .i64 d,.slice fa fn fc]:=by
               simp only [elemsP];rw [blkOf_here Hkb2.out,mapIdx_at,show (phA s1 x i).phis=phisUp s1 x.phis i from rfl,phisUp_at s1 hph,←hvf,hd];rfl
              obtain⟨P,pc2,hPv,-,-,-,-⟩:=hni.rows.addr (p := .phis k) hokp (Nat.lt_of_le_of_lt (Nat.zero_le _) (List.getElem?_eq_some_iff.1 hcs).1);rw [Hvs.out.1] at hPv;have hpa:pa=some ⟨P,0,none⟩:=by injection hPv
              subst hpa;obtain⟨hat,hz⟩:=hni.rows.at (p := .phis k) hokp (g:=P) (n:=p) (c:=pc) Hvs.out.1 hcs;have hat2:CellsAt wp P (i * 2) [.int .i64 d,.slice fa fn fc]:=hat;obtain⟨c0,c1⟩:=hat2.get2;have hz0:=hz (i * 2);have hoP:=hni.off (.phis k) hokp P (by rw [Hvs.out.1];rfl);have HoP:Hid (NmF T NB P∧¬F P):=⟨⟨hoP.2.1,hoP.2.2⟩,hoP.1⟩
              have Hrd:Hid (0≤d∧d<n):=by rw [hd];exact (Hrx.out.phi ph (List.mem_of_getElem? hph)).1
              have Hrv2:=hid (Hrx.out.phi ph (List.mem_of_getElem? hph)).2;have hfn2:fn≤1048576:=by rw [hfn];exact Hsm.out.src ph (List.mem_of_getElem? hph)
              have zP:P<wp.heap.size:=cell_lt c0;have l0:wp.cell? ⟨LB,0,none⟩=some (.slice (some ⟨P,0,none⟩) p pc):=hki.cell HFL.out ((cells_of (cs:=[_,_,_,_,_,_]) Hl6.out) 0 _ rfl);have zL:LB<wp.heap.size:=cell_lt l0;have Hni:=hid hni;have Hki:=hid hki;have Hph:=hid hph;have Hs2:=hid hs2;have Hfd:Hid (fn=ph.src.length∧d=ph.dst):=⟨hfn,hd⟩
              have Hvf:=hid hvf;clear hil hph hs2 hokp hoks hvf hfn hd hcs hPv hat hz hat2 hoP hni hki;go_upto_region 37 with (fail)
              obtain⟨PB,hPB⟩:∃PB,PB=wp.heap.size:=⟨_,rfl⟩
              obtain⟨W7,hW7⟩:∃W7,W7=wp.alloc (.cells #[.int .i64 d,.slice fa fn fc] 94):=⟨_,rfl⟩
              have hl7:W7.heap[PB]?=some (.cells #[.int .i64 d,.slice fa fn fc] 94 (0,0)):=by rw [hW7,hPB];exact heap_alloc_new _ _
              have hb7:Below wp.heap.size wp W7:=by rw [hW7];(repeat (first | exact Below.refl _ _ | refine Below.alloc ?_ (by first|omega|(simp<;>omega)) _ | refine Below.setCell ?_ (by first|omega|(simp<;>omega)) _ | refine below_drewN ?_ _ | refine Below.drew ?_))
              rw [←hW7,←hPB];have HFP:Hid (F PB):=by
               refine HFG.out PB ?_;have:=Hki.out.size;have:=HS6.out;omega
              have HPn:Hid (LB≠P∧PB≠P):=by show _∧_;exact⟨fun e=>HoP.out.2 (e ▸ HFL.out),fun e=>HoP.out.2 (e ▸ HFP.out)⟩
              have Hna7:=hid ((Hni.out.later hb7).later (Below.refl W7.heap.size W7).drew);have Hk7:Hid (Kp F wp W7.drew):=(Kp.of hb7).trans (Kp.of (Below.refl W7.heap.size W7).drew);have HSd:Hid (W7.drew.cell? ⟨LB,0,none⟩=some (.slice (some ⟨P,0,none⟩) p pc)∧W7.drew.cell? ⟨PB,0,none⟩=some (.int .i64 d)):=⟨Hk7.out.cell HFL.out l0,(cells_of (cs:=[_,_]) hl7).get2.1⟩
              have Hc0:Hid (W7.drew.cell? ⟨P,i * 2,none⟩=some (.int .i64 d)∧W7.drew.frozen? ⟨P,i * 2,none⟩=false):=⟨cell_later' (w':=W7) c0 hb7,(hb7.frozen (p:=⟨P,i * 2,none⟩) zP).trans hz0⟩
              have Hl7:Hid (W7.drew.heap[PB]?=some (.cells #[.int .i64 d,.slice fa fn fc] 94 (0,0))):=hl7;have zP7:P<W7.drew.heap.size:=cell_lt Hc0.out.1;have HNm:=hid (nmName_any hn W7.drew Hna7.out.nm d Hrd.out);clear hPB hW7 hl7 hb7 c0 c1 hz0 zP l0 zL
              go_region_held3 (fun w' => w'.cell? ⟨LB, 0, none⟩ = some (.slice (some ⟨P, 0, none⟩) p pc) ∧ w'.cell? ⟨PB, 0, none⟩ = some (.int .i64 d))
               ((first | with_reducible exact HS9.out | with_reducible exact HS8.out | with_reducible exact HSd.out))
               ((go_at_call 106; (with_reducible refine HNm.out.mono ?_); rintro e w8 ⟨rfl, hn8, hk8⟩
                 have hkF := Hna7.out.keepN hk8
                 have HS8 : Hid (w8.cell? ⟨LB, 0, none⟩ = some (.slice (some ⟨P, 0, none⟩) p pc) ∧ w8.cell? ⟨PB, 0, none⟩ = some (.int .i64 d)) := ⟨hkF.cell HFL.out HSd.out.1, hkF.cell HFP.out HSd.out.2⟩
                 have r1 := hk8.cell HoP.out.1 Hc0.out.1
                 have rz := hk8.frozen HoP.out.1 zP7 Hc0.out.2
                 have HS9 : Hid ((w8.setCell ⟨P, i * 2, none⟩ (.int .i64 (nmR s2 d))).cell? ⟨LB, 0, none⟩ = some (.slice (some ⟨P, 0, none⟩) p pc) ∧ (w8.setCell ⟨P, i * 2, none⟩ (.int .i64 (nmR s2 d))).cell? ⟨PB, 0, none⟩ = some (.int .i64 d)) := ⟨(cell_set_ne _ HPn.out.1 _ _).trans HS8.out.1, (cell_set_ne _ HPn.out.2 _ _).trans HS8.out.2⟩
                 have Hn8 := hid hn8
                 have Hk8 := hid hk8
                 have HkF := hid hkF
                 clear hn8 hk8 hkF))
              have hset:=(Hna7.out.named Hn8.out Hk8.out).setDst Hkb2.out (i:=i) (g:=P) (pn:=p) (pc:=pc) (by show i<(phisUp s1 x.phis i).length;rw [phisUp_len];exact (List.getElem?_eq_some_iff.1 Hph.out).1) Hvs.out.1 (nmR s2 d);rw [phB_start Hph.out (nmS s2 d)] at hset;obtain⟨W10,hW10⟩:∃W10,W10=w8.setCell ⟨P,i * 2,none⟩ (.int .i64 (nmR s2 d)):=⟨_,rfl⟩
              rw [←hW10] at hset ⊢;have hl10:W10.heap[PB]?=some (.cells #[.int .i64 d,.slice fa fn fc] 94 (0,0)):=(hset.2.block PB (cell_lt HS8.out.2) HFP.out).trans ((HkF.out.block PB (Array.getElem?_eq_some_iff.1 Hl7.out).1 HFP.out).trans Hl7.out);have l1:=(cells_of (cs:=[_,_]) hl10) 1 _ rfl;rw [Nat.zero_add] at l1;have Hna10:=hid hset.1;have Hk10:Hid (Kp F W6 W10):=((Hki.out.trans Hk7.out).trans HkF.out).trans hset.2;have Hl10:=hid hl10;have zP10:PB<W10.heap.size:=cell_lt l1;have HP10:Hid (W3.heap.size≤W10.heap.size):=by show _≤_;have:=Hk10.out.size;have:=HS6.out;omega
              clear hset hW10 hl10 r1 rz HS8 HS9 HSd Hc0 zP7 HNm Hl7 Hn8 Hk8 HkF Hna7 Hk7;go_wp2_with fail;clear l1;go_loopw [129] (fun s129 wr=>∃m:Nat,m≤fn∧s129 = .int .i64 (m:Int)∧NaSt wr base T NB n F (bsk.set k (phB s1 (nmS s2 d) x i ph (nmR s2 d) m)) V1 (nmArgs (nmS s2 d) (ph.src.take m))∧Kp F W10 wr) (fun s129 _=>fn - (intOf s129).toNat)
              case atStart=>exact⟨0,Nat.zero_le _,rfl,Hna10.out,Kp.refl _ _⟩
              case round =>
               obtain⟨wq,hwq⟩:∃wq:World,wq=wr:=⟨_,rfl⟩
               subst hwq;obtain⟨m,hm,rfl,hnm,hkm⟩:=hrel
               by_cases hmf:m<fn
               · have hml:m<ph.src.length:=by rw [←Hfd.out.1];exact hmf
                 obtain⟨v,hv⟩:∃v,ph.src[m]?=some v:=⟨_,List.getElem?_eq_getElem hml⟩
                 obtain⟨s3,hs3⟩:∃s3,s3=nmArgs (nmS s2 d) (ph.src.take m):=⟨_,rfl⟩
                 rw [←hs3] at hnm;have hiP:i<(phB s1 (nmS s2 d) x i ph (nmR s2 d) m).phis.length:=(List.getElem?_eq_some_iff.1 (phB_at Hph.out)).1;have hoks:okP (bsk.set k (phB s1 (nmS s2 d) x i ph (nmR s2 d) m)) (.src k i):=by show i<_;rw [blkOf_here Hkb2.out];exact hiP
                 have hcs:(elemsP (bsk.set k (phB s1 (nmS s2 d) x i ph (nmR s2 d) m)) V1 (.src k i))[m]?=some [.bool v.reg,.int .i64 v.n]:=by
                  simp only [elemsP];rw [blkOf_here Hkb2.out,getD_at (phB_at Hph.out),List.getElem?_map,valsUp_at _ hv];rfl
                 obtain⟨G,gc,hGv,-,-,-,-⟩:=hnm.rows.addr (p := .src k i) hoks (Nat.lt_of_le_of_lt (Nat.zero_le _) (List.getElem?_eq_some_iff.1 hcs).1);rw [Hvf.out] at hGv;have hfa:fa=some ⟨G,0,none⟩:=by injection hGv
                 subst hfa;obtain⟨hat,hz⟩:=hnm.rows.at (p := .src k i) hoks (g:=G) (n:=fn) (c:=fc) Hvf.out hcs;obtain⟨vr,vn⟩:=v;have hat2:CellsAt wq G (m * 2) [.bool vr,.int .i64 vn]:=hat;obtain⟨c0,c1⟩:=hat2.get2;have hz0:=hz (m * 2);have hz1:=hz (m * 2+1);have hoG:=hnm.off (.src k i) hoks G (by rw [Hvf.out];rfl);have HoG:Hid (NmF T NB G∧¬F G):=⟨⟨hoG.2.1,hoG.2.2⟩,hoG.1⟩
                 have Hiv:=hid (Hrv2.out _ (List.mem_of_getElem? hv));have zG:G<wq.heap.size:=cell_lt c0;have p1:wq.cell? ⟨PB,1,none⟩=some (.slice (some ⟨G,0,none⟩) fn fc):=by
                  have h:=(cells_of (cs:=[_,_]) Hl10.out) 1 _ rfl;rw [Nat.zero_add] at h;exact hkm.cell HFP.out h
                 have zP:PB<wq.heap.size:=cell_lt p1;have Hnm:=hid hnm;have Hkm:=hid hkm;have Hv:=hid hv;have Hs3:=hid hs3;have HiP:=hid hiP;clear hml hv hs3 hiP hoks hcs hGv hat hz hat2 hoG hnm hkm;go_upto_region 41 with (fail)
                 obtain⟨VB,hVB⟩:∃VB,VB=wq.heap.size:=⟨_,rfl⟩
                 obtain⟨W11,hW11⟩:∃W11,W11=wq.alloc (.cells #[.bool vr,.int .i64 vn] 72):=⟨_,rfl⟩
                 have hl11:W11.heap[VB]?=some (.cells #[.bool vr,.int .i64 vn] 72 (0,0)):=by rw [hW11,hVB];exact heap_alloc_new _ _
                 have hb11:Below wq.heap.size wq W11:=by rw [hW11];(repeat (first | exact Below.refl _ _ | refine Below.alloc ?_ (by first|omega|(simp<;>omega)) _ | refine Below.setCell ?_ (by first|omega|(simp<;>omega)) _ | refine below_drewN ?_ _ | refine Below.drew ?_))
                 rw [←hW11,←hVB];have HFV:Hid (F VB):=by
                  refine HFG.out VB ?_;have:=Hkm.out.size;have:=HP10.out;omega
                 have HGn:Hid (PB≠G∧VB≠G):=by show _∧_;exact⟨fun e=>HoG.out.2 (e ▸ HFP.out),fun e=>HoG.out.2 (e ▸ HFV.out)⟩
                 have Hna11:=hid ((Hnm.out.later hb11).later (Below.refl W11.heap.size W11).drew);have Hk11:Hid (Kp F wq W11.drew):=(Kp.of hb11).trans (Kp.of (Below.refl W11.heap.size W11).drew);have hv2:=(cells_of (cs:=[_,_]) hl11).get2;rw [Nat.zero_add] at hv2;have HSd:Hid (W11.drew.cell? ⟨PB,1,none⟩=some (.slice (some ⟨G,0,none⟩) fn fc)∧W11.drew.cell? ⟨VB,0,none⟩=some (.bool vr)∧W11.drew.cell? ⟨VB,1,none⟩=some (.int .i64 vn)):=⟨Hk11.out.cell HFP.out p1,hv2.1,hv2.2⟩
                 have Hc0:Hid ((W11.drew.cell? ⟨G,m * 2,none⟩=some (.bool vr)∧W11.drew.frozen? ⟨G,m * 2,none⟩=false)∧W11.drew.cell? ⟨G,m * 2+1,none⟩=some (.int .i64 vn)∧W11.drew.frozen? ⟨G,m * 2+1,none⟩=false):=⟨⟨cell_later' (w':=W11) c0 hb11,(hb11.frozen (p:=⟨G,m * 2,none⟩) zG).trans hz0⟩,cell_later' (w':=W11) c1 hb11,(hb11.frozen (p:=⟨G,m * 2+1,none⟩) zG).trans hz1⟩
                 have zG11:G<W11.drew.heap.size:=cell_lt Hc0.out.1.1;have HNv:=hid (nmVal_any hn W11.drew Hna11.out.nm ⟨vr,vn⟩ Hiv.out);obtain⟨zr,hzr⟩:∃zr,zr=(valW s3 ⟨vr,vn⟩).reg:=⟨_,rfl⟩
                 obtain⟨zn,hzn⟩:∃zn,zn=(valW s3 ⟨vr,vn⟩).n:=⟨_,rfl⟩
                 rw [←hzr,←hzn] at HNv;have Hzv:Hid ((⟨zr,zn⟩:DVal)=valW s3 ⟨vr,vn⟩):=by show (⟨zr,zn⟩:DVal)=valW s3 ⟨vr,vn⟩;rw [hzr,hzn]
                 clear hVB hW11 hl11 hb11 c0 c1 hz0 hz1 zG p1 zP hv2 hzr hzn
                 go_region_held3 (fun w' => w'.cell? ⟨PB, 1, none⟩ = some (.slice (some ⟨G, 0, none⟩) fn fc) ∧ w'.cell? ⟨VB, 0, none⟩ = some (.bool vr) ∧ w'.cell? ⟨VB, 1, none⟩ = some (.int .i64 vn))
                  ((first | with_reducible exact HS9.out | with_reducible exact HS8.out | with_reducible exact HSd.out))
                  ((go_at_call 107; (with_reducible refine HNv.out.mono ?_); rintro e w8 ⟨rfl, hn8, hk8⟩
                    have hkF := Hna11.out.keepN hk8
                    have HS8 : Hid (w8.cell? ⟨PB, 1, none⟩ = some (.slice (some ⟨G, 0, none⟩) fn fc) ∧ w8.cell? ⟨VB, 0, none⟩ = some (.bool vr) ∧ w8.cell? ⟨VB, 1, none⟩ = some (.int .i64 vn)) := ⟨hkF.cell HFP.out HSd.out.1, hkF.cell HFV.out HSd.out.2.1, hkF.cell HFV.out HSd.out.2.2⟩
                    have r1 := hk8.cell HoG.out.1 Hc0.out.1.1
                    have rz := hk8.frozen HoG.out.1 zG11 Hc0.out.1.2
                    have r2 := hk8.cell HoG.out.1 Hc0.out.2.1
                    have rz2 := hk8.frozen HoG.out.1 zG11 Hc0.out.2.2
                    have HS9 : Hid (((w8.setCell ⟨G, m * 2, none⟩ (.bool zr)).setCell ⟨G, m * 2 + 1, none⟩ (.int .i64 zn)).cell? ⟨PB, 1, none⟩ = some (.slice (some ⟨G, 0, none⟩) fn fc) ∧ ((w8.setCell ⟨G, m * 2, none⟩ (.bool zr)).setCell ⟨G, m * 2 + 1, none⟩ (.int .i64 zn)).cell? ⟨VB, 0, none⟩ = some (.bool vr) ∧ ((w8.setCell ⟨G, m * 2, none⟩ (.bool zr)).setCell ⟨G, m * 2 + 1, none⟩ (.int .i64 zn)).cell? ⟨VB, 1, none⟩ = some (.int .i64 vn)) :=
                     ⟨(cell_set_ne _ HGn.out.1 _ _).trans ((cell_set_ne _ HGn.out.1 _ _).trans HS8.out.1), (cell_set_ne _ HGn.out.2 _ _).trans ((cell_set_ne _ HGn.out.2 _ _).trans HS8.out.2.1), (cell_set_ne _ HGn.out.2 _ _).trans ((cell_set_ne _ HGn.out.2 _ _).trans HS8.out.2.2)⟩
                    have Hn8 := hid hn8
                    have Hk8 := hid hk8
                    have HkF := hid hkF
                    clear hn8 hk8 hkF))
                 have hset:=(Hna11.out.named Hn8.out Hk8.out).setSrc Hkb2.out (i:=i) (m:=m) (g:=G) (pn:=fn) (pc:=fc) HiP.out (by rw [getD_at (phB_at Hph.out)];show m<(valsUp _ _ _).length;rw [valsUp_len];exact (List.getElem?_eq_some_iff.1 Hv.out).1) Hvf.out ⟨zr,zn⟩;rw [Hzv.out,Hs3.out,phB_step Hph.out Hv.out,←Hs3.out,←Hzv.out] at hset;have Hset:=hid hset;clear hset;go_wp2_with fail;go_roundw
                 case rel=>exact⟨m+1,by omega,by go_num,by rw [nmArgs_step _ Hv.out,←Hs3.out];exact Hset.out.1,((Hkm.out.trans Hk11.out).trans HkF.out).trans Hset.out.2⟩
                 case measure=>simp [intOf];omega
               · have hmf2:fn=m:=by omega
                 subst hmf2;rw [Hfd.out.1,Hfd.out.2,Hs2.out,phB_end Hph.out,←Hs2.out,List.take_length] at hnm;have Hnm:=hid hnm;have Hkm:=hid hkm;clear hnm hkm hm hmf;go_wp2_with fail;go_roundw
                 case rel=>exact⟨i+1,by omega,by go_num,by rw [foldl_step phiS s1 Hph.out,←Hs2.out];exact Hnm.out,Hk10.out.trans Hkm.out⟩
                 case measure=>simp [intOf];omega
              --END
            · have hip2:p=i:=by omega
              subst hip2;obtain⟨s2,hs2⟩:∃s2,s2=x.phis.foldl phiS s1:=⟨_,rfl⟩
              obtain⟨Pl,hPl⟩:∃Pl,Pl=phisUp s1 x.phis x.phis.length:=⟨_,rfl⟩
              rw [Hdat.out.1,List.take_length,←hs2,lsA_zero s1 s2,←hPl] at hni;obtain⟨W7,hW7⟩:∃W7:World,W7=wp:=⟨_,rfl⟩
              subst hW7;have hl7:W7.heap[LB]?=some (.cells #[.slice pa p pc,.slice la q lc,.int .i64 ek,.bool er,.int .i64 en,.slice ta tn tc] 76 (0,0)):=(hki.block LB (Array.getElem?_eq_some_iff.1 Hl6.out).1 HFL.out).trans Hl6.out;obtain⟨l0,l1,l2,l3,l4,l5⟩:=(cells_of (cs:=[_,_,_,_,_,_]) hl7).get6;rw [Nat.zero_add] at l1 l2 l3 l4 l5;have Hl7:=hid hl7;have Hs2:=hid hs2;have HPl:=hid hPl;have Hni:=hid hni;have Hk57:Hid (Kp F W5 W7):=Hkp6.out.trans hki;have HS7:Hid (W3.heap.size≤W7.heap.size):=by show _≤_;have:=Hk57.out.size;have:=HS5.out;omega
              clear hs2 hPl hl7 hni hki hi hip Hl6 Hna6 Hkp6;go_wp2_with fail;clear l0 l1 l2 l3 l4 l5;go_loopw [146] (fun s146 wr=>∃i:Nat,i≤q∧s146 = .int .i64 (i:Int)∧NaSt wr base T NB n F (bsk.set k (lsA Pl s2 x i)) V1 ((x.list.take i).foldl nmIns s2)∧Kp F W7 wr) (fun s146 _=>q - (intOf s146).toNat)
              case atStart=>exact⟨0,Nat.zero_le _,rfl,Hni.out,Kp.refl _ _⟩
              case round =>
               obtain⟨wp,hwp⟩:∃wp:World,wp=wr:=⟨_,rfl⟩
               subst hwp;obtain⟨i,hi,rfl,hni,hki⟩:=hrel
               by_cases hiq:i<q
               · have hil:i<x.list.length:=by rw [←Hdat.out.2.1];exact hiq
                 obtain⟨y,hy⟩:∃y,x.list[i]?=some y:=⟨_,List.getElem?_eq_getElem hil⟩
                 obtain⟨s3,hs3⟩:∃s3,s3=(x.list.take i).foldl nmIns s2:=⟨_,rfl⟩
                 rw [←hs3] at hni;have hokl:okP (bsk.set k (lsA Pl s2 x i)) (.list k):=by show k<_;rw [List.length_set];exact Hkb2.out
                 have hoka:okP (bsk.set k (lsA Pl s2 x i)) (.args k i):=by show i<_;rw [blkOf_here Hkb2.out];show i<(listUp s2 x.list i).length;rw [listUp_len];exact hil
                 obtain⟨fa,fc,hvf⟩:=RowsAt.shape (p := .args k i) hni.rows hoka;obtain⟨fn,hfn⟩:∃fn,fn=y.args.length:=⟨_,rfl⟩
                 obtain⟨op,hop⟩:∃op,op=y.op:=⟨_,rfl⟩
                 obtain⟨d,hd⟩:∃d,d=y.dst:=⟨_,rfl⟩
                 obtain⟨ar,har⟩:∃ar,ar=y.a.reg:=⟨_,rfl⟩
                 obtain⟨an,han⟩:∃an,an=y.a.n:=⟨_,rfl⟩
                 obtain⟨br,hbr⟩:∃br,br=y.b.reg:=⟨_,rfl⟩
                 obtain⟨bn,hbn⟩:∃bn,bn=y.b.n:=⟨_,rfl⟩
                 obtain⟨yf,hyf⟩:∃yf,yf=y.fn:=⟨_,rfl⟩
                 rw [show (elemsP (bsk.set k (lsA Pl s2 x i)) V1 (.args k i)).length=fn by simp only [elemsP];rw [blkOf_here Hkb2.out,show (lsA Pl s2 x i).list=listUp s2 x.list i from rfl,getD_at (listUp_at s2 hy),List.length_map,hfn]] at hvf;have hcs:(elemsP (bsk.set k (lsA Pl s2 x i)) V1 (.list k))[i]?=some [.int .i64 op,.int .i64 d,.bool ar,.int .i64 an,.bool br,.int .i64 bn,.int .i64 yf,.slice fa fn fc]:=by
                  simp only [elemsP];rw [blkOf_here Hkb2.out,mapIdx_at,show (lsA Pl s2 x i).list=listUp s2 x.list i from rfl,listUp_at s2 hy,←hvf,hop,hd,har,han,hbr,hbn,hyf];rfl
                 obtain⟨Q,qc2,hQv,-,-,-,-⟩:=hni.rows.addr (p := .list k) hokl (Nat.lt_of_le_of_lt (Nat.zero_le _) (List.getElem?_eq_some_iff.1 hcs).1);rw [Hvs.out.2] at hQv;have hla:la=some ⟨Q,0,none⟩:=by injection hQv
                 subst hla;have hat:CellsAt wp Q (i * 8) [.int .i64 op,.int .i64 d,.bool ar,.int .i64 an,.bool br,.int .i64 bn,.int .i64 yf,.slice fa fn fc]:=(hni.rows.at (p := .list k) hokl (g:=Q) (n:=q) (c:=lc) Hvs.out.2 hcs).1;obtain⟨c0,c1,c2,c3,c4,c5,c6,c7⟩:=hat.get8;have zQ:Q<wp.heap.size:=cell_lt c0;have hri:=Hrx.out.ins y (List.mem_of_getElem? hy);have Hia:Hid (InV n ⟨ar,an⟩):=by rw [har,han];exact hri.1
                 have Hib:Hid (InV n ⟨br,bn⟩):=by rw [hbr,hbn];exact hri.2.1
                 have Hiv:=hid hri.2.2.1;have Hid':Hid (d<n):=by rw [hd];exact hri.2.2.2
                 have hfn2:fn≤1048576:=by rw [hfn];exact Hsm.out.args y (List.mem_of_getElem? hy)
                 have Hni:=hid hni;have Hki:=hid hki;have Hs3:=hid hs3;have Hy:=hid hy;have HyD:Hid (fn=y.args.length∧d=y.dst∧(⟨ar,an⟩:DVal)=y.a∧(⟨br,bn⟩:DVal)=y.b∧op=y.op∧yf=y.fn):=⟨hfn,hd,by rw [har,han],by rw [hbr,hbn],hop,hyf⟩
                 have Hvf:=hid hvf;clear hil hy hs3 hokl hoka hvf hfn hop hd har han hbr hbn hyf hcs hQv hat hri hni hki;go_upto_region 47 with (fail)
                 obtain⟨IB,hIB⟩:∃IB,IB=wp.heap.size:=⟨_,rfl⟩
                 obtain⟨W8,hW8⟩:∃W8,W8=wp.alloc (.cells #[.int .i64 op,.int .i64 d,.bool ar,.int .i64 an,.bool br,.int .i64 bn,.int .i64 yf,.slice fa fn fc] 80):=⟨_,rfl⟩
                 have hl8:W8.heap[IB]?=some (.cells #[.int .i64 op,.int .i64 d,.bool ar,.int .i64 an,.bool br,.int .i64 bn,.int .i64 yf,.slice fa fn fc] 80 (0,0)):=by rw [hW8,hIB];exact heap_alloc_new _ _
                 have hb8:Below wp.heap.size wp W8:=by rw [hW8];(repeat (first | exact Below.refl _ _ | refine Below.alloc ?_ (by first|omega|(simp<;>omega)) _ | refine Below.setCell ?_ (by first|omega|(simp<;>omega)) _ | refine below_drewN ?_ _ | refine Below.drew ?_))
                 rw [←hW8,←hIB];have HFI:Hid (F IB):=by
                  refine HFG.out IB ?_;have:=Hki.out.size;have:=HS7.out;omega
                 have HIF:Hid (NmF T NB IB):=⟨fun e=>Hni.out.nf.1 (e ▸ HFI.out),fun e=>Hni.out.nf.2 (e ▸ HFI.out)⟩
                 have Hna8:=hid ((Hni.out.later hb8).later (Below.refl W8.heap.size W8).drew);have Hk8:Hid (Kp F wp W8.drew):=(Kp.of hb8).trans (Kp.of (Below.refl W8.heap.size W8).drew);have Hl8:Hid (W8.drew.heap[IB]?=some (.cells #[.int .i64 op,.int .i64 d,.bool ar,.int .i64 an,.bool br,.int .i64 bn,.int .i64 yf,.slice fa fn fc] 80 (0,0))):=hl8;have HIn:Hid (wp.heap.size≤IB):=by rw [hIB];exact Nat.le_refl _
                 obtain⟨m0,m1,m2,m3,m4,m5,m6,m7⟩:=(cells_of (cs:=[_,_,_,_,_,_,_,_]) hl8).get8;rw [Nat.zero_add] at m1 m2 m3 m4 m5 m6 m7;have zI:IB<W8.heap.size:=cell_lt m0;have HNa:=hid (nmVal_any hn W8.drew Hna8.out.nm ⟨ar,an⟩ Hia.out);obtain⟨xr,hxr⟩:∃xr,xr=(valW s3 ⟨ar,an⟩).reg:=⟨_,rfl⟩
                 obtain⟨xn,hxn⟩:∃xn,xn=(valW s3 ⟨ar,an⟩).n:=⟨_,rfl⟩
                 rw [←hxr,←hxn] at HNa;have HNb:Hid (∀w,NmSt w T NB n (valS s3 ⟨ar,an⟩)→_):=fun w h=>nmVal_any hn w h ⟨br,bn⟩ Hib.out;obtain⟨zr,hzr⟩:∃zr,zr=(valW (valS s3 ⟨ar,an⟩) ⟨br,bn⟩).reg:=⟨_,rfl⟩
                 obtain⟨zn,hzn⟩:∃zn,zn=(valW (valS s3 ⟨ar,an⟩) ⟨br,bn⟩).n:=⟨_,rfl⟩
                 rw [←hzr,←hzn] at HNb;have Hxv:Hid ((⟨xr,xn⟩:DVal)=valW s3 y.a):=by show (⟨xr,xn⟩:DVal)=_;rw [hxr,hxn,HyD.out.2.2.1]
                 have Hzv:Hid ((⟨zr,zn⟩:DVal)=valW (valS s3 y.a) y.b):=by show (⟨zr,zn⟩:DVal)=_;rw [hzr,hzn,HyD.out.2.2.1,HyD.out.2.2.2.1]
                 clear hIB hW8 hl8 hb8 c0 c1 c2 c3 c4 c5 c6 c7 zQ hxr hxn hzr hzn;go_cut [154] (fun v154 wc=>v154=v154∧NaSt wc base T NB n F (bsk.set k (lsA Pl s2 x i)) V1 (argsOn s3 y)∧Kp F wp wc∧wc.heap[IB]?=some (.cells #[.int .i64 op,.int .i64 d,.bool xr,.int .i64 xn,.bool zr,.int .i64 zn,.int .i64 yf,.slice fa fn fc] 80 (0,0)))
                 case first =>
                  --DEV
                  go_region_law
                   ((first
                     | (go_simp; go_at_call 107; (with_reducible refine HNa.out.mono ?_); rintro e w8 ⟨rfl, hn8, hk8⟩
                        have hkF := Hna8.out.keepN hk8
                        have hi8 := (hkF.block IB (Array.getElem?_eq_some_iff.1 Hl8.out).1 HFI.out).trans Hl8.out
                        obtain ⟨-, -, a2, a3, a4, a5, -, -⟩ := (cells_of (cs := [_, _, _, _, _, _, _, _]) hi8).get8
                        rw [Nat.zero_add] at a2 a3 a4 a5
                        have zI8 := cell_lt a2
                        have HNB := hid (HNb.out w8 hn8)
                        have Hna9 := hid (Hna8.out.named hn8 hk8)
                        have HkF := hid hkF
                        have Hi8 := hid hi8
                        clear hn8 hk8 hkF hi8)
                     | (go_simp; go_at_call 107; (with_reducible refine HNB.out.mono ?_); rintro e w9 ⟨rfl, hn9, hk9⟩
                        have hkG := Hna9.out.keepN hk9
                        have hi9 := (hkG.block IB (Array.getElem?_eq_some_iff.1 Hi8.out).1 HFI.out).trans Hi8.out
                        obtain ⟨-, -, b2, b3, b4, b5, -, -⟩ := (cells_of (cs := [_, _, _, _, _, _, _, _]) hi9).get8
                        rw [Nat.zero_add] at b2 b3 b4 b5
                        have y2 := thawed hi9 2
                        have y3 := thawed hi9 3
                        have y4 := thawed hi9 4
                        have y5 := thawed hi9 5
                        have zI9 := cell_lt b2
                        have Hna10 := hid (Hna9.out.named hn9 hk9)
                        have HkG := hid hkG
                        have Hi9 := hid hi9
                        clear hn9 hk9 hkG hi9)))
                  all_goals
                   have hset4:=heap_set_row (i:=5) (heap_set_row (i:=4) (heap_set_row (i:=3) (heap_set_row (i:=2) Hi9.out (.bool xr)) (.int .i64 xn)) (.bool zr)) (.int .i64 zn);have hk4:Kp (fun b=>b≠IB) w9 ((((w9.setCell ⟨IB,2,none⟩ (.bool xr)).setCell ⟨IB,3,none⟩ (.int .i64 xn)).setCell ⟨IB,4,none⟩ (.bool zr)).setCell ⟨IB,5,none⟩ (.int .i64 zn)):=kp_more (kp_more (kp_more (kp_one _ _ _ _) _ _) _ _) _ _;have hn10:=Hna10.out.other hk4 HFI.out;rw [HyD.out.2.2.1,HyD.out.2.2.2.1] at hn10;have hkz:Kp F wp ((((w9.setCell ⟨IB,2,none⟩ (.bool xr)).setCell ⟨IB,3,none⟩ (.int .i64 xn)).setCell ⟨IB,4,none⟩ (.bool zr)).setCell ⟨IB,5,none⟩ (.int .i64 zn)) :=
                    ((((Hk8.out.trans (HkF.out.trans HkG.out)).setNew (a:=⟨IB,2,none⟩) HIn.out _).setNew (a:=⟨IB,3,none⟩) HIn.out _).setNew (a:=⟨IB,4,none⟩) HIn.out _).setNew (a:=⟨IB,5,none⟩) HIn.out _
                   have Hcut:=hid (And.intro hn10 (And.intro hkz hset4));clear hset4 hk4 hn10 hkz a2 a3 a4 a5 b2 b3 b4 b5 y2 y3 y4 y5;go_wp2_with fail;go_meet;exact⟨trivial,Hcut.out⟩
                  --END
                 case rest =>
                  obtain⟨-,hnc,hkc,hic⟩:=hcut;obtain⟨W9',hW9'⟩:∃W9':World,W9'=wc:=⟨_,rfl⟩
                  subst hW9';obtain⟨s4,hs4⟩:∃s4,s4=argsOn s3 y:=⟨_,rfl⟩
                  rw [←hs4,lsB_zero Pl s4 Hy.out] at hnc;have Hnc:=hid hnc;have Hkc:=hid hkc;have Hic:=hid hic;have Hs4:=hid hs4;have l7:=(cells_of (cs:=[_,_,_,_,_,_,_,_]) hic) 7 _ rfl;rw [Nat.zero_add] at l7;have zIc:IB<W9'.heap.size:=cell_lt l7;have HSc:Hid (W3.heap.size≤W9'.heap.size):=by show _≤_;have:=Hki.out.size;have:=hkc.size;have:=HS7.out;omega
                  clear hnc hkc hic hs4 m0 m1 m2 m3 m4 m5 m6 m7 zI HNa HNb Hna8 Hk8 Hl8;go_wp2_with fail;clear l7;go_loopw [164] (fun s164 wr=>∃m:Nat,m≤fn∧s164 = .int .i64 (m:Int)∧NaSt wr base T NB n F (bsk.set k (lsB Pl s2 s4 x i y m)) V1 (nmArgs s4 (y.args.take m))∧Kp F W9' wr) (fun s164 _=>fn - (intOf s164).toNat)
                  case atStart=>exact⟨0,Nat.zero_le _,rfl,Hnc.out,Kp.refl _ _⟩
                  case round =>
                   obtain⟨wq,hwq⟩:∃wq:World,wq=wr:=⟨_,rfl⟩
                   subst hwq;obtain⟨m,hm,rfl,hnm,hkm⟩:=hrel
                   by_cases hmf:m<fn
                   · skip
                     --DEV
                     have hml:m<y.args.length:=by rw [←HyD.out.1];exact hmf
                     obtain⟨v,hv⟩:∃v,y.args[m]?=some v:=⟨_,List.getElem?_eq_getElem hml⟩
                     obtain⟨s5,hs5⟩:∃s5,s5=nmArgs s4 (y.args.take m):=⟨_,rfl⟩
                     rw [←hs5] at hnm;have hiP:i<(lsB Pl s2 s4 x i y m).list.length:=(List.getElem?_eq_some_iff.1 (lsB_at Hy.out)).1;have hoks:okP (bsk.set k (lsB Pl s2 s4 x i y m)) (.args k i):=by show i<_;rw [blkOf_here Hkb2.out];exact hiP
                     have hcs:(elemsP (bsk.set k (lsB Pl s2 s4 x i y m)) V1 (.args k i))[m]?=some [.bool v.reg,.int .i64 v.n]:=by
                      simp only [elemsP];rw [blkOf_here Hkb2.out,getD_at (lsB_at Hy.out),List.getElem?_map,valsUp_at _ hv];rfl
                     obtain⟨G,gc,hGv,-,-,-,-⟩:=hnm.rows.addr (p := .args k i) hoks (Nat.lt_of_le_of_lt (Nat.zero_le _) (List.getElem?_eq_some_iff.1 hcs).1);rw [Hvf.out] at hGv;have hfa:fa=some ⟨G,0,none⟩:=by injection hGv
                     subst hfa;obtain⟨hat,hz⟩:=hnm.rows.at (p := .args k i) hoks (g:=G) (n:=fn) (c:=fc) Hvf.out hcs;obtain⟨vr,vn⟩:=v;have hat2:CellsAt wq G (m * 2) [.bool vr,.int .i64 vn]:=hat;obtain⟨c0,c1⟩:=hat2.get2;have hz0:=hz (m * 2);have hz1:=hz (m * 2+1);have hoG:=hnm.off (.args k i) hoks G (by rw [Hvf.out];rfl);have HoG:Hid (NmF T NB G∧¬F G):=⟨⟨hoG.2.1,hoG.2.2⟩,hoG.1⟩
                     have Hivv:=hid (Hiv.out _ (List.mem_of_getElem? hv));have zG:G<wq.heap.size:=cell_lt c0;have p1:wq.cell? ⟨IB,7,none⟩=some (.slice (some ⟨G,0,none⟩) fn fc):=by
                      have h:=(cells_of (cs:=[_,_,_,_,_,_,_,_]) Hic.out) 7 _ rfl;rw [Nat.zero_add] at h;exact hkm.cell HFI.out h
                     have zP:IB<wq.heap.size:=cell_lt p1;have Hnm:=hid hnm;have Hkm:=hid hkm;have Hv:=hid hv;have Hs5:=hid hs5;have HiP:=hid hiP;clear hml hv hs5 hiP hoks hcs hGv hat hz hat2 hoG hnm hkm;go_upto_region 51 with (fail)
                     obtain⟨VB,hVB⟩:∃VB,VB=wq.heap.size:=⟨_,rfl⟩
                     obtain⟨W11,hW11⟩:∃W11,W11=wq.alloc (.cells #[.bool vr,.int .i64 vn] 72):=⟨_,rfl⟩
                     have hl11:W11.heap[VB]?=some (.cells #[.bool vr,.int .i64 vn] 72 (0,0)):=by rw [hW11,hVB];exact heap_alloc_new _ _
                     have hb11:Below wq.heap.size wq W11:=by rw [hW11];(repeat (first | exact Below.refl _ _ | refine Below.alloc ?_ (by first|omega|(simp<;>omega)) _ | refine Below.setCell ?_ (by first|omega|(simp<;>omega)) _ | refine below_drewN ?_ _ | refine Below.drew ?_))
                     rw [←hW11,←hVB];have HFV:Hid (F VB):=by
                      refine HFG.out VB ?_;have:=Hkm.out.size;have:=HSc.out;omega
                     have HGn:Hid (IB≠G∧VB≠G):=by show _∧_;exact⟨fun e=>HoG.out.2 (e ▸ HFI.out),fun e=>HoG.out.2 (e ▸ HFV.out)⟩
                     have Hna11:=hid ((Hnm.out.later hb11).later (Below.refl W11.heap.size W11).drew);have Hk11:Hid (Kp F wq W11.drew):=(Kp.of hb11).trans (Kp.of (Below.refl W11.heap.size W11).drew);have hv2:=(cells_of (cs:=[_,_]) hl11).get2;rw [Nat.zero_add] at hv2;have HSd:Hid (W11.drew.cell? ⟨IB,7,none⟩=some (.slice (some ⟨G,0,none⟩) fn fc)∧W11.drew.cell? ⟨VB,0,none⟩=some (.bool vr)∧W11.drew.cell? ⟨VB,1,none⟩=some (.int .i64 vn)):=⟨Hk11.out.cell HFI.out p1,hv2.1,hv2.2⟩
                     have Hc0:Hid ((W11.drew.cell? ⟨G,m * 2,none⟩=some (.bool vr)∧W11.drew.frozen? ⟨G,m * 2,none⟩=false)∧W11.drew.cell? ⟨G,m * 2+1,none⟩=some (.int .i64 vn)∧W11.drew.frozen? ⟨G,m * 2+1,none⟩=false):=⟨⟨cell_later' (w':=W11) c0 hb11,(hb11.frozen (p:=⟨G,m * 2,none⟩) zG).trans hz0⟩,cell_later' (w':=W11) c1 hb11,(hb11.frozen (p:=⟨G,m * 2+1,none⟩) zG).trans hz1⟩
                     have zG11:G<W11.drew.heap.size:=cell_lt Hc0.out.1.1;have HNv:=hid (nmVal_any hn W11.drew Hna11.out.nm ⟨vr,vn⟩ Hivv.out);obtain⟨zr2,hzr2⟩:∃zr2,zr2=(valW s5 ⟨vr,vn⟩).reg:=⟨_,rfl⟩
                     obtain⟨zn2,hzn2⟩:∃zn2,zn2=(valW s5 ⟨vr,vn⟩).n:=⟨_,rfl⟩
                     rw [←hzr2,←hzn2] at HNv;have Hzv2:Hid ((⟨zr2,zn2⟩:DVal)=valW s5 ⟨vr,vn⟩):=by show (⟨zr2,zn2⟩:DVal)=valW s5 ⟨vr,vn⟩;rw [hzr2,hzn2]
                     clear hVB hW11 hl11 hb11 c0 c1 hz0 hz1 zG p1 zP hv2 hzr2 hzn2
                     go_region_held3 (fun w' => w'.cell? ⟨IB, 7, none⟩ = some (.slice (some ⟨G, 0, none⟩) fn fc) ∧ w'.cell? ⟨VB, 0, none⟩ = some (.bool vr) ∧ w'.cell? ⟨VB, 1, none⟩ = some (.int .i64 vn))
                      ((first | with_reducible exact HS9.out | with_reducible exact HS8.out | with_reducible exact HSd.out))
                      ((go_at_call 107; (with_reducible refine HNv.out.mono ?_); rintro e w8 ⟨rfl, hn8, hk8⟩
                        have hkF := Hna11.out.keepN hk8
                        have HS8 : Hid (w8.cell? ⟨IB, 7, none⟩ = some (.slice (some ⟨G, 0, none⟩) fn fc) ∧ w8.cell? ⟨VB, 0, none⟩ = some (.bool vr) ∧ w8.cell? ⟨VB, 1, none⟩ = some (.int .i64 vn)) := ⟨hkF.cell HFI.out HSd.out.1, hkF.cell HFV.out HSd.out.2.1, hkF.cell HFV.out HSd.out.2.2⟩
                        have r1 := hk8.cell HoG.out.1 Hc0.out.1.1
                        have rz := hk8.frozen HoG.out.1 zG11 Hc0.out.1.2
                        have r2 := hk8.cell HoG.out.1 Hc0.out.2.1
                        have rz2 := hk8.frozen HoG.out.1 zG11 Hc0.out.2.2
                        have HS9 : Hid (((w8.setCell ⟨G, m * 2, none⟩ (.bool zr2)).setCell ⟨G, m * 2 + 1, none⟩ (.int .i64 zn2)).cell? ⟨IB, 7, none⟩ = some (.slice (some ⟨G, 0, none⟩) fn fc) ∧ ((w8.setCell ⟨G, m * 2, none⟩ (.bool zr2)).setCell ⟨G, m * 2 + 1, none⟩ (.int .i64 zn2)).cell? ⟨VB, 0, none⟩ = some (.bool vr) ∧ ((w8.setCell ⟨G, m * 2, none⟩ (.bool zr2)).setCell ⟨G, m * 2 + 1, none⟩ (.int .i64 zn2)).cell? ⟨VB, 1, none⟩ = some (.int .i64 vn)) :=
                         ⟨(cell_set_ne _ HGn.out.1 _ _).trans ((cell_set_ne _ HGn.out.1 _ _).trans HS8.out.1), (cell_set_ne _ HGn.out.2 _ _).trans ((cell_set_ne _ HGn.out.2 _ _).trans HS8.out.2.1), (cell_set_ne _ HGn.out.2 _ _).trans ((cell_set_ne _ HGn.out.2 _ _).trans HS8.out.2.2)⟩
                        have Hn8 := hid hn8
                        have Hk8 := hid hk8
                        have HkF := hid hkF
                        clear hn8 hk8 hkF))
                     have hset:=(Hna11.out.named Hn8.out Hk8.out).setArg Hkb2.out (i:=i) (m:=m) (g:=G) (pn:=fn) (pc:=fc) HiP.out (by rw [getD_at (lsB_at Hy.out)];show m<(valsUp _ _ _).length;rw [valsUp_len];exact (List.getElem?_eq_some_iff.1 Hv.out).1) Hvf.out ⟨zr2,zn2⟩;rw [Hzv2.out,Hs5.out,lsB_step Hy.out Hv.out,←Hs5.out,←Hzv2.out] at hset;have Hset:=hid hset;clear hset;go_wp2_with fail;go_roundw
                     case rel=>exact⟨m+1,by omega,by go_num,by rw [nmArgs_step _ Hv.out,←Hs5.out];exact Hset.out.1,((Hkm.out.trans Hk11.out).trans HkF.out).trans Hset.out.2⟩
                     case measure=>simp [intOf];omega
                     --END
                   · have hmf2:fn=m:=by omega
                     subst hmf2;rw [HyD.out.1,List.take_length] at hnm;have hic:=(hkm.block IB (Array.getElem?_eq_some_iff.1 Hic.out).1 HFI.out).trans Hic.out;have Hkq:Hid (Kp F wp wq):=Hkc.out.trans hkm;have Hic2:=hid hic;have Hnm:=hid hnm;obtain⟨m0,m1,m2,m3,m4,m5,m6,m7⟩:=(cells_of (cs:=[_,_,_,_,_,_,_,_]) hic).get8;rw [Nat.zero_add] at m1 m2 m3 m4 m5 m6 m7;have zI:IB<wq.heap.size:=cell_lt m0;have y1:=thawed hic 1
                     -- the instruction is stored
                     have Hstore : Hid (∀ W' d', NaSt W' base T NB n F (bsk.set k (lsB Pl s2 s4 x i y y.args.length)) V1 (nmDst (nmArgs s4 y.args) d) → d' = dstW (nmArgs s4 y.args) d →
                      ∀ W'', W'' = ((((((((W'.setCell ⟨Q, i * 8, none⟩ (.int .i64 op)).setCell ⟨Q, i * 8 + 1, none⟩ (.int .i64 d')).setCell ⟨Q, i * 8 + 2, none⟩ (.bool xr)).setCell ⟨Q, i * 8 + 3, none⟩ (.int .i64 xn)).setCell ⟨Q, i * 8 + 4, none⟩ (.bool zr)).setCell ⟨Q, i * 8 + 5, none⟩ (.int .i64 zn)).setCell ⟨Q, i * 8 + 6, none⟩ (.int .i64 yf)).setCell ⟨Q, i * 8 + 7, none⟩ (.slice fa fn fc)) →
                      NaSt W'' base T NB n F (bsk.set k (lsA Pl s2 x (i + 1))) V1 ((x.list.take (i + 1)).foldl nmIns s2) ∧ Kp F W' W'') := fun W' d' h hd' W'' hW'' => by
                      have hset:=h.setIns Hkb2.out (i:=i) (g:=Q) (pn:=q) (pc:=lc) (List.getElem?_eq_some_iff.1 (lsB_at Hy.out)).1 Hvs.out.2 ⟨op,d',⟨xr,xn⟩,⟨zr,zn⟩,yf,[]⟩ Hvf.out.symm;rw [hW'',foldl_step nmIns s2 Hy.out,←Hs3.out];unfold nmIns;rw [show valS (valS s3 y.a) y.b=s4 from Hs4.out.symm,←HyD.out.2.1]
                      rw [Hs4.out, Hs3.out, lsB_end Hy.out ⟨op, d', ⟨xr, xn⟩, ⟨zr, zn⟩, yf, []⟩ (by
                       rw [← Hs3.out, ← Hs4.out]
                       unfold insW
                       rw [show argsOn s3 y = s4 from Hs4.out.symm, hd', Hxv.out, Hzv.out, HyD.out.2.2.2.2.1, HyD.out.2.2.2.2.2, HyD.out.2.1]), ← Hs3.out, ← Hs4.out] at hset
                      exact hset
                     have hoq:=Hnm.out.off (.list k) (by show k<_;rw [List.length_set];exact Hkb2.out) Q (by rw [Hvs.out.2];rfl);have HoQ:Hid (NmF T NB Q∧¬F Q∧Q≠IB):=⟨⟨hoq.2.1,hoq.2.2⟩,hoq.1,fun e=>hoq.1 (e ▸ HFI.out)⟩
                     have hqe:(elemsP (bsk.set k (lsB Pl s2 s4 x i y y.args.length)) V1 (.list k))[i]?=some (cellsI { y with args:=valsUp s4 y.args y.args.length } (V1 (.args k i))):=by
                      simp only [elemsP];rw [blkOf_here Hkb2.out,mapIdx_at,lsB_at Hy.out];rfl
                     obtain⟨hqa,hqz⟩:=Hnm.out.rows.at (p := .list k) (by show k<_;rw [List.length_set];exact Hkb2.out) (g:=Q) (n:=q) (c:=lc) Hvs.out.2 hqe;have Hqa:Hid (CellsAt wq Q (i * 8) (cellsI { y with args:=valsUp s4 y.args y.args.length } (V1 (.args k i)))∧∀o,wq.frozen? ⟨Q,o,none⟩=false):=⟨hqa,hqz⟩
                     have zQq:Q<wq.heap.size:=cell_lt (hqa 0 _ rfl)
                     -- region 55,wherever the destination is settled
                     have Hqn:Hid (∀W',Kp (NmF T NB) wq W'→CellsAt W' Q (i * 8) (cellsI { y with args:=valsUp s4 y.args y.args.length } (V1 (.args k i)))∧∀o,W'.frozen? ⟨Q,o,none⟩=false):=fun W' h =>
                      ⟨fun j u hj=>h.cell HoQ.out.1 (Hqa.out.1 j u hj),fun o=>h.frozen HoQ.out.1 zQq (Hqa.out.2 o)⟩
                     clear hnm hkm hmf hm hic hoq hqe hqa hqz
                     by_cases hd0:0≤d
                     · have Hrd:Hid (0≤d∧d<n):=⟨hd0,Hid'.out⟩
                       have HN11:=hid (nmName_any hn wq Hnm.out.nm d Hrd.out);obtain⟨d',hd'⟩:∃d',d'=nmR (nmArgs s4 y.args) d:=⟨_,rfl⟩
                       rw [←hd'] at HN11;have Hd':=hid hd';clear hd' m0 m2 m3 m4 m5 m6 m7;go_upto_region 55 with (go_at_call 106;refine HN11.out.mono ?_;rintro e w8 ⟨rfl,hn8,hk8⟩;have Hn8:=hid hn8;have Hk8:=hid hk8;have HkF:=hid (Hnm.out.keepN hk8);have m1:=HkF.out.cell HFI.out m1;have y1:=HkF.out.frozen HFI.out zI y1;have zI:=cell_lt m1;clear hn8 hk8)
                       obtain⟨W12,hW12⟩:∃W12,W12=w8.setCell ⟨IB,1,none⟩ (.int .i64 d'):=⟨_,rfl⟩
                       have hi12:=heap_set_row (i:=1) ((HkF.out.block IB (Array.getElem?_eq_some_iff.1 Hic2.out).1 HFI.out).trans Hic2.out) (.int .i64 d');rw [←hW12] at hi12 ⊢;have hi12':W12.heap[IB]?=some (.cells #[.int .i64 op,.int .i64 d',.bool xr,.int .i64 xn,.bool zr,.int .i64 zn,.int .i64 yf,.slice fa fn fc] 80 (0,0)):=hi12;obtain⟨n0,n1,n2,n3,n4,n5,n6,n7⟩:=(cells_of (cs:=[_,_,_,_,_,_,_,_]) hi12').get8;rw [Nat.zero_add] at n1 n2 n3 n4 n5 n6 n7;have hk12:Kp (fun b=>b≠IB) w8 W12:=by rw [hW12];exact kp_one _ _ _ _
                       have Hna12:=hid ((Hnm.out.named Hn8.out Hk8.out).other hk12 HFI.out);have hq8:=Hqn.out w8 Hk8.out;have hqc:CellsAt W12 Q (i * 8) (cellsI { y with args:=valsUp s4 y.args y.args.length } (V1 (.args k i))):=fun j u hj=>hk12.cell HoQ.out.2.2 (hq8.1 j u hj);have zQ8:Q<w8.heap.size:=cell_lt (hq8.1 0 _ rfl);have hqf:∀o,W12.frozen? ⟨Q,o,none⟩=false:=fun o=>hk12.frozen HoQ.out.2.2 zQ8 (hq8.2 o);obtain⟨g0,g1,g2,g3,g4,g5,g6,g7⟩:=hqc.get8;have f0:=hqf (i * 8);have f1:=hqf (i * 8+1);have f2:=hqf (i * 8+2);have f3:=hqf (i * 8+3);have f4:=hqf (i * 8+4);have f5:=hqf (i * 8+5);have f6:=hqf (i * 8+6);have f7:=hqf (i * 8+7);have zI12:IB<W12.heap.size:=cell_lt n0;have zQ12:Q<W12.heap.size:=cell_lt g0;have HkW:Hid (Kp F W7 W12):=Hki.out.trans (by rw [hW12];exact (Hkq.out.trans HkF.out).setNew (a:=⟨IB,1,none⟩) HIn.out _);have l1:W12.cell? ⟨LB,1,none⟩=some (.slice (some ⟨Q,0,none⟩) q lc):=by
                        have h:=(cells_of (cs:=[_,_,_,_,_,_]) Hl7.out) 1 _ rfl;rw [Nat.zero_add] at h;exact HkW.out.cell HFL.out h
                       have zL12:LB<W12.heap.size:=cell_lt l1;have Hst:=hid (Hstore.out W12 d' (by have h:=Hna12.out;rw [show nmS (nmArgs s4 y.args) d=nmDst (nmArgs s4 y.args) d from (if_pos Hrd.out.1).symm] at h;exact h) (by rw [Hd'.out];exact (if_pos Hrd.out.1).symm) _ rfl);clear hW12 hi12 hi12' hk12 hq8 hqc hqf m1 y1 zI zQ8;go_wp2_with fail;go_roundw
                       case rel=>exact⟨i+1,by omega,by go_num,Hst.out.1,HkW.out.trans Hst.out.2⟩
                       case measure=>simp [intOf];omega
                     · obtain⟨g0,g1,g2,g3,g4,g5,g6,g7⟩:=(Hqn.out wq (Kp.refl _ _)).1.get8
                       have hqf:=(Hqn.out wq (Kp.refl _ _)).2;have f0:=hqf (i * 8);have f1:=hqf (i * 8+1);have f2:=hqf (i * 8+2);have f3:=hqf (i * 8+3);have f4:=hqf (i * 8+4);have f5:=hqf (i * 8+5);have f6:=hqf (i * 8+6);have f7:=hqf (i * 8+7);have zQ12:Q<wq.heap.size:=zQq;have HkW:Hid (Kp F W7 wq):=Hki.out.trans Hkq.out;have l1:wq.cell? ⟨LB,1,none⟩=some (.slice (some ⟨Q,0,none⟩) q lc):=by
                        have h:=(cells_of (cs:=[_,_,_,_,_,_]) Hl7.out) 1 _ rfl;rw [Nat.zero_add] at h;exact HkW.out.cell HFL.out h
                       have zL12:LB<wq.heap.size:=cell_lt l1;have Hst:=hid (Hstore.out wq d (by have h:=Hnm.out;rw [show nmArgs s4 y.args=nmDst (nmArgs s4 y.args) d from (if_neg hd0).symm] at h;exact h) (if_neg hd0).symm _ rfl);clear hqf y1;go_wp2_with fail;go_roundw
                       case rel=>exact⟨i+1,by omega,by go_num,Hst.out.1,HkW.out.trans Hst.out.2⟩
                       case measure=>simp [intOf];omega
               · have hiq2:q=i:=by omega
                 subst hiq2
                 --DEV
                 rw [Hdat.out.2.1,List.take_length] at hni;obtain⟨s3,hs3⟩:∃s3,s3=x.list.foldl nmIns s2:=⟨_,rfl⟩
                 rw [←hs3] at hni;have hs3':s3=onOf s1 x:=by rw [hs3,Hs2.out];rfl
                 have hokb:okP (bsk.set k (lsA Pl s2 x x.list.length)) .blks:=trivial;have hcs:(elemsP (bsk.set k (lsA Pl s2 x x.list.length)) V1 .blks)[k]?=some (cellsB (lsA Pl s2 x x.list.length) (V1 (.phis k)) (V1 (.list k)) (V1 (.to k))):=by
                  simp only [elemsP];rw [mapIdx_at,List.getElem?_set_self Hkb2.out];rfl
                 obtain⟨hat,hz⟩:=hni.rows.at (p := .blks) hokb (g:=R) (n:=l) (c:=rc) Hrv.out hcs;obtain⟨c0,c1,c2,c3,c4,c5⟩:=hat.get6;have hz3:=hz (k * 6+3);have hz4:=hz (k * 6+4);have hoR:=hni.off .blks hokb R (by rw [Hrv.out];rfl);have HoR:Hid (NmF T NB R∧¬F R):=⟨⟨hoR.2.1,hoR.2.2⟩,hoR.1⟩
                 have HRn:Hid (UB≠R∧LB≠R):=⟨fun e=>HoR.out.2 (e ▸ HFU.out.1),fun e=>HoR.out.2 (e ▸ HFL.out)⟩
                 have Hon:Hid (InV n ⟨er,en⟩):=by rw [show (⟨er,en⟩:DVal)=x.fin.on by rw [Hdat.out.2.2.1,Hdat.out.2.2.2]];exact Hrx.out.on
                 have HonD:Hid ((⟨er,en⟩:DVal)=x.fin.on):=by show (⟨er,en⟩:DVal)=_;rw [Hdat.out.2.2.1,Hdat.out.2.2.2]
                 have Hkd:Hid (Kp F W7 wp.drew):=hki.trans (Kp.of (Below.refl wp.heap.size wp).drew);have Hk5d:Hid (Kp F W5 wp.drew):=Hk57.out.trans Hkd.out;have Hnad:=hid (hni.later (Below.refl wp.heap.size wp).drew);have HSd:Hid (wp.drew.cell? ⟨UB,3,none⟩=some (.slice (some ⟨R,0,none⟩) l rc)∧wp.drew.cell? ⟨LB,3,none⟩=some (.bool er)∧wp.drew.cell? ⟨LB,4,none⟩=some (.int .i64 en)):=by
                  have h1:=(cells_of (cs:=[_,_,_,_]) Hub5.out) 3 _ rfl;have h2:=(cells_of (cs:=[_,_,_,_,_,_]) Hl7.out) 3 _ rfl;have h3:=(cells_of (cs:=[_,_,_,_,_,_]) Hl7.out) 4 _ rfl;rw [Nat.zero_add] at h1 h2 h3;exact⟨Hk5d.out.cell HFU.out.1 h1,Hkd.out.cell HFL.out h2,Hkd.out.cell HFL.out h3⟩
                 have zR:R<wp.drew.heap.size:=cell_lt (w:=wp) c3;have Hc0:Hid ((wp.drew.cell? ⟨R,k * 6+3,none⟩=some (.bool (lsA Pl s2 x x.list.length).fin.on.reg)∧wp.drew.frozen? ⟨R,k * 6+3,none⟩=false)∧wp.drew.cell? ⟨R,k * 6+4,none⟩=some (.int .i64 (lsA Pl s2 x x.list.length).fin.on.n)∧wp.drew.frozen? ⟨R,k * 6+4,none⟩=false):=⟨⟨c3,hz3⟩,c4,hz4⟩
                 have HNv:=hid (nmVal_any hn wp.drew Hnad.out.nm ⟨er,en⟩ Hon.out);obtain⟨zr,hzr⟩:∃zr,zr=(valW s3 ⟨er,en⟩).reg:=⟨_,rfl⟩
                 obtain⟨zn,hzn⟩:∃zn,zn=(valW s3 ⟨er,en⟩).n:=⟨_,rfl⟩
                 rw [←hzr,←hzn] at HNv;have Hzv:Hid ((⟨zr,zn⟩:DVal)=valW s3 x.fin.on):=by show (⟨zr,zn⟩:DVal)=_;rw [hzr,hzn,HonD.out]
                 have Hs3:=hid hs3';clear hs3 hs3' hokb hcs hat hz c0 c1 c2 c3 c4 c5 hz3 hz4 hoR hni hki hi hiq hzr hzn;go_upto_region 57 with (fail)
                 go_region_held3 (fun w' => w'.cell? ⟨UB, 3, none⟩ = some (.slice (some ⟨R, 0, none⟩) l rc) ∧ w'.cell? ⟨LB, 3, none⟩ = some (.bool er) ∧ w'.cell? ⟨LB, 4, none⟩ = some (.int .i64 en))
                  ((first | with_reducible exact HS9.out | with_reducible exact HS8.out | with_reducible exact HSd.out))
                  ((go_at_call 107; (with_reducible refine HNv.out.mono ?_); rintro e w8 ⟨rfl, hn8, hk8⟩
                    have hkF := Hnad.out.keepN hk8
                    have HS8 : Hid (w8.cell? ⟨UB, 3, none⟩ = some (.slice (some ⟨R, 0, none⟩) l rc) ∧ w8.cell? ⟨LB, 3, none⟩ = some (.bool er) ∧ w8.cell? ⟨LB, 4, none⟩ = some (.int .i64 en)) := ⟨hkF.cell HFU.out.1 HSd.out.1, hkF.cell HFL.out HSd.out.2.1, hkF.cell HFL.out HSd.out.2.2⟩
                    have r1 := hk8.cell HoR.out.1 Hc0.out.1.1
                    have rz := hk8.frozen HoR.out.1 zR Hc0.out.1.2
                    have r2 := hk8.cell HoR.out.1 Hc0.out.2.1
                    have rz2 := hk8.frozen HoR.out.1 zR Hc0.out.2.2
                    have HS9 : Hid (((w8.setCell ⟨R, k * 6 + 3, none⟩ (.bool zr)).setCell ⟨R, k * 6 + 4, none⟩ (.int .i64 zn)).cell? ⟨UB, 3, none⟩ = some (.slice (some ⟨R, 0, none⟩) l rc) ∧ ((w8.setCell ⟨R, k * 6 + 3, none⟩ (.bool zr)).setCell ⟨R, k * 6 + 4, none⟩ (.int .i64 zn)).cell? ⟨LB, 3, none⟩ = some (.bool er) ∧ ((w8.setCell ⟨R, k * 6 + 3, none⟩ (.bool zr)).setCell ⟨R, k * 6 + 4, none⟩ (.int .i64 zn)).cell? ⟨LB, 4, none⟩ = some (.int .i64 en)) :=
                     ⟨(cell_set_ne _ HRn.out.1 _ _).trans ((cell_set_ne _ HRn.out.1 _ _).trans HS8.out.1), (cell_set_ne _ HRn.out.2 _ _).trans ((cell_set_ne _ HRn.out.2 _ _).trans HS8.out.2.1), (cell_set_ne _ HRn.out.2 _ _).trans ((cell_set_ne _ HRn.out.2 _ _).trans HS8.out.2.2)⟩
                    have Hn8 := hid hn8
                    have Hk8 := hid hk8
                    have HkF := hid hkF
                    clear hn8 hk8 hkF))
                 have hset:=(Hnad.out.named Hn8.out Hk8.out).setOn Hkb2.out (g:=R) (pn:=l) (pc:=rc) Hrv.out ⟨zr,zn⟩;rw [Hzv.out,Hs3.out,HPl.out,Hs2.out,blkW_end,HonD.out,show valS (onOf s1 x) x.fin.on=nmB2 s1 x from rfl,Hs1.out,Hbsk.out,blksUp_set sA Hx.out,←foldl_step nmB2 sA Hx.out] at hset;rw [show valW (onOf (List.foldl nmB2 sA (List.take k bk)) x) x.fin.on=⟨zr,zn⟩ by rw [←Hs1.out,←Hs3.out];exact Hzv.out.symm] at hset;have Hset:=hid hset;clear hset;go_wp2_with fail;go_roundw
                 case rel=>exact⟨k+1,by omega,by go_num,Hset.out.1,(Hk5d.out.trans HkF.out).trans Hset.out.2⟩
                 case measure=>simp [intOf];omega
                 --END
         · have hlk2:l=k:=by omega
           subst hlk2;obtain⟨sF,hsF⟩:∃sF,sF=bk.foldl nmB2 sA:=⟨_,rfl⟩
           rw [foldl_full nmB2 sA Hl.out,←hsF] at hna;obtain⟨mn,hmn⟩:∃mn,mn=sF.many:=⟨_,rfl⟩
           have hmn2:mn=namesN pn n bk:=by rw [hmn,hsF,HsA.out];rfl
           have hbs:blksUp sA bk l=namesB pn n bk:=by rw [HsA.out,Hl.out];rfl
           rw [hbs] at hna;have hbox:=hna.nm.box;rw [←hmn] at hbox;have n1:=(cells_of (cs:=[_,_]) hbox) 1 _ rfl;rw [Nat.zero_add] at n1;have zN:NB<wo.heap.size:=cell_lt n1;have hub6:=(hkp.block UB (Array.getElem?_eq_some_iff.1 Hub5.out).1 HFU.out.1).trans Hub5.out;have huo6:=(hkp.block UO (Array.getElem?_eq_some_iff.1 Huo5.out).1 HFU.out.2).trans Huo5.out;obtain⟨c0,c1,c2,c3⟩:=(cells_of (cs:=[_,_,_,_]) hub6).get4;obtain⟨o0,o1,o2,o3⟩:=(cells_of (cs:=[_,_,_,_]) huo6).get4;rw [Nat.zero_add] at c1 c2 c3 o1 o2 o3;have f2:=thawed hub6 2;have z0:=thawed huo6 0;have z1:=thawed huo6 1;have z2:=thawed huo6 2;have z3:=thawed huo6 3;have hne:¬UO=UB:=by have:=HUs.out;omega
           have ho4:CellsAt (wo.setCell ⟨UB,2,none⟩ (.int .i64 mn)) UO 0 [.string ⟨#[]⟩,.int .i64 0,.int .i64 0,.slice none 0 0]:=fun j v hj=>by
            rw [cell_set_ne _ hne];exact cells_of huo6 j v hj
           have Ho4:=hid ho4;have Hna9:=hid hna;have Hkp9:=hid hkp;have Hmn2:=hid hmn2;have HlN:Hid (l=(namesB pn n bk).length):=by show l=_;rw [Hl.out];unfold namesB;rw [blksUp_len]
           clear hsF hmn hmn2 hbs hbox hub6 huo6 hna hkp ho4;go_wp2_with fail;have hW5:=set4 (u0 := .string nm) (u1 := .int .i64 (pn:Int)) (u2 := .int .i64 mn) (u3 := .slice ra l rc) Ho4.out;refine bodyPost_ret (func_res1 rfl rfl hW5) rfl ?_;have hzw:=HUs.out;have hz9:=HNs.out;have hbw:=HB.out;have hFq:∀b,F b→∀q,okP (namesB pn n bk) q→(V1 q).ownBlock≠some b:=fun b hb q hq e=>(Hna9.out.off q hq b e).1 hb;refine⟨V1,?_,(((((Hna9.out.rows.setOff (o:=2) (hFq UB HFU.out.1) (.int .i64 mn)).setOff (o:=0) (hFq UO HFU.out.2) (.string nm)).setOff (o:=1) (hFq UO HFU.out.2) (.int .i64 (pn:Int))).setOff (o:=2) (hFq UO HFU.out.2) (.int .i64 mn)).setOff (o:=3) (hFq UO HFU.out.2) (.slice ra l rc)),?_,?_⟩
           · show _=Ending.returned (.agg #[.string nm,.int .i64 (pn:Int),.int .i64 (namesN pn n bk),V1 .blks])
             rw [←Hmn2.out,Hrv.out]
           · have hb1:Below base W9 wo:=by
              refine ((H93.out.mono (by omega)).trans (Hkp35.out.below fun b hb=>⟨by omega,HFk.out b (by omega)⟩)).trans (Hkp9.out.below fun b hb=>⟨by have:=HS5.out;omega,?_⟩);rw [HF.out];exact⟨by omega,by omega,fun q hq e=>by have:=(RowsAt.lt Hrows.out hq b e).1;omega⟩
             have hb:=Hbc.out.trans hb1;have h1:base≤UB:=by omega
             have h2:base≤UO:=by omega
             exact ((((hb.setCell (p:=⟨UB,2,none⟩) h1 _).setCell (p:=⟨UO,0,none⟩) h2 _).setCell (p:=⟨UO,1,none⟩) h2 _).setCell (p:=⟨UO,2,none⟩) h2 _).setCell (p:=⟨UO,3,none⟩) h2 _
           · intro b hb
             have hbl:=(HS.out b hb).1;have h1:b≠UB:=by omega
             have h2:b≠UO:=by omega
             have hFb:F b:=HFO.out b (by omega) (.inl hb);refine⟨?_,hFq b hFb⟩;refine (((((Kp.refl (fun b=>b≠UB∧b≠UO) wo).set (a:=⟨UB,2,none⟩) (fun h=>h.1 rfl) _).set (a:=⟨UO,0,none⟩) (fun h=>h.2 rfl) _).set (a:=⟨UO,1,none⟩) (fun h=>h.2 rfl) _).set (a:=⟨UO,2,none⟩) (fun h=>h.2 rfl) _ |>.set (a:=⟨UO,3,none⟩) (fun h=>h.2 rfl) _).block b ?_ ⟨h1,h2⟩ |>.trans ?_
             · have:=Hkp9.out.size;have:=HS5.out;omega
             · exact (Hkp9.out.block b (by have:=HS5.out;omega) hFb).trans ((Hkp35.out.block b (by omega) (HFk.out b (by omega))).trans ((H93.out.block b (by omega)).trans (Hsk.out b hb)))

end Go.Proofs.YtnkogppgacappaaGreatDoor
