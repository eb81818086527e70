/- graph.Each, with tidy.DoOf. tidy.Do. tidy.Do of a checked unit. -/
import Derived.Test.YtnkogppgacappaaGreatDoorPDelF
import Derived.Test.YtnkogppgacappaaGreatDoorPDoOf
import Derived.Test.YtnkogppgacappaaGreatDoorPGCopy
import Derived.Test.YtnkogppgacappaaGreatDoorPBack
import Derived.Test.YtnkogppgacappaaGreatDoorPCloneR
import Derived.Test.YtnkogppgacappaaGreatDoorPLarge
import Derived.BigRegion
import Derived.Deep.DeepCutAuto
import Derived.Deep.RegionHeld3
import Derived.Test.YtnkogppgacappaaGreatDoorPMrg1
import Derived.Test.YtnkogppgacappaaGreatDoorPFour
namespace Go.Proofs.YtnkogppgacappaaGreatDoor
open Go.RowKit

theorem rFunc_one {S:Nat→Prop}{w:World}{cs:List Value}{x:DFunc}(h:rFunc S w cs x):∀u∈cs,u.oneCell'=true:=by
 obtain⟨v,rfl,hb,-⟩:=h;obtain⟨a,c,rfl,-⟩:=hb;intro u hu;simp only [List.mem_cons,List.not_mem_nil,or_false] at hu;rcases hu with rfl | rfl | rfl | rfl <;> rfl
theorem rGlobal_one {S:Nat→Prop}{w:World}{cs:List Value}{x:DGlobal}(h:rGlobal S w cs x):∀u∈cs,u.oneCell'=true:=by
 obtain⟨v,rfl,hb,-⟩:=h;obtain⟨a,c,rfl,-⟩:=hb;intro u hu;simp only [List.mem_cons,List.not_mem_nil,or_false] at hu;rcases hu with rfl | rfl | rfl <;> rfl
theorem ElSt.start {α : Type} {S : Nat → Prop} {w W : World} {base : Nat} {e : TypeId} {sz n : Nat} {r : Rp α} (f : α → α) {v : Value} {l : List α} {xss : List (List Value)} (hr : r.Mono) (hown : W.ownsRow base e sz v n xss.flatten) (hn : xss.length = n) (hl : l.length = n)
 (hw:∀cs∈xss,cs.length=sz) (he:∀(i:Nat) x,l[i]?=some x→∃cs,xss[i]?=some cs∧r S w cs x) (hb:Below w.heap.size w W):ElSt S (fun _=>False) W base e sz r f v l 0 xss:=by
 subst hn;refine⟨⟨hown,hw⟩,hl.symm,fun b h=>h.elim,fun i cs x h=>by omega,fun i cs x _ h1 h2=>?_⟩;obtain⟨cs',h3,h4⟩:=he i x h2;rw [h1] at h3;cases h3;exact hr.out _ _ _ _ _ _ (fun _ h=>h) (Stays.below' hb) h4

theorem res_each {fn : Func} {p q : Nat} (hfn : fn.results = #[.cell p 25, .cell q 27]) {tmps : Array Value} {b b' : Nat} (ht : tmps.getD p undef = .pointer (some ⟨b, 0, none⟩)) (ht' : tmps.getD q undef = .pointer (some ⟨b', 0, none⟩)) {g f c a : Value} {W : World}
 (h1:CellsAt W b 0 [g,f]) (h2:CellsAt W b' 0 [c,a]):(results fn tmps).run Tryz.prog W = .ok (.tuple #[.agg #[g,f],.agg #[c,a]]) W:=by
 obtain⟨a0,a1⟩:=h1.get2;obtain⟨b0,b1⟩:=h2.get2;simp only [Array.getD_eq_getD_getElem?] at ht ht';simp [results,hfn,ht,ht',go_sem,a0,a1,b0,b1]
theorem RowsAt.low {W:World}{base base':Nat}{ok:Pth→Prop}{V:Pth→Value}{C:Pth→List (List Value)}(h:RowsAt W base ok V C)(hb:base'≤base):RowsAt W base' ok V C:=⟨fun p hp=>ownsRow_low (h.own p hp) hb,h.wid,h.apart⟩

set_option maxRecDepth 100000 in
set_option maxHeartbeats 8000000 in
theorem each_any {S : Nat → Prop} (ga : Option Addr) (gc : Nat) (fa : Option Addr) (fc : Nat) (gs : List DGlobal) (fs : List DFunc) (w : World)
 (hg:SlAt S w 3 rGlobal (.slice ga gs.length gc) gs) (hf:SlAt S w 4 rFunc (.slice fa fs.length fc) fs) (hS:∀b,S b→b<w.heap.size) (hck:checkF ⟨gs,fs⟩=(0,0)) :
 Calls Tryz.prog 40 #[.agg #[.slice ga gs.length gc,.slice fa fs.length fc],.func (.func 41) #[] #[]] w fun e w' =>
  ∃ga2 gc2 fa2 fc2,e = .returned (.tuple #[.agg #[.slice ga2 gs.length gc2,.slice fa2 fs.length fc2],.agg #[.int .i64 0,.int .i64 0]]) ∧
    SlAt (iv w.heap.size w'.heap.size) w' 3 rGlobal (.slice ga2 gs.length gc2) gs∧SlAt (iv w.heap.size w'.heap.size) w' 4 rFunc (.slice fa2 fs.length fc2) (fs.map tidyFn)∧Below w.heap.size w w':=by
 have hnum:NumU ⟨gs,fs⟩:=NumU_of hf;have hsm:=checkF_small hck;obtain⟨hgl,hfl,-⟩:=checkF_ok (u:=⟨gs,fs⟩) (by rw [hck]);dsimp only at hgl hfl hsm;obtain⟨xg,-,hgn,hge,hgw,hgnil,hgc⟩:=sl_rows hg (by decide);obtain⟨xf,-,hfn,hfe,hfw,hfnil,hfc⟩:=sl_rows hf (by decide);have hg1:∀cs∈xg,∀u∈cs,u.oneCell'=true:=fun cs hcs=>by
  obtain⟨i,hi,rfl⟩:=List.getElem_of_mem hcs;have hib:i<gs.length:=by omega
  obtain⟨cs',g1,g2⟩:=hge i gs[i] (List.getElem?_eq_getElem hib);rw [List.getElem?_eq_getElem hi] at g1;rw [Option.some.inj g1];exact rGlobal_one g2
 have hf1:∀cs∈xf,∀u∈cs,u.oneCell'=true:=fun cs hcs=>by
  obtain⟨i,hi,rfl⟩:=List.getElem_of_mem hcs;have hib:i<fs.length:=by omega
  obtain⟨cs',g1,g2⟩:=hfe i fs[i] (List.getElem?_eq_getElem hib);rw [List.getElem?_eq_getElem hi] at g1;rw [Option.some.inj g1];exact rFunc_one g2
 obtain⟨n,hn⟩:∃n,n=gs.length:=⟨_,rfl⟩
 obtain⟨q,hq⟩:∃q,q=fs.length:=⟨_,rfl⟩
 rw [←hn] at hgn hg hgl hgnil ⊢;rw [←hq] at hfn hf hfl hfnil ⊢;have Hn:=hid hn;have Hq:=hid hq;have HS:=hid hS;have Hge:=hid hge;have Hgw:=hid hgw;have Hgn:=hid hgn;have Hfe:=hid hfe;have Hfw:=hid hfw;have Hfn:=hid hfn;have Hsm:=hid hsm;have Hck:=hid hck;have Hnum:=hid hnum
 have Hgcl := hid (fun (V : World) (hV : Below w.heap.size w V) => cloneGlo_row ga n gc xg.flatten V (by rw [flat_len xg (fun i cs hi => hgw cs (List.mem_of_getElem? hi)), hgn]) hgnil (fun b hb2 j u hj => by
  have h := hgc b hb2 j u hj
  rw [hV.cell (p := b.add j) (cell_blk h)]; exact h) (flat_one hg1) (by omega))
 have Hfcl := hid (fun (V : World) (hV : Below w.heap.size w V) => cloneFun_row fa q fc xf.flatten V (by rw [flat_len xf (fun i cs hi => hfw cs (List.mem_of_getElem? hi)), hfn]) hfnil (fun b hb2 j u hj => by
  have h := hfc b hb2 j u hj
  rw [hV.cell (p := b.add j) (cell_blk h)]; exact h) (flat_one hf1) (by omega))
 clear hg hf hS hck hnum hsm hgn hge hgw hgnil hgc hfn hfe hfw hfnil hfc hg1 hf1 hn hq;go_enter Tryz.func40,Tryz.ntmps40;go_upto_region 1 with (fail)
 obtain⟨W,hW⟩:∃W,W=((w.alloc (.cells #[.slice ga n gc,.slice fa q fc] 25)).alloc (.cells #[.slice none 0 0,.slice none 0 0] 25)).alloc (.cells #[.int .i64 0,.int .i64 0] 27):=⟨_,rfl⟩
 obtain⟨hWs,h0,h1,h2⟩:=heap_threeF w (.cells #[.slice ga n gc,.slice fa q fc] 25) (.cells #[.slice none 0 0,.slice none 0 0] 25) (.cells #[.int .i64 0,.int .i64 0] 27);rw [←hW] at hWs h0 h1 h2 ⊢;have hbW:Below w.heap.size w W:=by rw [hW];(repeat (first | exact Below.refl _ _ | refine Below.alloc ?_ (by first|omega|(simp<;>omega)) _ | refine Below.setCell ?_ (by first|omega|(simp<;>omega)) _ | refine below_drewN ?_ _ | refine Below.drew ?_))
 obtain⟨UB,hUB⟩:∃UB,UB=w.heap.size:=⟨_,rfl⟩
 obtain⟨RU,hRU⟩:∃RU,RU=w.heap.size+1:=⟨_,rfl⟩
 obtain⟨RF,hRF⟩:∃RF,RF=w.heap.size+2:=⟨_,rfl⟩
 rw [show w.heap.size+1+1=w.heap.size+2 from rfl,←hRF] at h2;rw [show w.heap.size+1+1=w.heap.size+2 from rfl,←hRF,←hRU,←hUB];rw [←hUB] at h0;rw [←hRU] at h1;have HUs:Hid (UB=w.heap.size∧RU=w.heap.size+1∧RF=w.heap.size+2∧W.heap.size=w.heap.size+3):=⟨hUB,hRU,hRF,hWs⟩
 have H0:=hid h0;have H1:=hid h1;have H2:=hid h2;have HbW:=hid hbW;obtain⟨c0,c1⟩:=(cells_of (cs:=[_,_]) h0).get2;rw [Nat.zero_add] at c1;have zU:UB<W.heap.size:=cell_lt c0;have f0:=thawed h0 0;clear hW h0 h1 h2 hbW hUB hRU hRF hWs;go_upto_region 2 with (go_at_call 68;refine (Hgcl.out W HbW.out).mono ?_;rintro e w2 ⟨va,vc,rfl,ho2,hb2⟩;have Ho2:=hid ho2;have Hb2:=hid hb2;have c0:=cell_later' c0 hb2;have f0:=(hb2.frozen (p:=⟨UB,0,none⟩) zU).trans f0;have zU:=cell_lt c0;clear ho2 hb2)
 obtain⟨W3,hW3⟩:∃W3,W3=w2.setCell ⟨UB,0,none⟩ (.slice va n vc):=⟨_,rfl⟩
 rw [←hW3];have hub3:W3.heap[UB]?=some (.cells #[.slice va n vc,.slice fa q fc] 25 (0,0)):=by
  rw [hW3,heap_set_row (i:=0) ((Hb2.out.block UB (Array.getElem?_eq_some_iff.1 H0.out).1).trans H0.out)];rfl
 have hk23:Kp (fun b=>b≠UB) w2 W3:=by rw [hW3];exact kp_one _ _ _ _
 have hB3:Below w.heap.size w W3:=by
  rw [hW3];exact (HbW.out.trans (Hb2.out.mono HbW.out.size)).setCell (p:=⟨UB,0,none⟩) (by have:=HUs.out;show w.heap.size≤UB;omega) _
 have hel:ElSt S (fun _=>False) W3 W.heap.size 48 3 rGlobal id (.slice va n vc) gs 0 xg:=by
  have h:=ElSt.start (S:=S) id rGlobal_mono Ho2.out Hgn.out (by rw [Hn.out]) Hgw.out Hge.out (HbW.out.trans (Hb2.out.mono HbW.out.size));exact h.kp rGlobal_mono hk23 (fun b hb e=>by have:=(h.row.lt b hb).1;have:=HUs.out;omega) (fun b hb=>hb.elim) (fun b hb e=>by have:=HS.out b hb;have:=HUs.out;omega)
 have hru3:=(hk23.block RU (by have:=Hb2.out.size;have:=HUs.out;omega) (by have:=HUs.out;omega)).trans ((Hb2.out.block RU (Array.getElem?_eq_some_iff.1 H1.out).1).trans H1.out);have hrf3:=(hk23.block RF (by have:=Hb2.out.size;have:=HUs.out;omega) (by have:=HUs.out;omega)).trans ((Hb2.out.block RF (Array.getElem?_eq_some_iff.1 H2.out).1).trans H2.out);have Hel:=hid hel;have Hub3:=hid hub3;have Hru3:=hid hru3;have Hrf3:=hid hrf3;have HB3:=hid hB3;have HW3:Hid (W.heap.size≤W3.heap.size):=by show _≤_;rw [hW3];have:=Hb2.out.size;simpa [World.setCell] using this
 have k0:=(cells_of (cs:=[_,_]) hub3).get2.1;have zU3:=cell_lt k0;clear hW3 hub3 hk23 hB3 hel hru3 hrf3 c0 c1 f0 zU;go_wp2_with fail;clear k0;go_loopw [17] (fun s17 wr=>∃(k:Nat) (xss:List (List Value)) (D:Nat→Prop),k≤n∧s17 = .int .i64 (k:Int)∧ElSt S D wr W.heap.size 48 3 rGlobal id (.slice va n vc) gs k xss∧Kp (fun b=>(Value.slice va n vc).ownBlock≠some b) W3 wr) (fun s17 _=>n - (intOf s17).toNat)
 case atStart=>exact⟨0,xg,fun _=>False,Nat.zero_le _,rfl,Hel.out,Kp.refl _ _⟩
 case round =>
  obtain⟨wo,hwo⟩:∃wo:World,wo=wr:=⟨_,rfl⟩
  subst hwo;obtain⟨k,xss,D,hk,rfl,hek,hkp⟩:=hrel
  by_cases hkn:k<n
  · have hkg:k<gs.length:=by rw [←Hn.out];exact hkn
    obtain⟨x,hx⟩:∃x,gs[k]?=some x:=⟨_,List.getElem?_eq_getElem hkg⟩
    obtain⟨R,rc,cs,hv,hR1,hR2,hcx,hcs,hr,hz⟩:=hek.get (by decide) hx;obtain⟨ia,ic,rfl,hin,hil,hI⟩:=hr.opens;rw [←Hn.out] at hv;have hva:va=some ⟨R,0,none⟩:=by injection hv
    subst hva;obtain⟨nm,hnm⟩:∃nm,nm=x.name:=⟨_,rfl⟩
    obtain⟨sz,hsz⟩:∃sz,sz=x.size:=⟨_,rfl⟩
    obtain⟨il,hil2⟩:∃il,il=x.init.length:=⟨_,rfl⟩
    rw [←hnm,←hsz,←hil2] at hcs hcx;rw [←hil2] at hin;obtain⟨d0,d1,d2⟩:=hcs.get3;have hilm:x.init.length≤1048576:=Hsm.out.1 x (List.mem_of_getElem? hx);have zR:R<wo.heap.size:=hR2;have hRne:R≠UB:=by have:=HUs.out;omega
    have k0:wo.cell? ⟨UB,0,none⟩=some (.slice (some ⟨R,0,none⟩) n vc):=hkp.cell (fun e=>hRne (show R=UB from Option.some.inj e)) (cells_of (cs:=[_,_]) Hub3.out).get2.1;have Hek:=hid hek;have Hkp:=hid hkp;have Hx:=hid hx;have Hin:=hid hin;have HI:=hid hI;have Hcx:=hid hcx;have HR:Hid (W.heap.size≤R∧R<wo.heap.size∧R≠UB):=⟨hR1,hR2,hRne⟩
    have Hz:=hid hz;have HxD:Hid (nm=x.name∧sz=x.size∧il=x.init.length):=⟨hnm,hsz,hil2⟩
    have hil3:il≤1048576:=by rw [hil2];exact hilm
    clear hkg hx hv hR1 hR2 hcx hcs hin hil hI hz hek hkp hnm hsz hil2 hilm hRne;go_upto_region 5 with (fail)
    obtain⟨GB,hGB⟩:∃GB,GB=wo.heap.size:=⟨_,rfl⟩
    obtain⟨W4,hW4⟩:∃W4,W4=wo.alloc (.cells #[.string nm,.int .i64 sz,.slice ia il ic] 48):=⟨_,rfl⟩
    have hl4:W4.heap[GB]?=some (.cells #[.string nm,.int .i64 sz,.slice ia il ic] 48 (0,0)):=by rw [hW4,hGB];exact heap_alloc_new _ _
    have hb4:Below wo.heap.size wo W4:=by rw [hW4];(repeat (first | exact Below.refl _ _ | refine Below.alloc ?_ (by first|omega|(simp<;>omega)) _ | refine Below.setCell ?_ (by first|omega|(simp<;>omega)) _ | refine below_drewN ?_ _ | refine Below.drew ?_))
    rw [←hW4,←hGB];have hbd:Below wo.heap.size wo W4.drew:=hb4.drew;have HGn:Hid (UB≠R∧GB≠R):=by show _∧_;exact⟨fun e=>HR.out.2.2 e.symm,by rw [hGB];have:=HR.out;omega⟩
    have Hed:=hid (Hek.out.later rGlobal_mono hbd);have HSd:Hid (W4.drew.cell? ⟨UB,0,none⟩=some (.slice (some ⟨R,0,none⟩) n vc)∧W4.drew.cell? ⟨GB,2,none⟩=some (.slice ia il ic)):=by
     have h:=(cells_of (cs:=[_,_,_]) hl4) 2 _ rfl;rw [Nat.zero_add] at h;exact⟨cell_later' (w':=W4) k0 hb4,h⟩
    have hcl:=cloneInts_any (S:=S) ia ic x.init W4.drew (by rw [←HxD.out.2.2];exact Hin.out.later rInt_mono hbd) (by rw [←HxD.out.2.2];exact hil3);rw [←HxD.out.2.2] at hcl;have Hcl:=hid hcl;have Hc0:Hid (W4.drew.cell? ⟨R,k * 3+2,none⟩=some (.slice ia il ic)∧W4.drew.frozen? ⟨R,k * 3+2,none⟩=false):=⟨cell_later' (w':=W4) d2 hb4,(hb4.frozen (p:=⟨R,k * 3+2,none⟩) zR).trans (Hz.out _)⟩
    have zR4:R<W4.drew.heap.size:=cell_lt Hc0.out.1;have Hbd:=hid hbd;clear hGB hW4 hl4 hb4 hbd hcl d0 d1 d2 zR k0
    go_region_held3 (fun w' => w'.cell? ⟨UB, 0, none⟩ = some (.slice (some ⟨R, 0, none⟩) n vc) ∧ w'.cell? ⟨GB, 2, none⟩ = some (.slice ia il ic))
     ((first | with_reducible exact HS9.out | with_reducible exact HS8.out | with_reducible exact HSd.out))
     ((go_at_call 65; (with_reducible refine Hcl.out.mono ?_); rintro e w8 ⟨v, rfl, hv8, hb8⟩
       obtain ⟨ja, jc, hjv⟩ := hv8.shape
       subst hjv
       have HS8 : Hid (w8.cell? ⟨UB, 0, none⟩ = some (.slice (some ⟨R, 0, none⟩) n vc) ∧ w8.cell? ⟨GB, 2, none⟩ = some (.slice ia il ic)) := ⟨cell_later' HSd.out.1 hb8, cell_later' HSd.out.2 hb8⟩
       have r1 := cell_later' Hc0.out.1 hb8
       have rz := (hb8.frozen (p := ⟨R, k * 3 + 2, none⟩) zR4).trans Hc0.out.2
       obtain ⟨il2, hil2⟩ : ∃ il2, il2 = x.init.length := ⟨_, rfl⟩
       rw [← hil2]
       have HS9 : Hid ((w8.setCell ⟨R, k * 3 + 2, none⟩ (.slice ja il2 jc)).cell? ⟨UB, 0, none⟩ = some (.slice (some ⟨R, 0, none⟩) n vc) ∧ (w8.setCell ⟨R, k * 3 + 2, none⟩ (.slice ja il2 jc)).cell? ⟨GB, 2, none⟩ = some (.slice ia il ic)) := ⟨(cell_set_ne _ HGn.out.1 _ _).trans HS8.out.1, (cell_set_ne _ HGn.out.2 _ _).trans HS8.out.2⟩
       have Hv8 := hid hv8
       have Hb8 := hid hb8
       have Hil2 := hid hil2
       clear hv8 hb8 hil2))
    have he8:=Hed.out.later rGlobal_mono Hb8.out;have hr9:=he8.row.set (j:=2) rfl Hcx.out (by decide) (.slice ja il2 jc);have hk9:Kp (fun b=>b≠R) w8 (w8.setCell ⟨R,k * 3+2,none⟩ (.slice ja il2 jc)):=kp_one _ _ _ _;have hz9:(w8.setCell ⟨R,k * 3+2,none⟩ (.slice ja il2 jc)).heap.size=w8.heap.size:=by simp [World.setCell]
    have hnext := he8.next rGlobal_mono (D' := fun b => D b ∨ (W4.drew.heap.size ≤ b ∧ b < w8.heap.size)) rfl Hx.out hr9 hk9 (fun b hb e => by have := HS.out b hb; have := HR.out; have := HUs.out; omega) (fun b hb => .inl hb)
     (fun b hb => by
       rw [hz9]
       have hle := Hbd.out.size
       have hle8 := Hb8.out.size
       rcases hb with hb | hb
       · have := he8.low b hb
         exact ⟨this.1, this.2.1, fun e => this.2.2 (by rw [e]; rfl)⟩
       · have := HR.out
         exact ⟨by omega, hb.2, by omega⟩)
     ⟨_, (by show [Value.string nm, Value.int IntKind.i64 sz, Value.slice ja il2 jc] = _; rw [HxD.out.1, HxD.out.2.1]; rfl), by
       have h := Hv8.out.toSl rInt_mono (by decide)
       rw [← Hil2.out] at h
       exact h.mono rInt_mono (fun b hb => .inr hb) (hk9.stays fun b hb e => by have := hb.1; rw [e] at this; have := zR4; omega), HI.out⟩
    have hkn9:Kp (fun b=>(Value.slice (some ⟨R,0,none⟩) n vc).ownBlock≠some b) W3 (w8.setCell ⟨R,k * 3+2,none⟩ (.slice ja il2 jc)) :=
     ((Hkp.out.trans (Kp.of Hbd.out)).trans (Kp.of Hb8.out)).trans (hk9.less fun b hb e=>hb (by rw [e];rfl))
    have Hnext:=hid hnext;have Hkn9:=hid hkn9;clear he8 hr9 hk9 hz9 hnext hkn9;go_wp2_with fail;go_roundw
    case rel=>exact⟨k+1,_,_,by omega,by go_num,Hnext.out,Hkn9.out⟩
    case measure=>simp [intOf];omega
  · have hnk:n=k:=by omega
    subst hnk;obtain⟨WA,hWA⟩:∃WA:World,WA=wo:=⟨_,rfl⟩
    subst hWA;have hgr:SlAt (iv W.heap.size WA.heap.size) WA 3 rGlobal (.slice va n vc) gs:=by
     have hek2:=hek;rw [Hn.out] at hek2;have h:=ElSt.read rGlobal_mono (by decide) hek2;rw [←Hn.out] at h;rw [List.map_id] at h;exact h
    have hubA:=(hkp.block UB (Array.getElem?_eq_some_iff.1 Hub3.out).1 (fun e=>by have:=(hek.row.lt UB e).1;have:=HUs.out;omega)).trans Hub3.out;have hruA:=(hkp.block RU (Array.getElem?_eq_some_iff.1 Hru3.out).1 (fun e=>by have:=(hek.row.lt RU e).1;have:=HUs.out;omega)).trans Hru3.out;have hrfA:=(hkp.block RF (Array.getElem?_eq_some_iff.1 Hrf3.out).1 (fun e=>by have:=(hek.row.lt RF e).1;have:=HUs.out;omega)).trans Hrf3.out;have hBA:Below w.heap.size w WA:=HB3.out.trans (hkp.below fun b hb=>⟨by have:=HW3.out;have:=HUs.out;omega,fun e=>by have:=(hek.row.lt b e).1;have:=HUs.out;omega⟩);have HWA:Hid (W.heap.size≤WA.heap.size):=by show _≤_;have:=hkp.size;have:=HW3.out;omega
    have Hgr:=hid hgr;have HubA:=hid hubA;have HruA:=hid hruA;have HrfA:=hid hrfA;have HBA:=hid hBA;have k1:=(cells_of (cs:=[_,_]) hubA).get2.2;rw [Nat.zero_add] at k1;have zA:=cell_lt k1;have fA1:=thawed hubA 1;clear hgr hubA hruA hrfA hBA hek hkp hk hkn Hel;go_upto_region 8 with (go_at_call 69;refine (Hfcl.out WA HBA.out).mono ?_;rintro e w4 ⟨ua,uc,rfl,ho4,hb4⟩;have Ho4:=hid ho4;have Hb4:=hid hb4;have k1:=cell_later' k1 hb4;have fA1:=(hb4.frozen (p:=⟨UB,1,none⟩) zA).trans fA1;have zA:=cell_lt k1;clear ho4 hb4)
    obtain⟨W5,hW5⟩:∃W5,W5=w4.setCell ⟨UB,1,none⟩ (.slice ua q uc):=⟨_,rfl⟩
    rw [←hW5];have hub5:W5.heap[UB]?=some (.cells #[.slice va n vc,.slice ua q uc] 25 (0,0)):=by
     rw [hW5,heap_set_row (i:=1) ((Hb4.out.block UB (Array.getElem?_eq_some_iff.1 HubA.out).1).trans HubA.out)];rfl
    have hk45:Kp (fun b=>b≠UB) w4 W5:=by rw [hW5];exact kp_one _ _ _ _
    have hB5:Below w.heap.size w W5:=by
     rw [hW5];exact (HBA.out.trans (Hb4.out.mono (by have:=HWA.out;have:=HUs.out;omega))).setCell (p:=⟨UB,1,none⟩) (by have:=HUs.out;show w.heap.size≤UB;omega) _
    have hel:ElSt S (fun _=>False) W5 WA.heap.size 38 4 rFunc tidyFn (.slice ua q uc) fs 0 xf:=by
     have h:=ElSt.start (S:=S) tidyFn rFunc_mono Ho4.out Hfn.out (by rw [Hq.out]) Hfw.out Hfe.out (HBA.out.trans (Hb4.out.mono (by have:=HWA.out;have:=HUs.out;omega)));exact h.kp rFunc_mono hk45 (fun b hb e=>by have:=(h.row.lt b hb).1;have:=HUs.out;have:=HWA.out;omega) (fun b hb=>hb.elim) (fun b hb e=>by have:=HS.out b hb;have:=HUs.out;omega)
    have hru5:=(hk45.block RU (by have:=Hb4.out.size;have:=HUs.out;have:=HWA.out;omega) (by have:=HUs.out;omega)).trans ((Hb4.out.block RU (Array.getElem?_eq_some_iff.1 HruA.out).1).trans HruA.out);have hrf5:=(hk45.block RF (by have:=Hb4.out.size;have:=HUs.out;have:=HWA.out;omega) (by have:=HUs.out;omega)).trans ((Hb4.out.block RF (Array.getElem?_eq_some_iff.1 HrfA.out).1).trans HrfA.out);have hgr5:SlAt (iv W.heap.size WA.heap.size) W5 3 rGlobal (.slice va n vc) gs:=(Hgr.out.later rGlobal_mono Hb4.out).mono rGlobal_mono (fun _ h=>h) (hk45.stays fun b hb e=>by have:=hb.1;have:=HUs.out;omega);have Hel:=hid hel;have Hub5:=hid hub5;have Hru5:=hid hru5;have Hrf5:=hid hrf5;have HB5:=hid hB5;have Hgr5:=hid hgr5;have HW5:Hid (WA.heap.size≤W5.heap.size):=by show _≤_;rw [hW5];have:=Hb4.out.size;simpa [World.setCell] using this
    have k1':=(cells_of (cs:=[_,_]) hub5).get2.2;rw [Nat.zero_add] at k1';have zU5:=cell_lt k1';clear hW5 hub5 hk45 hB5 hel hru5 hrf5 hgr5 k1 fA1 zA;go_wp2_with fail;clear k1';go_loopw [38] (fun s38 wr=>∃(k:Nat) (xss:List (List Value)) (D:Nat→Prop),k≤q∧s38 = .int .i64 (k:Int)∧ElSt S D wr WA.heap.size 38 4 rFunc tidyFn (.slice ua q uc) fs k xss∧Kp (fun b=>(Value.slice ua q uc).ownBlock≠some b) W5 wr) (fun s38 _=>q - (intOf s38).toNat)
    case atStart=>exact⟨0,xf,fun _=>False,Nat.zero_le _,rfl,Hel.out,Kp.refl _ _⟩
    case round =>
     obtain⟨wo,hwo⟩:∃wo:World,wo=wr:=⟨_,rfl⟩
     subst hwo;obtain⟨k,xss,D,hk,rfl,hek,hkp⟩:=hrel
     by_cases hkq:k<q
     · have hkf:k<fs.length:=by rw [←Hq.out];exact hkq
       obtain⟨x,hx⟩:∃x,fs[k]?=some x:=⟨_,List.getElem?_eq_getElem hkf⟩
       obtain⟨R,rc,cs,hv,hR1,hR2,hcx,hcs,hr,hz⟩:=hek.get (by decide) hx;obtain⟨ba,bc,rfl,hin,hil,hI1,hI2⟩:=hr.opens;rw [←Hq.out] at hv;have hua:ua=some ⟨R,0,none⟩:=by injection hv
       subst hua;obtain⟨htd,hcko,hpn,hrn,hp0,hr0⟩:=fn_td Hck.out Hnum.out hx;obtain⟨pn,hpn2⟩:∃pn,pn=x.params.toNat:=⟨_,rfl⟩
       obtain⟨rn,hrn2⟩:∃rn,rn=x.regs.toNat:=⟨_,rfl⟩
       obtain⟨nm,hnm⟩:∃nm,nm=x.name:=⟨_,rfl⟩
       obtain⟨bl,hbl⟩:∃bl,bl=x.blocks.length:=⟨_,rfl⟩
       have hxp:x.params=(pn:Int):=by omega
       have hxr:x.regs=(rn:Int):=by omega
       rw [hxp,hxr,←hnm,←hbl] at hcs hcx;rw [←hbl] at hin;rw [←hrn2] at htd;rw [←hpn2,←hrn2] at hpn;rw [←hrn2] at hrn;obtain⟨d0,d1,d2,d3⟩:=hcs.get4;have zR:R<wo.heap.size:=hR2;have hRne:R≠UB∧R≠RU∧R≠RF:=by have:=HUs.out;have:=HWA.out;omega
       have k1:wo.cell? ⟨UB,1,none⟩=some (.slice (some ⟨R,0,none⟩) q uc):=hkp.cell (fun e=>hRne.1 (show R=UB from Option.some.inj e)) (by have h:=(cells_of (cs:=[_,_]) Hub5.out).get2.2;rw [Nat.zero_add] at h;exact h);have zU:=cell_lt k1;have Hek:=hid hek;have Hkp:=hid hkp;have Hx:=hid hx;have Hin:=hid hin;have Hcx:=hid hcx;have HR:Hid (WA.heap.size≤R∧R<wo.heap.size∧R≠UB):=⟨hR1,hR2,hRne.1⟩
       have Hz:=hid hz;have Htd:=hid htd;have Hcko:=hid hcko;have HxD:Hid (nm=x.name∧x.params=(pn:Int)∧x.regs=(rn:Int)∧bl=x.blocks.length∧pn=x.params.toNat∧rn=x.regs.toNat):=⟨hnm,hxp,hxr,hbl,hpn2,hrn2⟩
       have Hpn:Hid (pn≤rn∧rn≤100):=⟨hpn,hrn⟩
       have hbl40:bl≤1048576:=by rw [hbl];exact htd.ok.len
       clear hkf hx hv hR1 hR2 hcx hcs hin hil hI1 hI2 hz hek hkp hnm hxp hxr hbl hpn2 hrn2 htd hcko hpn hrn hp0 hr0 hRne;go_upto_region 11 with (fail)
       obtain⟨FB,hFB⟩:∃FB,FB=wo.heap.size:=⟨_,rfl⟩
       obtain⟨W6,hW6⟩:∃W6,W6=wo.alloc (.cells #[.string nm,.int .i64 (pn:Int),.int .i64 (rn:Int),.slice ba bl bc] 38):=⟨_,rfl⟩
       have hl6:W6.heap[FB]?=some (.cells #[.string nm,.int .i64 (pn:Int),.int .i64 (rn:Int),.slice ba bl bc] 38 (0,0)):=by rw [hW6,hFB];exact heap_alloc_new _ _
       have hb6:Below wo.heap.size wo W6:=by rw [hW6];(repeat (first | exact Below.refl _ _ | refine Below.alloc ?_ (by first|omega|(simp<;>omega)) _ | refine Below.setCell ?_ (by first|omega|(simp<;>omega)) _ | refine below_drewN ?_ _ | refine Below.drew ?_))
       rw [←hW6,←hFB];obtain⟨p0,p1,p2,p3⟩:=(cells_of (cs:=[_,_,_,_]) hl6).get4;rw [Nat.zero_add] at p1 p2 p3;have zF:=cell_lt p0;have k16:=cell_later' k1 hb6;have Hel6:=hid (Hek.out.later rFunc_mono hb6);have Hk6:Hid (Kp (fun b=>(Value.slice (some ⟨R,0,none⟩) q uc).ownBlock≠some b) W5 W6):=Hkp.out.trans (Kp.of hb6);have Hl6:=hid hl6;have HFn:Hid (FB=wo.heap.size∧W6.heap.size=FB+1):=⟨hFB,by rw [hW6,hFB];simp⟩
       have hcp:=gcopy_any (S:=S) nm (pn:Int) (rn:Int) ba bl bc x.blocks W6 (Hin.out.later rBlock_mono hb6) (fun b hb=>by have:=HS.out b hb;have:=HWA.out;have:=HR.out;have:=HUs.out;have:=hb6.size;omega) hbl40 Htd.out.ok.small;have Hcp:=hid hcp;have hmN:=doN_le Htd.out Hpn.out.1;obtain⟨mn,hmn⟩:∃mn,mn=doN pn rn x.blocks:=⟨_,rfl⟩
       rw [←hmn] at hmN;have htd2:TdOk mn.toNat (doB pn rn x.blocks):=by rw [hmn];exact doB_td Htd.out Hpn.out.1 (by have:=Hpn.out.2;omega)
       have hck2:=CkOk.do Htd.out Hcko.out Hpn.out.1
       have Hmn:=hid hmn;have HmN:Hid ((pn:Int)≤mn∧mn≤rn):=hmN;have Htd2:=hid htd2;have Hck2:=hid hck2;clear hFB hW6 hl6 hb6 hcp hmN hmn htd2 hck2 d0 d1 d2 d3 k1 zR zU
       go_upto_region 12 with (first
        | (go_at_call 70; refine Hcp.out.mono ?_; rintro e w7 ⟨V1, base0, rfl, hbs, hf7, hb7⟩
           have Hb7 := hid hb7
           obtain ⟨base, hbase⟩ : ∃ base, base = min base0 w7.heap.size := ⟨_, rfl⟩
           have hf7' : FunSt w7 base x.blocks V1 := RowsAt.low hf7 (by omega)
           have Hbs : Hid (W6.heap.size ≤ base ∧ base ≤ w7.heap.size) := (by show _ ∧ _; have := hb7.size; omega)
           have Hdo := hid (doOf_any (S := fun _ => False) nm pn rn x.blocks V1 base w7 hf7' Hbs.out.2 Htd.out (by have := Hpn.out.2; omega) Hpn.out.1 (fun b hb => hb.elim))
           clear hbs hf7 hb7 hf7' hbase)
        | (go_at_call 41; refine Hdo.out.mono ?_; rintro e w8 ⟨V3, rfl, hf8, hb8, -⟩
           obtain ⟨ra, rc2, hrv⟩ := RowsAt.shape (p := .blks) hf8 trivial
           obtain ⟨l, hl⟩ : ∃ l, l = (doB pn rn x.blocks).length := ⟨_, rfl⟩
           rw [show (elemsP (doB pn rn x.blocks) V3 .blks).length = l by simp [elemsP, hl]] at hrv
           rw [hrv, ← Hmn.out]
           have hb68 : Below W6.heap.size W6 w8 := Hb7.out.trans (hb8.mono Hbs.out.1)
           have hl8 : w8.heap[FB]? = some (.cells #[.string nm, .int .i64 (pn : Int), .int .i64 (rn : Int), .slice ba bl bc] 38 (0, 0)) := (hb68.block FB (Array.getElem?_eq_some_iff.1 Hl6.out).1).trans Hl6.out
           obtain ⟨p0, p1, p2, p3⟩ := (cells_of (cs := [_, _, _, _]) hl8).get4
           rw [Nat.zero_add] at p1 p2 p3
           have f0 := thawed hl8 0
           have f1 := thawed hl8 1
           have f2 := thawed hl8 2
           have f3 := thawed hl8 3
           have zF := cell_lt p0
           have Hb68 := hid hb68
           have Hl8 := hid hl8
           have Hf8 := hid hf8
           have Hrv := hid hrv
           have Hl := hid hl
           clear hf8 hb8 hrv hl hb68 hl8))
       obtain⟨W10,hW10⟩:∃W10,W10=((((w8.setCell ⟨FB,0,none⟩ (.string nm)).setCell ⟨FB,1,none⟩ (.int .i64 (pn:Int))).setCell ⟨FB,2,none⟩ (.int .i64 mn)).setCell ⟨FB,3,none⟩ (.slice ra l rc2)):=⟨_,rfl⟩
       rw [←hW10];have hl10:W10.heap[FB]?=some (.cells #[.string nm,.int .i64 (pn:Int),.int .i64 mn,.slice ra l rc2] 38 (0,0)):=by rw [hW10];exact set4H Hl8.out
       have hk10:Kp (fun b=>b≠FB) w8 W10:=by rw [hW10];exact kp_more (kp_more (kp_more (kp_one _ _ _ _) _ _) _ _) _ _
       have hs10:W10.heap.size=w8.heap.size:=by rw [hW10];simp [World.setCell]
       obtain⟨p0',p1',p2',p3'⟩:=(cells_of (cs:=[_,_,_,_]) hl10).get4;rw [Nat.zero_add] at p1' p2' p3';have hrd:SlAt (fun b=>base≤b∧b<W10.heap.size) W10 6 rBlock (.slice ra l rc2) (doB pn rn x.blocks):=by
        have h:=FunSt.read Hf8.out Htd2.out.ok.num;rw [Hrv.out] at h;exact h.mono rBlock_mono (fun b hb=>by rw [hs10];exact hb) (hk10.stays fun b hb e=>by have:=Hbs.out;have:=HFn.out;omega)
       have hel10:ElSt S D W10 WA.heap.size 38 4 rFunc tidyFn (.slice (some ⟨R,0,none⟩) q uc) fs k xss :=
        (Hel6.out.later rFunc_mono Hb68.out).kp rFunc_mono hk10 (fun b hb e=>by have:=(Hek.out.row.lt b hb).2;have:=HFn.out;omega) (fun b hb e=>by have:=(Hek.out.low b hb).2.1;have:=HFn.out;omega) (fun b hb e=>by have:=HS.out b hb;have:=HFn.out;have:=HR.out;have:=HWA.out;have:=HUs.out;omega)
       have hkp10:Kp (fun b=>(Value.slice (some ⟨R,0,none⟩) q uc).ownBlock≠some b) W5 W10:=by
        have h1:=Hkp.out;have hsz:=h1.size;have h2:Kp (fun b=>(Value.slice (some ⟨R,0,none⟩) q uc).ownBlock≠some b) W5 w8:=Hk6.out.trans (Kp.of Hb68.out);rw [hW10];have hF5:W5.heap.size≤FB:=by have:=HFn.out;omega
        exact (((h2.setNew (a:=⟨FB,0,none⟩) hF5 _).setNew (a:=⟨FB,1,none⟩) hF5 _).setNew (a:=⟨FB,2,none⟩) hF5 _).setNew (a:=⟨FB,3,none⟩) hF5 _
       have hlg:=large_no nm (pn:Int) mn ra l rc2 (doB pn rn x.blocks) W10 hrd Hl.out.symm (by rw [Hl.out];exact Hck2.out.len) Hck2.out.many (by have:=HmN.out;have:=Hpn.out;omega) (by have:=HmN.out;omega);have Hlg:=hid hlg;have Hrd:=hid hrd;have Hel10:=hid hel10;have Hkp10:=hid hkp10;have Hl10:=hid hl10;clear p0 p1 p2 p3 f0 f1 f2 f3 zF hW10 hl10 hk10 hs10 hrd hel10 hkp10 hlg k16;have zF10:=cell_lt p0';have k10:W10.cell? ⟨UB,1,none⟩=some (.slice (some ⟨R,0,none⟩) q uc):=Hkp10.out.cell (fun e=>HR.out.2.2 (show R=UB from Option.some.inj e)) (by have h:=(cells_of (cs:=[_,_]) Hub5.out).get2.2;rw [Nat.zero_add] at h;exact h);have hatR:CellsAt W10 R (k * 4) [.string nm,.int .i64 (pn:Int),.int .i64 (rn:Int),.slice ba bl bc]∧∀o,W10.frozen? ⟨R,o,none⟩=false:=by
        obtain⟨g,c,e,-,-,-,h1,h2⟩:=Hel10.out.row.at Hcx.out (by decide);have hg:R=g:=by injection e with e1;injection e1 with e2;injection e2
        rw [hg];exact⟨h1,h2⟩
       obtain⟨r0,r1,r2,r3⟩:=hatR.1.get4;have g0:=hatR.2 (k * 4);have g1:=hatR.2 (k * 4+1);have g2:=hatR.2 (k * 4+2);have g3:=hatR.2 (k * 4+3);have zR10:R<W10.heap.size:=cell_lt r0;have zU10:UB<W10.heap.size:=cell_lt k10;clear hatR
       go_wp2_with (go_at_call 71; refine Hlg.out.mono ?_; rintro e w11 ⟨rfl, hb11⟩; have Hb11 := hid hb11
                    have p0' := cell_later' p0' hb11; have p1' := cell_later' p1' hb11; have p2' := cell_later' p2' hb11; have p3' := cell_later' p3' hb11
                    have r0 := cell_later' r0 hb11; have r1 := cell_later' r1 hb11; have r2 := cell_later' r2 hb11; have r3 := cell_later' r3 hb11
                    have k10 := cell_later' k10 hb11
                    have g0 := (hb11.frozen (p := ⟨R, k * 4, none⟩) zR10).trans g0; have g1 := (hb11.frozen (p := ⟨R, k * 4 + 1, none⟩) zR10).trans g1; have g2 := (hb11.frozen (p := ⟨R, k * 4 + 2, none⟩) zR10).trans g2; have g3 := (hb11.frozen (p := ⟨R, k * 4 + 3, none⟩) zR10).trans g3
                    have zR11 := cell_lt r0; have zU11 := cell_lt k10; have zF11 := cell_lt p0'
                    clear hb11)
       go_roundw
       case rel =>
        obtain⟨W12,hW12⟩:∃W12,W12=((((w11.setCell ⟨R,k * 4,none⟩ (.string nm)).setCell ⟨R,k * 4+1,none⟩ (.int .i64 (pn:Int))).setCell ⟨R,k * 4+2,none⟩ (.int .i64 mn)).setCell ⟨R,k * 4+3,none⟩ (.slice ra l rc2)):=⟨_,rfl⟩
        rw [←hW12];have he11:=Hel10.out.later rFunc_mono Hb11.out;have hk12:Kp (fun b=>b≠R) w11 W12:=by rw [hW12];exact kp_more (kp_more (kp_more (kp_one _ _ _ _) _ _) _ _) _ _
        have hs12:W12.heap.size=w11.heap.size:=by rw [hW12];simp [World.setCell]
        have hr12:Row1 W12 WA.heap.size 38 4 (.slice (some ⟨R,0,none⟩) q uc) (xss.set k [.string nm,.int .i64 (pn:Int),.int .i64 mn,.slice ra l rc2]):=by
         rw [hW12];exact he11.row.set4 rfl (List.getElem?_eq_some_iff.1 Hcx.out).1 _ _ _ _
        have htf:tidyFn x=⟨nm,(pn:Int),mn,doB pn rn x.blocks⟩:=by
         unfold tidyFn;rw [←HxD.out.2.2.2.2.1,←HxD.out.2.2.2.2.2,←HxD.out.1,HxD.out.2.1,Hmn.out]
        have hnext := he11.next rFunc_mono (D' := fun b => D b ∨ (base ≤ b ∧ b < W10.heap.size)) rfl Hx.out hr12 hk12 (fun b hb e => by have := HS.out b hb; have := HR.out; have := HUs.out; have := HWA.out; omega) (fun b hb => .inl hb)
         (fun b hb => by
           rw [hs12]
           have hle := Hb11.out.size
           rcases hb with hb | hb
           · have := he11.low b hb
             exact ⟨this.1, this.2.1, fun e => this.2.2 (by rw [e]; rfl)⟩
           · have := HR.out
             have := HFn.out
             have := Hbs.out
             exact ⟨by omega, by omega, by omega⟩)
         (by
           rw [htf]
           refine ⟨_, rfl, ?_, ?_, ?_⟩
           · have h := Hrd.out.later rBlock_mono Hb11.out
             exact h.mono rBlock_mono (fun b hb => .inr hb) (hk12.stays fun b hb e => by have := HR.out; have := HFn.out; have := Hbs.out; omega)
           · show I64 (pn : Int)
             unfold I64; have := Hpn.out; omega
           · show I64 mn
             unfold I64; have := Hpn.out; have := HmN.out; omega)
        exact⟨k+1,_,_,by omega,by go_num,hnext,(Hkp10.out.trans (Kp.of Hb11.out)).trans (hk12.less fun b hb e=>hb (by rw [e];rfl))⟩
       case measure=>simp [intOf];omega
     · have hqk:q=k:=by omega
       subst hqk;have hfr:SlAt (iv WA.heap.size wo.heap.size) wo 4 rFunc (.slice ua q uc) (fs.map tidyFn):=by
        have hek2:=hek;rw [Hq.out] at hek2;have h:=ElSt.read rFunc_mono (by decide) hek2;rw [←Hq.out] at h;exact h
       have hFg:∀b,b<WA.heap.size→(Value.slice ua q uc).ownBlock≠some b:=fun b hb e=>by have:=(hek.row.lt b e).1;omega
       have hub6:=(hkp.block UB (Array.getElem?_eq_some_iff.1 Hub5.out).1 (hFg UB (by have:=HUs.out;have:=HWA.out;omega))).trans Hub5.out;have hru6:=(hkp.block RU (Array.getElem?_eq_some_iff.1 Hru5.out).1 (hFg RU (by have:=HUs.out;have:=HWA.out;omega))).trans Hru5.out;have hrf6:=(hkp.block RF (Array.getElem?_eq_some_iff.1 Hrf5.out).1 (hFg RF (by have:=HUs.out;have:=HWA.out;omega))).trans Hrf5.out;have hgr6:SlAt (iv W.heap.size WA.heap.size) wo 3 rGlobal (.slice va n vc) gs:=Hgr5.out.mono rGlobal_mono (fun _ h=>h) (hkp.stays fun b hb=>hFg b hb.2);have hB6:Below w.heap.size w wo:=HB5.out.trans (hkp.below fun b hb=>⟨by have:=HW5.out;have:=HWA.out;have:=HUs.out;omega,hFg b (by have:=HWA.out;have:=HUs.out;omega)⟩);have hs6:WA.heap.size≤wo.heap.size:=by have:=hkp.size;have:=HW5.out;omega
       obtain⟨k0,k1⟩:=(cells_of (cs:=[_,_]) hub6).get2;obtain⟨u0,u1⟩:=(cells_of (cs:=[_,_]) hru6).get2;obtain⟨x0,x1⟩:=(cells_of (cs:=[_,_]) hrf6).get2;rw [Nat.zero_add] at k1 u1 x1;have a0:=thawed hru6 0;have a1:=thawed hru6 1;have b0:=thawed hrf6 0;have b1:=thawed hrf6 1;have zRU:=cell_lt u0;have zRF:=cell_lt x0;have hne:¬RF=RU:=by have:=HUs.out;omega
       have hxc:∀u v,CellsAt ((wo.setCell ⟨RU,0,none⟩ u).setCell ⟨RU,1,none⟩ v) RF 0 [.int .i64 0,.int .i64 0]:=fun u v j y hj=>by
        rw [cell_set_ne _ hne,cell_set_ne _ hne];exact cells_of hrf6 j y hj
       have Hxc:=hid hxc;have Huc:Hid (CellsAt wo RU 0 [.slice none 0 0,.slice none 0 0]):=cells_of (cs:=[_,_]) hru6;have Hfr:=hid hfr;have Hgr6:=hid hgr6;have HB6:=hid hB6;have Hs6:=hid hs6;have Hne:=hid hne;clear hfr hFg hub6 hru6 hrf6 hgr6 hB6 hs6 hek hkp hk hkq hxc;go_wp2_with fail;have q2:=set2 (u0 := .int .i64 0) (u1 := .int .i64 0) (Hxc.out (.slice va n vc) (.slice ua q uc));have q1:CellsAt ((((wo.setCell ⟨RU,0,none⟩ (.slice va n vc)).setCell ⟨RU,1,none⟩ (.slice ua q uc)).setCell ⟨RF,0,none⟩ (.int .i64 0)).setCell ⟨RF,1,none⟩ (.int .i64 0)) RU 0 [.slice va n vc,.slice ua q uc]:=fun j y hj=>by
        rw [cell_set_ne _ (fun e=>Hne.out e.symm),cell_set_ne _ (fun e=>Hne.out e.symm)];exact set2 (u0 := .slice va n vc) (u1 := .slice ua q uc) Huc.out j y hj
       refine bodyPost_ret (res_each rfl rfl rfl q1 q2) rfl ⟨va,vc,ua,uc,rfl,?_,?_,?_⟩
       all_goals
        have hk9:Kp (fun b=>b≠RU∧b≠RF) wo ((((wo.setCell ⟨RU,0,none⟩ (.slice va n vc)).setCell ⟨RU,1,none⟩ (.slice ua q uc)).setCell ⟨RF,0,none⟩ (.int .i64 0)).setCell ⟨RF,1,none⟩ (.int .i64 0)) :=
         ((((Kp.refl _ wo).set (a:=⟨RU,0,none⟩) (fun h=>h.1 rfl) _).set (a:=⟨RU,1,none⟩) (fun h=>h.1 rfl) _).set (a:=⟨RF,0,none⟩) (fun h=>h.2 rfl) _).set (a:=⟨RF,1,none⟩) (fun h=>h.2 rfl) _
        have hz9:((((wo.setCell ⟨RU,0,none⟩ (.slice va n vc)).setCell ⟨RU,1,none⟩ (.slice ua q uc)).setCell ⟨RF,0,none⟩ (.int .i64 0)).setCell ⟨RF,1,none⟩ (.int .i64 0)).heap.size=wo.heap.size:=by simp [World.setCell]
        have hu:=HUs.out;have ha:=HWA.out;have hs:=Hs6.out
       · exact Hgr6.out.mono rGlobal_mono (fun b hb=>⟨by have:=hb.1;omega,by rw [hz9];have:=hb.2;omega⟩) (hk9.stays fun b hb=>⟨by have:=hb.1;omega,by have:=hb.1;omega⟩)
       · exact Hfr.out.mono rFunc_mono (fun b hb=>⟨by have:=hb.1;omega,by rw [hz9];exact hb.2⟩) (hk9.stays fun b hb=>⟨by have:=hb.1;omega,by have:=hb.1;omega⟩)
       · have h1:w.heap.size≤RU:=by omega
         have h2:w.heap.size≤RF:=by omega
         exact (((HB6.out.setCell (p:=⟨RU,0,none⟩) h1 _).setCell (p:=⟨RU,1,none⟩) h1 _).setCell (p:=⟨RF,0,none⟩) h2 _).setCell (p:=⟨RF,1,none⟩) h2 _

end Go.Proofs.YtnkogppgacappaaGreatDoor

namespace Go.Proofs.YtnkogppgacappaaGreatDoor
open Go.RowKit

def TidyPost(gs:List DGlobal)(fs:List DFunc)(w:World)(e:Ending)(w':World):Prop :=
 Below w.heap.size w w' ∧
 ((checkF ⟨gs,fs⟩).1≠0→e = .returned (.tuple #[.agg #[.slice none 0 0,.slice none 0 0],.agg #[.int .i64 (checkF ⟨gs,fs⟩).1,.int .i64 (checkF ⟨gs,fs⟩).2]])) ∧
 ((checkF ⟨gs, fs⟩).1 = 0 → ∃ ga gc fa fc, e = .returned (.tuple #[.agg #[.slice ga gs.length gc, .slice fa fs.length fc], .agg #[.int .i64 0, .int .i64 0]]) ∧
    SlAt (iv w.heap.size w'.heap.size) w' 3 rGlobal (.slice ga gs.length gc) gs ∧ SlAt (iv w.heap.size w'.heap.size) w' 4 rFunc (.slice fa fs.length fc) (fs.map tidyFn))

set_option maxRecDepth 100000 in
set_option maxHeartbeats 4000000 in
theorem tidy_any {S : Nat → Prop} (ga : Option Addr) (gc : Nat) (fa : Option Addr) (fc : Nat) (gs : List DGlobal) (fs : List DFunc) (w : World)
 (hg:SlAt S w 3 rGlobal (.slice ga gs.length gc) gs) (hf:SlAt S w 4 rFunc (.slice fa fs.length fc) fs) (hw:Ways w) (hS:∀b,S b→b<w.heap.size)
 (hgl:gs.length≤1048576) (hfl:fs.length≤1048576) (hsm:∀(k:Nat) (f:DFunc),fs[k]?=some f→manyOf f.blocks≤1048576∧f.blocks.length≤1048576) :
 Calls Tryz.prog 15 #[.agg #[.slice ga gs.length gc,.slice fa fs.length fc]] w fun e w'=>TidyPost gs fs w e w':=by
 obtain⟨c,hc⟩:∃c,c=(checkF ⟨gs,fs⟩).1:=⟨_,rfl⟩
 obtain⟨d,hd⟩:∃d,d=(checkF ⟨gs,fs⟩).2:=⟨_,rfl⟩
 have Hcd:Hid (checkF ⟨gs,fs⟩=(c,d)):=by show _=_;rw [hc,hd]
 have Hck':Hid (∀V,Below w.heap.size w V→Calls Tryz.prog 8 #[.agg #[.slice ga gs.length gc,.slice fa fs.length fc]] V fun e w'=>e = .returned (.agg #[.int .i64 c,.int .i64 d])∧Below V.heap.size V w'):=fun V hV=>by
  have h:=check_any (S:=S) ga gc fa fc gs fs V (hg.later rGlobal_mono hV) (hf.later rFunc_mono hV) (Ways.below hw hV) hgl hfl hsm;rw [←hc,←hd] at h;exact h
 have HEa : Hid (c = 0 → ∀ V, Below w.heap.size w V → Calls Tryz.prog 40 #[.agg #[.slice ga gs.length gc, .slice fa fs.length fc], .func (.func 41) #[] #[]] V fun e w' =>
  ∃ ga2 gc2 fa2 fc2, e = .returned (.tuple #[.agg #[.slice ga2 gs.length gc2, .slice fa2 fs.length fc2], .agg #[.int .i64 0, .int .i64 0]]) ∧
    SlAt (iv V.heap.size w'.heap.size) w' 3 rGlobal (.slice ga2 gs.length gc2) gs ∧ SlAt (iv V.heap.size w'.heap.size) w' 4 rFunc (.slice fa2 fs.length fc2) (fs.map tidyFn) ∧ Below V.heap.size V w') := fun h0 V hV =>
  each_any (S:=S) ga gc fa fc gs fs V (hg.later rGlobal_mono hV) (hf.later rFunc_mono hV) (fun b hb=>Nat.lt_of_lt_of_le (hS b hb) hV.size) (checkF_zero (by rw [Hcd.out];exact h0))
 clear hg hf hw hsm hc hd hS;go_enter Tryz.func15,Tryz.ntmps15;go_upto_region 1 with (fail)
 obtain⟨W,hW⟩:∃W,W=((w.alloc (.cells #[.slice ga gs.length gc,.slice fa fs.length fc] 25)).alloc (.cells #[.slice none 0 0,.slice none 0 0] 25)).alloc (.cells #[.int .i64 0,.int .i64 0] 27):=⟨_,rfl⟩
 obtain⟨hWs,h0,h1,h2⟩:=heap_threeF w (.cells #[.slice ga gs.length gc,.slice fa fs.length fc] 25) (.cells #[.slice none 0 0,.slice none 0 0] 25) (.cells #[.int .i64 0,.int .i64 0] 27);rw [←hW] at hWs h0 h1 h2 ⊢;have hbW:Below w.heap.size w W:=by rw [hW];(repeat (first | exact Below.refl _ _ | refine Below.alloc ?_ (by first|omega|(simp<;>omega)) _ | refine Below.setCell ?_ (by first|omega|(simp<;>omega)) _ | refine below_drewN ?_ _ | refine Below.drew ?_))
 obtain⟨UB,hUB⟩:∃UB,UB=w.heap.size:=⟨_,rfl⟩
 obtain⟨UO,hUO⟩:∃UO,UO=w.heap.size+1:=⟨_,rfl⟩
 obtain⟨UX,hUX⟩:∃UX,UX=w.heap.size+1+1:=⟨_,rfl⟩
 rw [←hUX] at h2 ⊢;rw [←hUO] at h1 ⊢;rw [←hUB] at h0 ⊢;have HUs:Hid (UB=w.heap.size∧UO=w.heap.size+1∧UX=w.heap.size+2∧W.heap.size=w.heap.size+3):=⟨hUB,hUO,hUX,hWs⟩
 have Hst:Hid (∀V,Below W.heap.size W V→Below w.heap.size w V∧V.heap[UB]?=some (.cells #[.slice ga gs.length gc,.slice fa fs.length fc] 25 (0,0))∧V.heap[UO]?=some (.cells #[.slice none 0 0,.slice none 0 0] 25 (0,0))∧V.heap[UX]?=some (.cells #[.int .i64 0,.int .i64 0] 27 (0,0))) :=
  fun V hV=>⟨hbW.trans (hV.mono hbW.size),(hV.block UB (by omega)).trans h0,(hV.block UO (by omega)).trans h1,(hV.block UX (by omega)).trans h2⟩
 have HbW:=hid hbW;obtain⟨c0,c1⟩:=(cells_of (cs:=[_,_]) h0).get2;rw [Nat.zero_add] at c1;have zB:UB<W.heap.size:=by omega
 clear hW h0 h1 h2 hbW hUB hUO hUX hWs;go_upto_region 2 with (go_at_call 8;refine (Hck'.out W HbW.out).mono ?_;rintro e w1 ⟨rfl,hb1⟩;have Hb1:=hid hb1;clear hb1)
 obtain⟨W2,hW2⟩:∃W2,W2=w1.alloc (.cells #[.int .i64 c,.int .i64 d] 27):=⟨_,rfl⟩
 have hb2:Below w1.heap.size w1 W2:=by rw [hW2];(repeat (first | exact Below.refl _ _ | refine Below.alloc ?_ (by first|omega|(simp<;>omega)) _ | refine Below.setCell ?_ (by first|omega|(simp<;>omega)) _ | refine below_drewN ?_ _ | refine Below.drew ?_))
 have Hb2:Hid (Below W.heap.size W W2):=Hb1.out.trans (hb2.mono Hb1.out.size);have x0:W2.cell? ⟨w1.heap.size,0,none⟩=some (.int .i64 c):=by rw [hW2];simp
 have x1:W2.cell? ⟨w1.heap.size,1,none⟩=some (.int .i64 d):=by rw [hW2];simp
 rw [←hW2];obtain⟨XB,hXB⟩:∃XB,XB=w1.heap.size:=⟨_,rfl⟩
 rw [←hXB] at x0 x1 ⊢;obtain⟨Hw2,s0,s1,s2⟩:=Hst.out W2 Hb2.out;have Hw2:=hid Hw2;have S1:=hid s1;have S2:=hid s2;obtain⟨a0,a1⟩:=(cells_of (cs:=[_,_]) s0).get2;rw [Nat.zero_add] at a1;have zB2:UB<W2.heap.size:=cell_lt a0;have zXB:XB<W2.heap.size:=cell_lt x0;have hne:¬UO=UX:=by have:=HUs.out;omega
 have hlo:w.heap.size≤UO∧w.heap.size≤UX:=by have:=HUs.out;omega
 have Hlo:=hid hlo;have hn3:¬XB=UO∧¬UO=XB∧¬XB=UX∧¬UX=XB:=by have:=HUs.out;have:=Hb1.out.size;omega
 have Hn3:=hid hn3;clear hW2 hb2 hXB s0 s1 s2 c0 c1 zB hlo hn3
 by_cases hc0:c=0
 · subst hc0
   have hd0:d=0:=by
    have h:=checkF_zero (u:=⟨gs,fs⟩) (by rw [Hcd.out]);rw [Hcd.out] at h;exact congrArg Prod.snd h
   subst hd0;have Hpost:Hid (∀e w' ga gc fa fc,Below w.heap.size w w'→e = .returned (.tuple #[.agg #[.slice ga gs.length gc,.slice fa fs.length fc],.agg #[.int .i64 0,.int .i64 0]])→SlAt (iv w.heap.size w'.heap.size) w' 3 rGlobal (.slice ga gs.length gc) gs→SlAt (iv w.heap.size w'.heap.size) w' 4 rFunc (.slice fa fs.length fc) (fs.map tidyFn)→TidyPost gs fs w e w'):=fun e w' ga gc fa fc h1 h2 h3 h4 =>
    ⟨h1,fun h=>absurd (by rw [Hcd.out]) h,fun _=>⟨ga,gc,fa,fc,h2,h3,h4⟩⟩
   have HE1:=hid (HEa.out rfl W2 Hw2.out);have zf:w.heap.size≤W2.heap.size:=Hw2.out.size;clear HEa Hck'
   go_wp2_with (go_at_call 40; refine HE1.out.mono ?_; rintro e w9 ⟨ga2, gc2, fa2, fc2, rfl, hg9, hf9, hb9⟩
                obtain ⟨Hw9, -, t1, t2⟩ := Hst.out w9 (Hb2.out.trans (hb9.mono Hb2.out.size))
                have T1 := hid t1
                have T2 := hid t2
                have Hw9 := hid Hw9
                have Hg9 := hid hg9
                have Hf9 := hid hf9
                have f0 := thawed t1 0
                have f1 := thawed t1 1
                have g0 := thawed t2 0
                have g1 := thawed t2 1
                obtain ⟨b0, b1⟩ := (cells_of (cs := [_, _]) t1).get2
                obtain ⟨d0, d1⟩ := (cells_of (cs := [_, _]) t2).get2
                rw [Nat.zero_add] at b1 d1
                have zO2 : UO < w9.heap.size := cell_lt b0
                have zX2 : UX < w9.heap.size := cell_lt d0
                have hne2 : ¬ UX = UO := fun e => hne e.symm
                have hUW : UO < W2.heap.size ∧ UX < W2.heap.size := by have := HUs.out; have := Hb2.out.size; omega
                have HUW := hid hUW
                clear hb9 hg9 hf9 t1 t2 hUW)
   have hsix:=four_cells (.slice ga2 gs.length gc2) (.slice fa2 fs.length fc2) (.int .i64 0) (.int .i64 0) (cells_of (cs:=[_,_]) T1.out) (cells_of (cs:=[_,_]) T2.out) hne;have hb6:Below w.heap.size w (fourW w9 UO UX (.slice ga2 gs.length gc2) (.slice fa2 fs.length fc2) (.int .i64 0) (.int .i64 0)):=below_fourW Hw9.out Hlo.out.1 Hlo.out.2;have hh:∀b,b≠UO→b≠UX→(fourW w9 UO UX (.slice ga2 gs.length gc2) (.slice fa2 fs.length fc2) (.int .i64 0) (.int .i64 0)).heap[b]?=w9.heap[b]?:=fun b h1 h2=>four_heap h1 h2;have hs6:(fourW w9 UO UX (.slice ga2 gs.length gc2) (.slice fa2 fs.length fc2) (.int .i64 0) (.int .i64 0)).heap.size=w9.heap.size:=by simp [fourW,World.setCell]
   have hiv:∀b,iv W2.heap.size w9.heap.size b→b≠UO∧b≠UX:=fun b hb=>by have:=hb.1;have:=HUW.out;omega
   refine bodyPost_ret (unit_res rfl rfl rfl hsix.1 hsix.2) rfl (Hpost.out _ _ ga2 gc2 fa2 fc2 hb6 rfl ?_ ?_)
   · exact Hg9.out.mono rGlobal_mono (fun b hb=>⟨by have:=hb.1;omega,Nat.lt_of_lt_of_eq hb.2 hs6.symm⟩) (stays_at fun b hb _=>hh b (hiv b hb).1 (hiv b hb).2)
   · exact Hf9.out.mono rFunc_mono (fun b hb=>⟨by have:=hb.1;omega,Nat.lt_of_lt_of_eq hb.2 hs6.symm⟩) (stays_at fun b hb _=>hh b (hiv b hb).1 (hiv b hb).2)
 · have hq:((decide (c<0)||decide (0<c))||(decide (d<0)||decide (0<d)))=true:=by rw [Bool.eq_iff_iff];simp;omega
   have Hpost:Hid (∀e w',Below w.heap.size w w'→e = .returned (.tuple #[.agg #[.slice none 0 0,.slice none 0 0],.agg #[.int .i64 c,.int .i64 d]])→TidyPost gs fs w e w'):=fun e w' h1 h2=>by
    refine⟨h1,fun _=>?_,fun h=>?_⟩
    · rw [Hcd.out];exact h2
    · rw [Hcd.out] at h;exact absurd h hc0
   have s1:=S1.out;have s2:=S2.out;have f0:=thawed s1 0;have f1:=thawed s1 1;have g0:=thawed s2 0;have g1:=thawed s2 1;obtain⟨b0,b1⟩:=(cells_of (cs:=[_,_]) s1).get2;obtain⟨d0,d1⟩:=(cells_of (cs:=[_,_]) s2).get2;rw [Nat.zero_add] at b1 d1;have zO2:UO<W2.heap.size:=cell_lt b0;have zX2:UX<W2.heap.size:=cell_lt d0;obtain⟨hn3,hn4,hn5,hn6⟩:=Hn3.out;have hne2:¬UX=UO:=by omega
   clear hc0 s1 s2;go_wp2_with fail;go_region;have hsix:=four_cells (.slice none 0 0) (.slice none 0 0) (.int .i64 c) (.int .i64 d) (cells_of (cs:=[_,_]) S1.out) (cells_of (cs:=[_,_]) S2.out) hne;have hb6:Below w.heap.size w (fourW W2 UO UX (.slice none 0 0) (.slice none 0 0) (.int .i64 c) (.int .i64 d)):=below_fourW Hw2.out Hlo.out.1 Hlo.out.2;obtain⟨W6,hW6⟩:∃W6,W6=fourW W2 UO UX (.slice none 0 0) (.slice none 0 0) (.int .i64 c) (.int .i64 d):=⟨_,rfl⟩
   rw [←hW6] at hsix hb6;unfold fourW at hW6;rw [←hW6];have Hsix:=hid hsix;have Hb6:=hid hb6;clear hW6 hsix hb6;go_wp2_with fail;refine bodyPost_ret (unit_res rfl rfl rfl (fun j v hj=>Hsix.out.1 j v hj) (fun j v hj=>Hsix.out.2 j v hj)) rfl (Hpost.out _ _ Hb6.out.drew rfl)

end Go.Proofs.YtnkogppgacappaaGreatDoor

namespace Go.Proofs.YtnkogppgacappaaGreatDoor
open Go.RowKit

theorem checkF_many2 {u:DUnit}(h:checkF u=(0,0)):∀(k:Nat) (f:DFunc),u.funcs[k]?=some f→manyOf f.blocks≤1048576∧f.blocks.length≤1048576:=by
 intro k f hf;obtain⟨hh,-⟩:=checkF_at h hf;obtain⟨-,-,-,-,-,-,-,h40,hm⟩:=headE_ok hh;exact⟨by omega,by omega⟩
theorem tidy_ok {S : Nat → Prop} (ga : Option Addr) (gc : Nat) (fa : Option Addr) (n fc : Nat) (gs : List DGlobal) (fs : List DFunc) (w : World)
 (hg:SlAt S w 3 rGlobal (.slice ga gs.length gc) gs) (hf:SlAt S w 4 rFunc (.slice fa n fc) fs) (hn:fs.length=n) (hw:Ways w) (hS:∀b,S b→b<w.heap.size) (hck:checkF ⟨gs,fs⟩=(0,0)) :
 Calls Tryz.prog 15 #[.agg #[.slice ga gs.length gc,.slice fa n fc]] w fun e w'=>∃ga2 gc2 fa2 fc2,e = .returned (.tuple #[.agg #[.slice ga2 gs.length gc2,.slice fa2 n fc2],.agg #[.int .i64 0,.int .i64 0]]) ∧
  SlAt (iv w.heap.size w'.heap.size) w' 3 rGlobal (.slice ga2 gs.length gc2) gs∧SlAt (iv w.heap.size w'.heap.size) w' 4 rFunc (.slice fa2 n fc2) (fs.map tidyFn)∧Below w.heap.size w w':=by
 subst hn;obtain⟨hgl,hfl,-⟩:=checkF_ok (u:=⟨gs,fs⟩) (by rw [hck]);dsimp only at hgl hfl;refine (tidy_any (S:=S) ga gc fa fc gs fs w hg hf hw hS (by omega) (by omega) (checkF_many2 hck)).mono fun e w' hp=>?_;obtain⟨ga2,gc2,fa2,fc2,h1,h2,h3⟩:=hp.2.2 (by rw [hck]);exact⟨ga2,gc2,fa2,fc2,h1,h2,h3,hp.1⟩
end Go.Proofs.YtnkogppgacappaaGreatDoor
