/- turneryref5.CloneBlock: a block of the call's own memory. turneryref5.Clone: a unit of the call's own memory. -/
import Derived.Test.YtnkogppgacappaaGreatDoorPCloneR
namespace Go.Proofs.YtnkogppgacappaaGreatDoor
open Go.RowKit

theorem cells_set {w:World}{b i:Nat}{cs:List Value}(h:CellsAt w b 0 cs)(hi:i<cs.length)(u:Value):CellsAt (w.setCell ⟨b,i,none⟩ u) b 0 (cs.set i u):=by
 have h0:=h i cs[i] (List.getElem?_eq_getElem hi);rw [Nat.zero_add] at h0;intro j v hj;rw [Nat.zero_add,cell_set h0];rw [List.getElem?_set] at hj
 by_cases hji:j=i
 · subst hji
   rw [if_pos rfl,if_pos hi] at hj;rw [if_pos rfl];exact hj
 · rw [if_neg (fun e=>hji e.symm)] at hj
   rw [if_neg hji];have h1:=h j v hj;rw [Nat.zero_add] at h1;exact h1

theorem wpList_append_list {α : Type} {P : Program} {w : World} {ops : Array Oper} {rest : List Oper} {o : Oper} {a : Act} {Q : Exit → Act → World → Prop} (hgd : o.guard = none) (s x : Operand) (t : TypeId)
 (ho:o.op = .call { callee := .builtin .append,args:=#[s,x],argTypes:=#[t,t] })
 (e:TypeId) (i:TypeInfo) (z:Value) (size bytes:Nat) (ht:P.underlying t=some (.slice e)) (hi:P.info? e=some i) (hz:i.zero=some z)
 (hsize:i.size=size) (hby:i.bytes=bytes) (hzs:z.cells.size=size) (hsz:0<size)
 {r:Rp α} {enc:α→List Value} (S:Nat→Prop) (l:List α) (sa:Option Addr) (c:Nat) (hs:a.eval s = .slice none 0 0) (hx:a.eval x = .slice sa l.length c) (hsl:SlAt S w size r (.slice sa l.length c) l)
 (he:∀x,(enc x).length=size) (hre:∀cs x,r S w cs x→cs=enc x) (h1:∀u∈l.flatMap enc,u.oneCell'=true) (hrd:∀w1 T,∀x∈l,r T w1 (enc x) x) (hn:l.length≤2097152) (hbytes:bytes≤4096)
 (h:∀v' w',Own w.heap.size w' e size r v' l→Below w.heap.size w w'→(∃g cap,v' = .slice g l.length cap)→wpList P ops Q rest (a.put o.dst v') w') :
 wpList P ops Q (o :: rest) a w:=by
 cases sa with
 | none =>
   have hl:=hsl.none;subst hl;have hrun:(Builtin.append_ #[t,t] o.type #[.slice none 0 0,.slice none 0 c]).run P w = .ok (.slice none 0 0) w:=by
    simp [Builtin.append_,run_underlying ht,sizeOf,typeInfo,hi,Builtin.lenOf,Builtin.firstCells]
   refine wpList_plain hgd fun K hK=>?_;unfold Oper.wp execOp;simp only [List.length_nil] at hx;simp only [ho,resolve,invoke,builtin,Sem.run_bind,Sem.run_pure,Result.andThen_ok,List.map_toArray,List.map_cons,List.map_nil,hs,hx,hrun];exact hK _ _ (h _ _ (Own.nil _ _ _ _ _) (Below.refl _ _) ⟨_,_,rfl⟩)
 | some ad =>
   have hb:(0+l.length) * bytes≤140737488355328:=by
    have:=Nat.mul_le_mul hn hbytes;rw [Nat.zero_add];omega
   refine wpList_append_own_at w hgd s x t ho w.heap.size e i z size bytes ht hi hz hsize hby hzs hsz (.slice none 0 0) 0 [] hs (World.ownsRow_nil _ _ _ _) ad l.length c (l.flatMap enc) hx (flatMap_len he l) (hsl.flat he hsz hre) h1 (by unfold maxLen;omega) hb (Nat.le_refl _) ?_;intro v' w1 hown hgrow _ _;rw [Nat.zero_add,List.nil_append] at hown;have hown':=Own.of_row (r:=r) hown he (hrd w1);obtain⟨g,cap,hv⟩:=hown'.shape;exact h v' w1 hown' ((Below.refl _ _).grown hgrow (Nat.le_refl _) (fun k hk=>by cases hk)) ⟨g,cap,hv⟩

structure CLBox (w wr:World)(x:DBlock)(P0 L0 T0 pv lv tv:Value):Prop where
 below:Below w.heap.size w wr
 par:CellsAt wr w.heap.size 0 [P0,L0,.int .i64 x.fin.kind,.bool x.fin.on.reg,.int .i64 x.fin.on.n,T0]
 res:CellsAt wr (w.heap.size+1) 0 [.slice none 0 0,.slice none 0 0,.int .i64 0,.bool false,.int .i64 0,.slice none 0 0]
 resFree:∀j,wr.frozen? ⟨w.heap.size+1,j,none⟩=false
 out:CellsAt wr (w.heap.size+2) 0 [pv,lv,.int .i64 x.fin.kind,.bool x.fin.on.reg,.int .i64 x.fin.on.n,tv]
 outFree:∀j,wr.frozen? ⟨w.heap.size+2,j,none⟩=false
theorem cells_keep' {w w':World}{b o:Nat}{cs:List Value}(h:CellsAt w b o cs)(hk:w'.heap[b]?=w.heap[b]?):CellsAt w' b o cs:=fun j v hj=>by
 rw [World.cell?_of_block (w:=w) (a:=⟨b,o+j,none⟩) hk];exact h j v hj
theorem CLBox.keep {w wr w3:World}{x:DBlock}{P0 L0 T0 pv lv tv:Value}(h:CLBox w wr x P0 L0 T0 pv lv tv)(hb:Below w.heap.size w w3)(hk:∀b,w.heap.size≤b→b<w.heap.size+3→w3.heap[b]?=wr.heap[b]?):CLBox w w3 x P0 L0 T0 pv lv tv :=
 ⟨hb, cells_keep' h.par (hk _ (by omega) (by omega)), cells_keep' h.res (hk _ (by omega) (by omega)), fun j => (World.frozen?_of_block (w := wr) (a := ⟨w.heap.size + 1, j, none⟩) (hk _ (by dsimp only; omega) (by dsimp only; omega))).trans (h.resFree j),
   cells_keep' h.out (hk _ (by omega) (by omega)), fun j => (World.frozen?_of_block (w := wr) (a := ⟨w.heap.size + 2, j, none⟩) (hk _ (by dsimp only; omega) (by dsimp only; omega))).trans (h.outFree j)⟩
theorem CLBox.setOut {w wr : World} {x : DBlock} {P0 L0 T0 pv lv tv pv' lv' tv' : Value} (h : CLBox w wr x P0 L0 T0 pv lv tv) {i : Nat} {u : Value} (hi : i < 6)
 (he:[pv,lv,.int .i64 x.fin.kind,.bool x.fin.on.reg,.int .i64 x.fin.on.n,tv].set i u=[pv',lv',.int .i64 x.fin.kind,.bool x.fin.on.reg,.int .i64 x.fin.on.n,tv']):CLBox w (wr.setCell ⟨w.heap.size+2,i,none⟩ u) x P0 L0 T0 pv' lv' tv':=by
 have hk:∀b,b≠w.heap.size+2→(wr.setCell ⟨w.heap.size+2,i,none⟩ u).heap[b]?=wr.heap[b]?:=fun b hb=>Below.heap_setCell _ _ _ _ hb;refine⟨h.below.setCell (by dsimp only;omega) _,cells_keep' h.par (hk _ (by omega)),cells_keep' h.res (hk _ (by omega)),fun j=>(World.frozen?_of_block (w:=wr) (a:=⟨w.heap.size+1,j,none⟩) (hk _ (by dsimp only;omega))).trans (h.resFree j),?_,fun j=>by simp;exact h.outFree j⟩;rw [←he];exact cells_set h.out (by simpa using hi) u

set_option maxRecDepth 100000 in
set_option maxHeartbeats 4000000 in
theorem cloneBlock_any {S : Nat → Prop} (x : DBlock) (pa la ta : Option Addr) (pc lc tc : Nat) (w : World) (hp : SlAt S w 2 rPhi (.slice pa x.phis.length pc) x.phis) (hl : SlAt S w 8 rIns (.slice la x.list.length lc) x.list) (ht : SlAt S w 1 rInt (.slice ta x.fin.to.length tc) x.fin.to)
 (hsm:SmallB x) :
 Calls Tryz.prog 60 #[.agg #[.slice pa x.phis.length pc,.slice la x.list.length lc,.int .i64 x.fin.kind,.bool x.fin.on.reg,.int .i64 x.fin.on.n,.slice ta x.fin.to.length tc]] w fun e w' =>
  ∃pv lv tv,e = .returned (.agg #[pv,lv,.int .i64 x.fin.kind,.bool x.fin.on.reg,.int .i64 x.fin.on.n,tv])∧BlockIn w.heap.size w'.heap.size w' pv lv tv x∧Below w.heap.size w w':=by
 have Hp:=hid hp;have Hl:=hid hl;have Ht:=hid ht;have Hsm:=hid hsm;have hp1:=hsm.phis;have hl1:=hsm.list;have ht1:=hsm.to;clear hp hl ht hsm;obtain⟨ip,hip,hpz0,hpz1,hpz2⟩:=info_parts infoPhi;obtain⟨ii,hii,hiz0,hiz1,hiz2⟩:=info_parts infoIns;obtain⟨i0,hi0,hz0,hz1,hz2⟩:=info_parts infoInt';obtain⟨iv_,hiv,hvz0,hvz1,hvz2⟩:=info_parts infoVal;go_enter Tryz.func60,Tryz.ntmps60
 obtain ⟨W0, hW0⟩ : ∃ W0, W0 = ((w.alloc (.cells #[.slice pa x.phis.length pc, .slice la x.list.length lc, .int .i64 x.fin.kind, .bool x.fin.on.reg, .int .i64 x.fin.on.n, .slice ta x.fin.to.length tc] 76)).alloc
  (.cells #[.slice none 0 0, .slice none 0 0, .int .i64 0, .bool false, .int .i64 0, .slice none 0 0] 76)).alloc (.cells #[.slice none 0 0, .slice none 0 0, .int .i64 x.fin.kind, .bool x.fin.on.reg, .int .i64 x.fin.on.n, .slice ta x.fin.to.length tc] 76) := ⟨_, rfl⟩
 have hs0:W0.heap.size=w.heap.size+3:=by rw [hW0];simp
 have hst:CLBox w W0 x (.slice pa x.phis.length pc) (.slice la x.list.length lc) (.slice ta x.fin.to.length tc) (.slice none 0 0) (.slice none 0 0) (.slice ta x.fin.to.length tc):=by
  refine⟨by rw [hW0];(repeat (first | exact Below.refl _ _ | refine Below.alloc ?_ (by first|omega|(simp<;>omega)) _ | refine Below.setCell ?_ (by first|omega|(simp<;>omega)) _ | refine below_drewN ?_ _ | refine Below.drew ?_)),?_,?_,by intro j;rw [hW0,World.frozen?_alloc_old _ _ _ (by simp),World.frozen?_alloc_at _ _ _ _ (by simp)],?_,by intro j;rw [hW0,World.frozen?_alloc_at _ _ _ _ (by simp)]⟩
  · intro j u hj;rw [hW0,Nat.zero_add,World.cell?_alloc_past _ _ _ (by simp;omega),World.cell?_alloc2_first];simpa using hj
  · intro j u hj;rw [hW0,Nat.zero_add,World.cell?_alloc_past _ _ _ (by simp),World.cell?_alloc2_new];simpa using hj
  · intro j u hj;rw [hW0,Nat.zero_add,World.cell?_alloc_at _ _ _ _ (by simp)];simpa using hj
 have Hst:=hid hst;have HW0:=hid hW0;have Hs0:=hid hs0;clear hW0 hst hs0;go_wp2_with (at_builtin;rw [←HW0.out];refine wpList_append_list rfl _ _ 33 rfl 3 i0 _ 1 8 Tryz.underlying33 hi0 hz0 hz1 hz2 rfl (by decide) (r:=rInt) (enc:=encInt) S x.fin.to ta tc rfl rfl ?_ encInt_one encInt_of (encInt_cell _) ?_ (by omega) (by decide) ?_)
 · exact Ht.out.later rInt_mono Hst.out.below
 · exact fun w1 T=>encInt_rd Ht.out w1 T
 · intro tv w1 htv hb1 g9 cap9 hv9
   have hbx1:=Hst.out.keep (Hst.out.below.trans (hb1.mono (by rw [Hs0.out];omega))) (fun b h1 h2=>hb1.block b (by rw [Hs0.out];exact h2));obtain⟨q0,q1,q2,q3,q4,q5⟩:=hbx1.out.get6;simp only [Nat.zero_add] at q1 q2 q3 q4 q5;have ff5:=hbx1.outFree 5;have hz3:w.heap.size+2<w1.heap.size:=cell_lt q0;subst hv9;have Hbx1:=hid (hbx1.setOut (i:=5) (u := .slice g9 x.fin.to.length cap9) (by decide) rfl);have Htv:=hid htv.inn;have Hs1:Hid (W0.heap.size≤w1.heap.size):=hb1.size;have HtoR:=hid (fun w1 T=>encInt_rd Ht.out w1 T);clear q0 q1 q2 q3 q4 hb1 htv hbx1;go_wp2_with fail;obtain⟨WT,hWT⟩:∃WT,WT=w1.setCell ⟨w.heap.size+2,5,none⟩ (.slice g9 x.fin.to.length cap9):=⟨_,rfl⟩
   have hsT:WT.heap.size=w1.heap.size:=by rw [hWT];simp [World.setCell]
   have HtvT:Hid (OwnIn W0.heap.size w1.heap.size WT 3 1 rInt (.slice g9 x.fin.to.length cap9) x.fin.to):=by
    refine OwnIn.kept rInt_mono Htv.out (fun b h1 h2=>?_);rw [hWT,Below.heap_setCell _ _ _ _ (by have:=Hs0.out;dsimp only;omega)]
   rw [←hWT] at Hbx1 ⊢;have HsT:=hid hsT;clear hWT hsT q5 ff5 hz3
   go_loopw [4] (fun i wr => ∃ (k : Nat) (v : Value), k ≤ x.phis.length ∧ i = .int .i64 k ∧ WT.heap.size ≤ wr.heap.size ∧ CLBox w wr x (.slice pa x.phis.length pc) (.slice la x.list.length lc) (.slice ta x.fin.to.length tc) v (.slice none 0 0) (.slice g9 x.fin.to.length cap9) ∧
    Own WT.heap.size wr 94 2 rPhi v (x.phis.take k) ∧ OwnIn W0.heap.size WT.heap.size wr 3 1 rInt (.slice g9 x.fin.to.length cap9) x.fin.to) (fun i _ => x.phis.length - (intOf i).toNat)
   case atStart=>exact⟨0,_,Nat.zero_le _,rfl,Nat.le_refl _,Hbx1.out,Own.nil _ _ _ _ _,by rw [HsT.out];exact HtvT.out⟩
   case round =>
    obtain⟨k,v,hk,rfl,hsz,hbx,hown,hto⟩:=hrel;have Hbx:=hid hbx;have Hown:=hid hown;have Hto:=hid hto;have hz00:w.heap.size+3≤WT.heap.size:=by have:=HsT.out;have:=Hs1.out;have:=Hs0.out;omega
    obtain⟨p0,p1,p2,p3,p4,p5⟩:=hbx.par.get6;simp only [Nat.zero_add] at p1 p2 p3 p4 p5;have zp:w.heap.size<wr.heap.size:=cell_lt p0
    by_cases hkl:k<x.phis.length
    · obtain⟨b,off,fa,fc,rfl,c0,c1,hsrc,hd,-⟩:=phi_at (Hp.out.later rPhi_mono hbx.below) hkl
      have hb9:b<wr.heap.size:=cell_lt c0;obtain⟨y,hy⟩:∃y,y=x.phis[k]:=⟨_,rfl⟩
      rw [←hy] at c0 c1 hsrc hd;have Hy:=hid hy;have hns:y.src.length≤1048576:=by rw [hy];exact Hsm.out.src _ (List.getElem_mem hkl)
      have Hsrc:=hid hsrc;have Hd:=hid hd;obtain⟨W1,hW1⟩:∃W1,W1=wr.alloc (.cells #[.int .i64 y.dst,.slice fa y.src.length fc] 94):=⟨_,rfl⟩
      have k0:W1.cell? ⟨wr.heap.size,0,none⟩=some (.int .i64 y.dst):=by rw [hW1];simp
      have k1:W1.cell? ⟨wr.heap.size,1,none⟩=some (.slice fa y.src.length fc):=by rw [hW1];simp
      have kf:W1.frozen? ⟨wr.heap.size,1,none⟩=false:=by rw [hW1];simp
      have hz1:W1.heap.size=wr.heap.size+1:=by rw [hW1];simp
      have hbW1:Below wr.heap.size wr W1:=by rw [hW1];(repeat (first | exact Below.refl _ _ | refine Below.alloc ?_ (by first|omega|(simp<;>omega)) _ | refine Below.setCell ?_ (by first|omega|(simp<;>omega)) _ | refine below_drewN ?_ _ | refine Below.drew ?_))
      have HbW1:=hid hbW1;have HW1:=hid hW1;have Hz1:=hid hz1;have g3:W1.cell? ⟨w.heap.size+2,0,none⟩=some v:=cell_later' hbx.out.get6.1 hbW1;have f3:W1.frozen? ⟨w.heap.size+2,0,none⟩=false:=(hbW1.frozen (p:=⟨w.heap.size+2,0,none⟩) (by dsimp only;omega)).trans (hbx.outFree 0);clear hbx hown hto hy hsrc hd hbW1 hW1 hz1;go_wp2_with (at_builtin;rw [←HW1.out];refine wpList_append_list rfl _ _ 78 rfl 72 iv_ _ 2 16 Tryz.underlying78 hiv hvz0 hvz1 hvz2 rfl (by decide) (r:=rVal) (enc:=encVal) S y.src fa fc rfl rfl ?_ encVal_one encVal_of (encVal_cell _) ?_ (by omega) (by decide) ?_)
      · exact Hsrc.out.later rVal_mono HbW1.out
      · exact fun w1 T=>encVal_rd Hsrc.out w1 T
      · intro v' w2 hv' hb2 a' c' hv2
        subst hv2;have hz1:=Hz1.out;have Hv':=hid hv';have Hb2:=hid hb2;have m0:=cell_later' k0 hb2;have m1:=cell_later' k1 hb2;have mf:w2.frozen? ⟨wr.heap.size,1,none⟩=false:=(hb2.frozen (p:=⟨wr.heap.size,1,none⟩) (by dsimp only;omega)).trans kf;have n3:=cell_later' g3 hb2;have ff3:w2.frozen? ⟨w.heap.size+2,0,none⟩=false:=(hb2.frozen (p:=⟨w.heap.size+2,0,none⟩) (by dsimp only;omega)).trans f3;have hz2:wr.heap.size<w2.heap.size:=cell_lt m0;have hz4:w.heap.size+2<wr.heap.size:=by omega
        clear k0 k1 kf hv' hb2 c0 c1 g3 f3 p0 p1 p2 p3 p4 p5;go_wp2_with (at_builtin;refine wpList_append_Own rfl _ _ 69 rfl WT.heap.size 94 ip _ 2 32 Tryz.underlying69 hip hpz0 hpz1 hpz2 rfl (by decide) rPhi_mono v (x.phis.take k) rfl ?_ ⟨w2.heap.size,0,none⟩ 1 [.int .i64 y.dst,.slice a' y.src.length c'] y rfl rfl ?_ ?_ ?_ ?_ (by decide) ?_ ?_)
        · exact Hown.out.later rPhi_mono (by have h:=HbW1.out;have h2:=Hb2.out;(have hz0:=(h2).size;have hy0:=hz0;(try simp at hy0);have hz1:=(h).size;have hy1:=hz1;(try simp at hy1);repeat (first | exact Below.refl _ _ | refine Below.trans ?_ ((h2).mono (by first|omega|(simp<;>omega))) | refine Below.trans ?_ ((h).mono (by first|omega|(simp<;>omega))) | refine Below.alloc ?_ (by first|omega|(simp<;>omega)) _ | refine Below.setCell ?_ (by first|omega|(simp<;>omega)) _ | refine below_drewN ?_ _ | refine Below.drew ?_)))
        · exact new_cells _ _ _ (by simp)
        · intro u hu;simp at hu;rcases hu with rfl | rfl <;> rfl
        · refine⟨_,rfl,Hv'.out.sub rVal_mono (by decide) (by omega) (fun g hg=>by have:=Hown.out.lt g hg;omega) (fun b hb hl=>heap_set_alloc _ _ _ _ hl (by dsimp only;omega)) (by simp),Hd.out⟩
        · rw [List.length_take];omega
        · simp;omega
        · intro v3 w3 hown3 hgrow g2 cap2 hv3
          have hkk:∀B,B<wr.heap.size→some B≠v.ownBlock→w3.heap[B]?=wr.heap[B]?:=fun B h1 h2=>by
           rw [hgrow.block B (by simp;omega) h2,heap_set_alloc _ _ _ _ (by omega) (by dsimp only;omega),Hb2.out.block B (by omega),HbW1.out.block B h1]
          have hlow:∀B,w.heap.size≤B→B<WT.heap.size→w3.heap[B]?=wr.heap[B]?:=fun B h1 h2=>hkk B (by omega) (fun e=>by have:=(Hown.out.lt B e.symm).1;omega);have hb3:Below w.heap.size w w3:=by
           refine Below.grown ?_ hgrow (by simp;omega) (fun g hg=>by have:=(Hown.out.lt g hg).1;omega);have h:=Hbx.out.below;have h1:=HbW1.out;have h2:=Hb2.out
           (have hz0:=(h2).size;have hy0:=hz0;(try simp at hy0);have hz1:=(h1).size;have hy1:=hz1;(try simp at hy1);have hz2:=(h).size;have hy2:=hz2;(try simp at hy2);repeat (first | exact Below.refl _ _ | refine Below.trans ?_ ((h2).mono (by first|omega|(simp<;>omega))) | refine Below.trans ?_ ((h1).mono (by first|omega|(simp<;>omega))) | refine Below.trans ?_ ((h).mono (by first|omega|(simp<;>omega))) | refine Below.alloc ?_ (by first|omega|(simp<;>omega)) _ | refine Below.setCell ?_ (by first|omega|(simp<;>omega)) _ | refine below_drewN ?_ _ | refine Below.drew ?_))
          have hbx3:=Hbx.out.keep hb3 (fun b h1 h2=>hlow b h1 (by omega));have n4:w3.cell? ⟨w.heap.size+2,0,none⟩=some v:=hbx3.out.get6.1;have ff4:w3.frozen? ⟨w.heap.size+2,0,none⟩=false:=hbx3.outFree 0;have Hbx3:=hid (hbx3.setOut (i:=0) (u:=v3) (by decide) rfl);have Hto3:Hid (OwnIn W0.heap.size WT.heap.size (w3.setCell ⟨w.heap.size+2,0,none⟩ v3) 3 1 rInt (.slice g9 x.fin.to.length cap9) x.fin.to):=by
           refine OwnIn.kept rInt_mono Hto.out (fun b h1 h2=>?_);have:=Hs0.out;rw [Below.heap_setCell _ _ _ _ (by dsimp only;omega),hlow b (by omega) h2]
          have Hown3:Hid (Own WT.heap.size (w3.setCell ⟨w.heap.size+2,0,none⟩ v3) 94 2 rPhi v3 (x.phis.take (k+1))):=by
           have e:x.phis.take (k+1)=x.phis.take k++[y]:=by rw [List.take_succ_eq_append_getElem hkl,Hy.out]
           show Own _ _ _ _ _ _ _;rw [e];exact hown3.setLow rPhi_mono (by dsimp only;omega) _
          have hz5:w2.heap.size≤w3.heap.size:=Nat.le_trans (by simp) hgrow.size;subst hv3;clear hown3 hgrow hkk hlow hb3 hbx3;go_wp2_with fail;go_roundw
          case rel=>exact⟨k+1,_,by omega,by go_num,by simp [World.setCell];omega,by have h:=Hbx3.out;(try simp only [List.length_take,Nat.min_eq_left hk] at h);exact h,by have h:=Hown3.out;(try simp only [List.length_take,Nat.min_eq_left hk] at h);exact h,by have h:=Hto3.out;(try simp only [List.length_take,Nat.min_eq_left hk] at h);exact h⟩
          case measure=>simp [intOf];omega
    · obtain rfl:k=x.phis.length:=by omega
      rw [List.take_length] at Hown;go_wp2_with fail;obtain⟨WA,hWA⟩:∃WA,WA=wr:=⟨_,rfl⟩
      rw [←hWA] at Hbx Hown Hto hsz ⊢;have Hphi0:=hid Hown.out.inn;clear hWA hbx hown hto p0 p1 p2 p3 p4 p5 zp
      go_loopw [6] (fun i wr => ∃ (k : Nat) (v2 : Value), k ≤ x.list.length ∧ i = .int .i64 k ∧ WA.heap.size ≤ wr.heap.size ∧ CLBox w wr x (.slice pa x.phis.length pc) (.slice la x.list.length lc) (.slice ta x.fin.to.length tc) v v2 (.slice g9 x.fin.to.length cap9) ∧
       Own WA.heap.size wr 80 8 rIns v2 (x.list.take k) ∧ OwnIn W0.heap.size WT.heap.size wr 3 1 rInt (.slice g9 x.fin.to.length cap9) x.fin.to ∧ OwnIn WT.heap.size WA.heap.size wr 94 2 rPhi v x.phis) (fun i _ => x.list.length - (intOf i).toNat)
      case atStart=>exact⟨0,_,Nat.zero_le _,rfl,Nat.le_refl _,Hbx.out,Own.nil _ _ _ _ _,Hto.out,Hphi0.out⟩
      case round =>
       obtain⟨k,v2,hk,rfl,hsz2,hbx,hown2,hto,hphi⟩:=hrel;have Hbx2:=hid hbx;have Hown2:=hid hown2;have Hto2:=hid hto;have Hphi2:=hid hphi;obtain⟨p0,p1,p2,p3,p4,p5⟩:=hbx.par.get6;simp only [Nat.zero_add] at p1 p2 p3 p4 p5;have zp:w.heap.size<wr.heap.size:=cell_lt p0
       by_cases hkl:k<x.list.length
       · obtain⟨b,off,fa,fc,rfl,hcs,hsrc,hd⟩:=ins_at (Hl.out.later rIns_mono hbx.below) hkl
         obtain⟨y,hy⟩:∃y,y=x.list[k]:=⟨_,rfl⟩
         rw [←hy] at hcs hsrc hd;obtain⟨d0,d1,d2,d3,d4,d5,d6,d7⟩:=hcs.get8;have hb9:b<wr.heap.size:=cell_lt d0;have Hy:=hid hy;have hns:y.args.length≤1048576:=by rw [hy];exact Hsm.out.args _ (List.getElem_mem hkl)
         have Hsrc:=hid hsrc;have Hd:=hid hd;obtain⟨W1,hW1⟩:∃W1,W1=wr.alloc (.cells #[.int .i64 y.op,.int .i64 y.dst,.bool y.a.reg,.int .i64 y.a.n,.bool y.b.reg,.int .i64 y.b.n,.int .i64 y.fn,.slice fa y.args.length fc] 80):=⟨_,rfl⟩
         have kc:CellsAt W1 wr.heap.size 0 [.int .i64 y.op,.int .i64 y.dst,.bool y.a.reg,.int .i64 y.a.n,.bool y.b.reg,.int .i64 y.b.n,.int .i64 y.fn,.slice fa y.args.length fc]:=by
          intro j u hj;rw [hW1,Nat.zero_add,World.cell?_alloc_new];simpa using hj
         have Kc:=hid kc;have kf:W1.frozen? ⟨wr.heap.size,7,none⟩=false:=by rw [hW1];simp
         have hz1:W1.heap.size=wr.heap.size+1:=by rw [hW1];simp
         have hbW1:Below wr.heap.size wr W1:=by rw [hW1];(repeat (first | exact Below.refl _ _ | refine Below.alloc ?_ (by first|omega|(simp<;>omega)) _ | refine Below.setCell ?_ (by first|omega|(simp<;>omega)) _ | refine below_drewN ?_ _ | refine Below.drew ?_))
         have HbW1:=hid hbW1;have HW1:=hid hW1;have Hz1:=hid hz1;have g3:W1.cell? ⟨w.heap.size+2,1,none⟩=some v2:=cell_later' (by have h:=hbx.out.get6.2.1;rw [Nat.zero_add] at h;exact h) hbW1;have f3:W1.frozen? ⟨w.heap.size+2,1,none⟩=false:=(hbW1.frozen (p:=⟨w.heap.size+2,1,none⟩) (by dsimp only;omega)).trans (hbx.outFree 1);clear hbx hown2 hto hphi hy hsrc hd hbW1 hW1 hz1 kc hcs;go_wp2_with (at_builtin;rw [←HW1.out];refine wpList_append_list rfl _ _ 78 rfl 72 iv_ _ 2 16 Tryz.underlying78 hiv hvz0 hvz1 hvz2 rfl (by decide) (r:=rVal) (enc:=encVal) S y.args fa fc rfl rfl ?_ encVal_one encVal_of (encVal_cell _) ?_ (by omega) (by decide) ?_)
         · exact Hsrc.out.later rVal_mono HbW1.out
         · exact fun w1 T=>encVal_rd Hsrc.out w1 T
         · intro v' w2 hv' hb2 a' c' hv2
           subst hv2;have hz1:=Hz1.out;have Hv':=hid hv';have Hb2:=hid hb2;obtain⟨m0,m1,m2,m3,m4,m5,m6,m7⟩:=(Kc.out.later hb2).get8;simp only [Nat.zero_add] at m1 m2 m3 m4 m5 m6 m7;have mf:w2.frozen? ⟨wr.heap.size,7,none⟩=false:=(hb2.frozen (p:=⟨wr.heap.size,7,none⟩) (by dsimp only;omega)).trans kf;have n3:=cell_later' g3 hb2;have ff3:w2.frozen? ⟨w.heap.size+2,1,none⟩=false:=(hb2.frozen (p:=⟨w.heap.size+2,1,none⟩) (by dsimp only;omega)).trans f3;have hz2:wr.heap.size<w2.heap.size:=cell_lt m0;have hz4:w.heap.size+2<wr.heap.size:=by omega
           clear kf hv' hb2 d0 d1 d2 d3 d4 d5 d6 d7 g3 f3 p0 p1 p2 p3 p4 p5;go_wp2_with (at_builtin;refine wpList_append_Own rfl _ _ 70 rfl WA.heap.size 80 ii _ 8 80 Tryz.underlying70 hii hiz0 hiz1 hiz2 rfl (by decide) rIns_mono v2 (x.list.take k) rfl ?_ ⟨w2.heap.size,0,none⟩ 1 [.int .i64 y.op,.int .i64 y.dst,.bool y.a.reg,.int .i64 y.a.n,.bool y.b.reg,.int .i64 y.b.n,.int .i64 y.fn,.slice a' y.args.length c'] y rfl rfl ?_ ?_ ?_ ?_ (by decide) ?_ ?_)
           · exact Hown2.out.later rIns_mono (by have h:=HbW1.out;have h2:=Hb2.out;(have hz0:=(h2).size;have hy0:=hz0;(try simp at hy0);have hz1:=(h).size;have hy1:=hz1;(try simp at hy1);repeat (first | exact Below.refl _ _ | refine Below.trans ?_ ((h2).mono (by first|omega|(simp<;>omega))) | refine Below.trans ?_ ((h).mono (by first|omega|(simp<;>omega))) | refine Below.alloc ?_ (by first|omega|(simp<;>omega)) _ | refine Below.setCell ?_ (by first|omega|(simp<;>omega)) _ | refine below_drewN ?_ _ | refine Below.drew ?_)))
           · exact new_cells _ _ _ (by simp)
           · intro u hu;simp at hu;rcases hu with rfl | rfl | rfl | rfl | rfl | rfl | rfl | rfl <;> rfl
           · refine⟨_,rfl,Hv'.out.sub rVal_mono (by decide) (by omega) (fun g hg=>by have:=Hown2.out.lt g hg;omega) (fun b hb hl=>heap_set_alloc _ _ _ _ hl (by dsimp only;omega)) (by simp),Hd.out⟩
           · rw [List.length_take];omega
           · simp;omega
           · intro v3 w3 hown3 hgrow g2 cap2 hv3
             have hkk:∀B,B<wr.heap.size→some B≠v2.ownBlock→w3.heap[B]?=wr.heap[B]?:=fun B h1 h2=>by
              rw [hgrow.block B (by simp;omega) h2,heap_set_alloc _ _ _ _ (by omega) (by dsimp only;omega),Hb2.out.block B (by omega),HbW1.out.block B h1]
             have hlow:∀B,w.heap.size≤B→B<WA.heap.size→w3.heap[B]?=wr.heap[B]?:=fun B h1 h2=>hkk B (by omega) (fun e=>by have:=(Hown2.out.lt B e.symm).1;omega);have hb3:Below w.heap.size w w3:=by
              refine Below.grown ?_ hgrow (by simp;omega) (fun g hg=>by have:=(Hown2.out.lt g hg).1;omega);have h:=Hbx2.out.below;have h1:=HbW1.out;have h2:=Hb2.out
              (have hz0:=(h2).size;have hy0:=hz0;(try simp at hy0);have hz1:=(h1).size;have hy1:=hz1;(try simp at hy1);have hz2:=(h).size;have hy2:=hz2;(try simp at hy2);repeat (first | exact Below.refl _ _ | refine Below.trans ?_ ((h2).mono (by first|omega|(simp<;>omega))) | refine Below.trans ?_ ((h1).mono (by first|omega|(simp<;>omega))) | refine Below.trans ?_ ((h).mono (by first|omega|(simp<;>omega))) | refine Below.alloc ?_ (by first|omega|(simp<;>omega)) _ | refine Below.setCell ?_ (by first|omega|(simp<;>omega)) _ | refine below_drewN ?_ _ | refine Below.drew ?_))
             have hbx3:=Hbx2.out.keep hb3 (fun b h1 h2=>hlow b h1 (by omega));have n4:w3.cell? ⟨w.heap.size+2,1,none⟩=some v2:=by have h:=hbx3.out.get6.2.1;rw [Nat.zero_add] at h;exact h
             have ff4:w3.frozen? ⟨w.heap.size+2,1,none⟩=false:=hbx3.outFree 1;have Hbx3:=hid (hbx3.setOut (i:=1) (u:=v3) (by decide) rfl);have hkeep:∀b,w.heap.size+3≤b→b<WA.heap.size→(w3.setCell ⟨w.heap.size+2,1,none⟩ v3).heap[b]?=wr.heap[b]?:=fun b h1 h2=>by
              rw [Below.heap_setCell _ _ _ _ (by dsimp only;omega),hlow b (by omega) h2]
             have Hto3:Hid (OwnIn W0.heap.size WT.heap.size (w3.setCell ⟨w.heap.size+2,1,none⟩ v3) 3 1 rInt (.slice g9 x.fin.to.length cap9) x.fin.to) :=
              OwnIn.kept rInt_mono Hto2.out (fun b h1 h2=>hkeep b (by have:=Hs0.out;omega) (by omega))
             have Hphi3:Hid (OwnIn WT.heap.size WA.heap.size (w3.setCell ⟨w.heap.size+2,1,none⟩ v3) 94 2 rPhi v x.phis) :=
              OwnIn.kept rPhi_mono Hphi2.out (fun b h1 h2=>hkeep b (by omega) h2)
             have Hown3:Hid (Own WA.heap.size (w3.setCell ⟨w.heap.size+2,1,none⟩ v3) 80 8 rIns v3 (x.list.take (k+1))):=by
              have e:x.list.take (k+1)=x.list.take k++[y]:=by rw [List.take_succ_eq_append_getElem hkl,Hy.out]
              show Own _ _ _ _ _ _ _;rw [e];exact hown3.setLow rIns_mono (by dsimp only;omega) _
             have hz5:w2.heap.size≤w3.heap.size:=Nat.le_trans (by simp) hgrow.size;subst hv3;clear hown3 hgrow hkk hlow hb3 hbx3 hkeep;go_wp2_with fail;go_roundw
             case rel=>exact⟨k+1,_,by omega,by go_num,by simp [World.setCell];omega,by have h:=Hbx3.out;(try simp only [List.length_take,Nat.min_eq_left hk] at h);exact h,by have h:=Hown3.out;(try simp only [List.length_take,Nat.min_eq_left hk] at h);exact h,by have h:=Hto3.out;(try simp only [List.length_take,Nat.min_eq_left hk] at h);exact h,by have h:=Hphi3.out;(try simp only [List.length_take,Nat.min_eq_left hk] at h);exact h⟩
             case measure=>simp [intOf];omega
       · obtain rfl:k=x.list.length:=by omega
         rw [List.take_length] at Hown2;obtain⟨po,pc2,hpv⟩:=hphi.shape;obtain⟨lo,lc2,hlv⟩:=Hown2.out.shape;subst hpv hlv;obtain⟨o0,o1,o2,o3,o4,o5⟩:=hbx.out.get6;obtain⟨r0,r1,r2,r3,r4,r5⟩:=hbx.res.get6;simp only [Nat.zero_add] at o1 o2 o3 o4 o5 r1 r2 r3 r4 r5;have y0:=hbx.resFree 0;have y1:=hbx.resFree 1;have y2:=hbx.resFree 2;have y3:=hbx.resFree 3;have y4:=hbx.resFree 4;have y5:=hbx.resFree 5;have hz10:w.heap.size+2<wr.heap.size:=cell_lt o0;clear hbx hown2 hto hphi;go_wp2_with fail;have hcells:=set6 (u0 := .slice po x.phis.length pc2) (u1 := .slice lo x.list.length lc2) (u2 := .int .i64 x.fin.kind) (u3 := .bool x.fin.on.reg) (u4 := .int .i64 x.fin.on.n) (u5 := .slice g9 x.fin.to.length cap9) Hbx2.out.res;obtain⟨h0,h1,h2,h3,h4,h5⟩:=hcells.get6;simp only [Nat.zero_add] at h1 h2 h3 h4 h5;obtain⟨W5,hW5⟩:∃W5,W5=((((((wr.setCell ⟨w.heap.size+1,0,none⟩ (.slice po x.phis.length pc2)).setCell ⟨w.heap.size+1,1,none⟩ (.slice lo x.list.length lc2)).setCell ⟨w.heap.size+1,2,none⟩ (.int .i64 x.fin.kind)).setCell ⟨w.heap.size+1,3,none⟩ (.bool x.fin.on.reg)).setCell ⟨w.heap.size+1,4,none⟩ (.int .i64 x.fin.on.n)).setCell ⟨w.heap.size+1,5,none⟩ (.slice g9 x.fin.to.length cap9)):=⟨_,rfl⟩
         rw [←hW5] at h0 h1 h2 h3 h4 h5 ⊢;have hle:w.heap.size≤w.heap.size+1:=Nat.le_succ _;have hbW5:Below w.heap.size w W5:=by
          rw [hW5];exact (((((Hbx2.out.below.setCell (p:=⟨w.heap.size+1,0,none⟩) hle _).setCell (p:=⟨w.heap.size+1,1,none⟩) hle _).setCell (p:=⟨w.heap.size+1,2,none⟩) hle _).setCell (p:=⟨w.heap.size+1,3,none⟩) hle _).setCell (p:=⟨w.heap.size+1,4,none⟩) hle _).setCell (p:=⟨w.heap.size+1,5,none⟩) hle _
         have hsW5:W5.heap.size=wr.heap.size:=by rw [hW5];simp [World.setCell]
         have hkW5:∀b,w.heap.size+2≤b→W5.heap[b]?=wr.heap[b]?:=fun b hb=>by
          rw [hW5]
          iterate 6 rw [Below.heap_setCell _ _ _ _ (by dsimp only;omega)]
         refine bodyPost_ret (v := .agg #[.slice po x.phis.length pc2,.slice lo x.list.length lc2,.int .i64 x.fin.kind,.bool x.fin.on.reg,.int .i64 x.fin.on.n,.slice g9 x.fin.to.length cap9]) ?_ rfl ⟨_,_,_,rfl,?_,hbW5⟩
         · simp [results,Tryz.results60,go_sem,h0,h1,h2,h3,h4,h5]
         · have z0:=Hs0.out
           refine⟨WT.heap.size,WA.heap.size,WA.heap.size,wr.heap.size,W0.heap.size,WT.heap.size,⟨by omega,by omega,by omega⟩,⟨by omega,by omega,by omega⟩,⟨by omega,by have:=HsT.out;have:=Hs1.out;omega,by omega⟩,.inl (by omega),.inr (by omega),.inr (by omega),?_,?_,?_⟩
           · exact Hphi2.out.kept rPhi_mono (fun b h1 h2=>hkW5 b (by omega))
           · exact Hown2.out.inn.kept rIns_mono (fun b h1 h2=>hkW5 b (by omega))
           · exact Hto2.out.kept rInt_mono (fun b h1 h2=>hkW5 b (by omega))

end Go.Proofs.YtnkogppgacappaaGreatDoor

namespace Go.Proofs.YtnkogppgacappaaGreatDoor
open Go.RowKit

structure FBox (wr wi:World)(y:DFunc)(v:Value)(l:List DBlock):Prop where
 below:Below wr.heap.size wr wi
 cells:CellsAt wi wr.heap.size 0 [.string y.name,.int .i64 y.params,.int .i64 y.regs,v]
 free:∀j,wi.frozen? ⟨wr.heap.size,j,none⟩=false
 own:Own (wr.heap.size+1) wi 76 6 rBlock v l
theorem FBox.next {wr wi w3:World}{y:DFunc}{v v3:Value}{l l3:List DBlock}(h:FBox wr wi y v l)(hown:Own (wr.heap.size+1) w3 76 6 rBlock v3 l3)(hb:Below wr.heap.size wr w3)(hk:w3.heap[wr.heap.size]?=wi.heap[wr.heap.size]?) :
 FBox wr (w3.setCell ⟨wr.heap.size,3,none⟩ v3) y v3 l3 :=
 ⟨hb.setCell (Nat.le_refl _) _,cells_set (cells_keep h.cells hk) (by simp) v3,fun j=>by simp;exact (World.frozen?_of_block (w:=wi) (a:=⟨wr.heap.size,j,none⟩) hk).trans (h.free j),hown.setLow rBlock_mono (by dsimp only;omega) _⟩
end Go.Proofs.YtnkogppgacappaaGreatDoor
