/- calls.CopyFunc: a function of the call's own memory. calls.Copy: a unit of the call's own memory. slices.Clone at each element type: a row of the call's own with the same cells. -/
import Derived.Test.YtnkogppgacappaaGreatDoorPBack
import Derived.Deep.RegionLaw
import Derived.Deep.RegionWith
namespace Go.Proofs.YtnkogppgacappaaGreatDoor
open Go.RowKit

theorem infoBlock:(Tryz.prog.info? 76).map (fun i=>(i.zero,i.size,i.bytes))=some (some (.agg #[.slice none 0 0,.slice none 0 0,.int .i64 0,.bool false,.int .i64 0,.slice none 0 0]),6,96):=by kernel_rfl

theorem BlockIn.rd {lo hi:Nat}{w:World}{pv lv tv:Value}{x:DBlock}(h:BlockIn lo hi w pv lv tv x){S:Nat→Prop}(hS:∀b,lo≤b→b<hi→S b)(h1:I64 x.fin.kind)(h2:I64 x.fin.on.n) :
 rBlock S w [pv,lv,.int .i64 x.fin.kind,.bool x.fin.on.reg,.int .i64 x.fin.on.n,tv] x:=by
 obtain⟨a1,b1,a2,b2,a3,b3,k1,k2,k3,-,-,-,p,l,t⟩:=h
 exact ⟨pv, lv, _, rfl, (p.toSl rPhi_mono (by decide)).mono rPhi_mono (fun b hb => hS b (Nat.le_trans k1.1 hb.1) (Nat.lt_of_lt_of_le hb.2 k1.2.2)) (Stays.refl _ _),
  (l.toSl rIns_mono (by decide)).mono rIns_mono (fun b hb => hS b (Nat.le_trans k2.1 hb.1) (Nat.lt_of_lt_of_le hb.2 k2.2.2)) (Stays.refl _ _),
  tv, rfl, (t.toSl rInt_mono (by decide)).mono rInt_mono (fun b hb => hS b (Nat.le_trans k3.1 hb.1) (Nat.lt_of_lt_of_le hb.2 k3.2.2)) (Stays.refl _ _), h1, h2⟩
theorem BlockIn.shape {lo hi:Nat}{w:World}{pv lv tv:Value}{x:DBlock}(h:BlockIn lo hi w pv lv tv x):(∃a c,pv = .slice a x.phis.length c)∧(∃a c,lv = .slice a x.list.length c)∧∃a c,tv = .slice a x.fin.to.length c:=by
 obtain⟨a1,b1,a2,b2,a3,b3,k1,k2,k3,-,-,-,p,l,t⟩:=h;exact⟨p.shape,l.shape,t.shape⟩

structure SmallB (x:DBlock):Prop where
 phis:x.phis.length≤1048576
 list:x.list.length≤1048576
 to:x.fin.to.length≤1048576
 src:∀p∈x.phis,p.src.length≤1048576
 args:∀i∈x.list,i.args.length≤1048576

theorem block_at {S:Nat→Prop}{w:World}{a:Option Addr}{n c:Nat}{l:List DBlock}(h:SlAt S w 6 rBlock (.slice a n c) l){k:Nat}(hk:k<l.length) :
 ∃b off pa pc la lc ta tc,a=some ⟨b,off,none⟩∧CellsAt w b (off+k * 6) [.slice pa l[k].phis.length pc,.slice la l[k].list.length lc,.int .i64 l[k].fin.kind,.bool l[k].fin.on.reg,.int .i64 l[k].fin.on.n,.slice ta l[k].fin.to.length tc] ∧
   SlAt S w 2 rPhi (.slice pa l[k].phis.length pc) l[k].phis∧SlAt S w 8 rIns (.slice la l[k].list.length lc) l[k].list∧SlAt S w 1 rInt (.slice ta l[k].fin.to.length tc) l[k].fin.to∧I64 l[k].fin.kind∧I64 l[k].fin.on.n:=by
 obtain⟨b,off,cs,ha,-,hr,-,hcs⟩:=h.get hk;obtain⟨pa,pc,la,lc,ta,tc,rfl,h1,h2,h3,-,-,-,h4,h5⟩:=hr.opens;exact⟨b,off,pa,pc,la,lc,ta,tc,ha,hcs,h1,h2,h3,h4,h5⟩

end Go.Proofs.YtnkogppgacappaaGreatDoor

namespace Go.Proofs.YtnkogppgacappaaGreatDoor
open Go.RowKit

theorem infoGlobal:(Tryz.prog.info? 48).map (fun i=>(i.zero,i.size,i.bytes))=some (some (.agg #[.string ⟨#[]⟩,.int .i64 0,.slice none 0 0]),3,48):=by kernel_rfl
theorem infoFunc:(Tryz.prog.info? 38).map (fun i=>(i.zero,i.size,i.bytes))=some (some (.agg #[.string ⟨#[]⟩,.int .i64 0,.int .i64 0,.slice none 0 0]),4,56):=by kernel_rfl

structure CPBox (w wr:World)(g f gv fv:Value):Prop where
 below:Below w.heap.size w wr
 par:CellsAt wr w.heap.size 0 [g,f]
 res:CellsAt wr (w.heap.size+1) 0 [.slice none 0 0,.slice none 0 0]
 resFree:∀j,wr.frozen? ⟨w.heap.size+1,j,none⟩=false
 out:CellsAt wr (w.heap.size+2) 0 [gv,fv]
 outFree:∀j,wr.frozen? ⟨w.heap.size+2,j,none⟩=false
theorem cells_keep {w w':World}{b o:Nat}{cs:List Value}(h:CellsAt w b o cs)(hk:w'.heap[b]?=w.heap[b]?):CellsAt w' b o cs:=fun j v hj=>by
 rw [World.cell?_of_block (w:=w) (a:=⟨b,o+j,none⟩) hk];exact h j v hj
theorem CPBox.keep {w wr w3:World}{g f gv fv:Value}(h:CPBox w wr g f gv fv)(hb:Below w.heap.size w w3)(hk:∀b,w.heap.size≤b→b<w.heap.size+3→w3.heap[b]?=wr.heap[b]?):CPBox w w3 g f gv fv :=
 ⟨hb, cells_keep h.par (hk _ (by omega) (by omega)), cells_keep h.res (hk _ (by omega) (by omega)), fun j => (World.frozen?_of_block (w := wr) (a := ⟨w.heap.size + 1, j, none⟩) (hk _ (by dsimp only; omega) (by dsimp only; omega))).trans (h.resFree j),
   cells_keep h.out (hk _ (by omega) (by omega)), fun j => (World.frozen?_of_block (w := wr) (a := ⟨w.heap.size + 2, j, none⟩) (hk _ (by dsimp only; omega) (by dsimp only; omega))).trans (h.outFree j)⟩
theorem CPBox.set0 {w wr:World}{g f gv fv:Value}(h:CPBox w wr g f gv fv)(u:Value):CPBox w (wr.setCell ⟨w.heap.size+2,0,none⟩ u) g f u fv:=by
 obtain⟨o0,o1⟩:=h.out.get2;have hk:∀b,b≠w.heap.size+2→(wr.setCell ⟨w.heap.size+2,0,none⟩ u).heap[b]?=wr.heap[b]?:=fun b hb=>Below.heap_setCell _ _ _ _ hb;refine⟨h.below.setCell (by dsimp only;omega) _,cells_keep h.par (hk _ (by omega)),cells_keep h.res (hk _ (by omega)),fun j=>(World.frozen?_of_block (w:=wr) (a:=⟨w.heap.size+1,j,none⟩) (hk _ (by dsimp only;omega))).trans (h.resFree j),?_,fun j=>by simp;exact h.outFree j⟩;exact .cons (by rw [cell_set o0,if_pos rfl]) (.cons (by rw [Nat.zero_add,cell_set o0,if_neg (by decide)];exact o1) (CellsAt.nil _ _ _))
theorem CPBox.set1 {w wr:World}{g f gv fv:Value}(h:CPBox w wr g f gv fv)(u:Value):CPBox w (wr.setCell ⟨w.heap.size+2,1,none⟩ u) g f gv u:=by
 obtain⟨o0,o1⟩:=h.out.get2;rw [Nat.zero_add] at o1;have hk:∀b,b≠w.heap.size+2→(wr.setCell ⟨w.heap.size+2,1,none⟩ u).heap[b]?=wr.heap[b]?:=fun b hb=>Below.heap_setCell _ _ _ _ hb;refine⟨h.below.setCell (by dsimp only;omega) _,cells_keep h.par (hk _ (by omega)),cells_keep h.res (hk _ (by omega)),fun j=>(World.frozen?_of_block (w:=wr) (a:=⟨w.heap.size+1,j,none⟩) (hk _ (by dsimp only;omega))).trans (h.resFree j),?_,fun j=>by simp;exact h.outFree j⟩;exact .cons (by rw [cell_set o1,if_neg (by decide)];exact o0) (.cons (by rw [Nat.zero_add,cell_set o1,if_pos rfl]) (CellsAt.nil _ _ _))
theorem global_at {S:Nat→Prop}{w:World}{a:Option Addr}{n c:Nat}{l:List DGlobal}(h:SlAt S w 3 rGlobal (.slice a n c) l){k:Nat}(hk:k<l.length) :
 ∃b off ia ic,a=some ⟨b,off,none⟩∧CellsAt w b (off+k * 3) [.string l[k].name,.int .i64 l[k].size,.slice ia l[k].init.length ic]∧SlAt S w 1 rInt (.slice ia l[k].init.length ic) l[k].init∧I64 l[k].size:=by
 obtain⟨b,off,cs,ha,-,hr,-,hcs⟩:=h.get hk;obtain⟨ia,ic,rfl,h1,-,h2⟩:=hr.opens;exact⟨b,off,ia,ic,ha,hcs,h1,h2⟩
theorem func_at {S:Nat→Prop}{w:World}{a:Option Addr}{n c:Nat}{l:List DFunc}(h:SlAt S w 4 rFunc (.slice a n c) l){k:Nat}(hk:k<l.length) :
 ∃b off xa xc,a=some ⟨b,off,none⟩∧CellsAt w b (off+k * 4) [.string l[k].name,.int .i64 l[k].params,.int .i64 l[k].regs,.slice xa l[k].blocks.length xc]∧SlAt S w 6 rBlock (.slice xa l[k].blocks.length xc) l[k].blocks∧I64 l[k].params∧I64 l[k].regs:=by
 obtain⟨b,off,cs,ha,-,hr,-,hcs⟩:=h.get hk;obtain⟨xa,xc,rfl,h1,-,h2,h3⟩:=hr.opens;exact⟨b,off,xa,xc,ha,hcs,h1,h2,h3⟩

structure SmallF (f:DFunc):Prop where
 blocks:f.blocks.length≤1048576
 each:∀x∈f.blocks,SmallB x

end Go.Proofs.YtnkogppgacappaaGreatDoor

namespace Go.Proofs.YtnkogppgacappaaGreatDoor
open Go.RowKit

theorem ownsRow_shape {W:World}{base sz n:Nat}{e:TypeId}{v:Value}{xs:List Value}(h:W.ownsRow base e sz v n xs):∃a c,v = .slice a n c:=by
 rcases h.2 with⟨h1,h2⟩ | ⟨g,cap,cur,e1,-⟩
 · exact⟨none,0,by rw [h1,h2]⟩
 · exact⟨_,_,e1⟩

set_option maxRecDepth 100000 in
set_option maxHeartbeats 1000000 in
theorem cloneInt_row(a:Option Addr)(n c:Nat)(cs:List Value)(w:World)(hl:cs.length=n * 1)(hnil:a=none→n=0)(hc:∀b,a=some b→∀(j:Nat) u,cs[j]?=some u→w.cell? (b.add j)=some u)(h1:∀u∈cs,u.oneCell'=true)(hn:n≤1048576) :
 Calls Tryz.prog 65 #[.slice a n c] w fun e w'=>∃va vc,e = .returned (.slice va n vc)∧w'.ownsRow w.heap.size 3 1 (.slice va n vc) n cs∧Below w.heap.size w w':=by
 have Hl:=hid hl;have Hc:=hid hc;have H1:=hid h1;have Hnil:=hid hnil;clear hl hc h1 hnil;have hnil:=fun (w:World) (a:Option Addr) (n c n' c':Nat)=>Lib.run_eql_slice_nil (P:=Tryz.prog) w 33 3 a n c n' c' Tryz.underlying33;obtain⟨i0,hi,hz0,hz1,hz2⟩:=info_parts infoInt';cases a with
 | none =>
   obtain rfl:=Hnil.out rfl;go_enter Tryz.func65,Tryz.ntmps65;go_wp2;go_ret;have h0:cs=[]:=List.eq_nil_of_length_eq_zero (by have:=Hl.out;omega);subst h0;exact⟨_,_,rfl,World.ownsRow_nil _ _ _ _,Below.refl _ _⟩
 | some ad =>
   go_enter Tryz.func65,Tryz.ntmps65;go_wp2_with (at_builtin;refine wpList_append_own_at _ rfl _ _ 33 rfl w.heap.size 3 i0 (.int .i64 0) 1 8 Tryz.underlying33 hi hz0 hz1 hz2 rfl (by decide) (.slice (some ⟨w.heap.size,0,none⟩) 0 0) 0 [] rfl (World.ownsRow_made w #[] 0 (Nat.le_refl _) (by decide) rfl) ad n c cs rfl ?_ ?_ ?_ ?_ ?_ ?_ ?_)
   · exact Hl.out
   · intro j u hj
     rw [World.cell?_alloc_lt _ _ _ (cell_blk (Hc.out ad rfl j u hj))];exact Hc.out ad rfl j u hj
   · exact H1.out
   · unfold maxLen;omega
   · omega
   · simp
   · intro v' w1 hown hgrow _ _
     have hown2:w1.ownsRow w.heap.size 3 1 v' n cs:=by simpa using hown
     obtain⟨va,vc,rfl⟩:=ownsRow_shape hown2;have Hown:=hid hown2;have Hgrow:=hid hgrow;clear hown hgrow hown2;go_wp2;go_ret;exact⟨_,_,rfl,Hown.out,((Below.refl _ _).alloc (Nat.le_refl _) _).grown Hgrow.out (by simp) (fun k hk=>by cases hk;exact Nat.le_refl _)⟩

set_option maxRecDepth 100000 in
set_option maxHeartbeats 1000000 in
theorem cloneVal_row(a:Option Addr)(n c:Nat)(cs:List Value)(w:World)(hl:cs.length=n * 2)(hnil:a=none→n=0)(hc:∀b,a=some b→∀(j:Nat) u,cs[j]?=some u→w.cell? (b.add j)=some u)(h1:∀u∈cs,u.oneCell'=true)(hn:n≤1048576) :
 Calls Tryz.prog 104 #[.slice a n c] w fun e w'=>∃va vc,e = .returned (.slice va n vc)∧w'.ownsRow w.heap.size 72 2 (.slice va n vc) n cs∧Below w.heap.size w w':=by
 have Hl:=hid hl;have Hc:=hid hc;have H1:=hid h1;have Hnil:=hid hnil;clear hl hc h1 hnil;have hnil:=fun (w:World) (a:Option Addr) (n c n' c':Nat)=>Lib.run_eql_slice_nil (P:=Tryz.prog) w 78 72 a n c n' c' Tryz.underlying78;obtain⟨i0,hi,hz0,hz1,hz2⟩:=info_parts infoVal;cases a with
 | none =>
   obtain rfl:=Hnil.out rfl;go_enter Tryz.func104,Tryz.ntmps104;go_wp2;go_ret;have h0:cs=[]:=List.eq_nil_of_length_eq_zero (by have:=Hl.out;omega);subst h0;exact⟨_,_,rfl,World.ownsRow_nil _ _ _ _,Below.refl _ _⟩
 | some ad =>
   go_enter Tryz.func104,Tryz.ntmps104;go_wp2_with (at_builtin;refine wpList_append_own_at _ rfl _ _ 78 rfl w.heap.size 72 i0 (.agg #[.bool false,.int .i64 0]) 2 16 Tryz.underlying78 hi hz0 hz1 hz2 rfl (by decide) (.slice (some ⟨w.heap.size,0,none⟩) 0 0) 0 [] rfl (World.ownsRow_made w #[] 0 (Nat.le_refl _) (by decide) rfl) ad n c cs rfl ?_ ?_ ?_ ?_ ?_ ?_ ?_)
   · exact Hl.out
   · intro j u hj
     rw [World.cell?_alloc_lt _ _ _ (cell_blk (Hc.out ad rfl j u hj))];exact Hc.out ad rfl j u hj
   · exact H1.out
   · unfold maxLen;omega
   · omega
   · simp
   · intro v' w1 hown hgrow _ _
     have hown2:w1.ownsRow w.heap.size 72 2 v' n cs:=by simpa using hown
     obtain⟨va,vc,rfl⟩:=ownsRow_shape hown2;have Hown:=hid hown2;have Hgrow:=hid hgrow;clear hown hgrow hown2;go_wp2;go_ret;exact⟨_,_,rfl,Hown.out,((Below.refl _ _).alloc (Nat.le_refl _) _).grown Hgrow.out (by simp) (fun k hk=>by cases hk;exact Nat.le_refl _)⟩

set_option maxRecDepth 100000 in
set_option maxHeartbeats 1000000 in
theorem clonePhi_row(a:Option Addr)(n c:Nat)(cs:List Value)(w:World)(hl:cs.length=n * 2)(hnil:a=none→n=0)(hc:∀b,a=some b→∀(j:Nat) u,cs[j]?=some u→w.cell? (b.add j)=some u)(h1:∀u∈cs,u.oneCell'=true)(hn:n≤1048576) :
 Calls Tryz.prog 103 #[.slice a n c] w fun e w'=>∃va vc,e = .returned (.slice va n vc)∧w'.ownsRow w.heap.size 94 2 (.slice va n vc) n cs∧Below w.heap.size w w':=by
 have Hl:=hid hl;have Hc:=hid hc;have H1:=hid h1;have Hnil:=hid hnil;clear hl hc h1 hnil;have hnil:=fun (w:World) (a:Option Addr) (n c n' c':Nat)=>Lib.run_eql_slice_nil (P:=Tryz.prog) w 69 94 a n c n' c' Tryz.underlying69;obtain⟨i0,hi,hz0,hz1,hz2⟩:=info_parts infoPhi;cases a with
 | none =>
   obtain rfl:=Hnil.out rfl;go_enter Tryz.func103,Tryz.ntmps103;go_wp2;go_ret;have h0:cs=[]:=List.eq_nil_of_length_eq_zero (by have:=Hl.out;omega);subst h0;exact⟨_,_,rfl,World.ownsRow_nil _ _ _ _,Below.refl _ _⟩
 | some ad =>
   go_enter Tryz.func103,Tryz.ntmps103;go_wp2_with (at_builtin;refine wpList_append_own_at _ rfl _ _ 69 rfl w.heap.size 94 i0 (.agg #[.int .i64 0,.slice none 0 0]) 2 32 Tryz.underlying69 hi hz0 hz1 hz2 rfl (by decide) (.slice (some ⟨w.heap.size,0,none⟩) 0 0) 0 [] rfl (World.ownsRow_made w #[] 0 (Nat.le_refl _) (by decide) rfl) ad n c cs rfl ?_ ?_ ?_ ?_ ?_ ?_ ?_)
   · exact Hl.out
   · intro j u hj
     rw [World.cell?_alloc_lt _ _ _ (cell_blk (Hc.out ad rfl j u hj))];exact Hc.out ad rfl j u hj
   · exact H1.out
   · unfold maxLen;omega
   · omega
   · simp
   · intro v' w1 hown hgrow _ _
     have hown2:w1.ownsRow w.heap.size 94 2 v' n cs:=by simpa using hown
     obtain⟨va,vc,rfl⟩:=ownsRow_shape hown2;have Hown:=hid hown2;have Hgrow:=hid hgrow;clear hown hgrow hown2;go_wp2;go_ret;exact⟨_,_,rfl,Hown.out,((Below.refl _ _).alloc (Nat.le_refl _) _).grown Hgrow.out (by simp) (fun k hk=>by cases hk;exact Nat.le_refl _)⟩

set_option maxRecDepth 100000 in
set_option maxHeartbeats 1000000 in
theorem cloneIns_row(a:Option Addr)(n c:Nat)(cs:List Value)(w:World)(hl:cs.length=n * 8)(hnil:a=none→n=0)(hc:∀b,a=some b→∀(j:Nat) u,cs[j]?=some u→w.cell? (b.add j)=some u)(h1:∀u∈cs,u.oneCell'=true)(hn:n≤1048576) :
 Calls Tryz.prog 105 #[.slice a n c] w fun e w'=>∃va vc,e = .returned (.slice va n vc)∧w'.ownsRow w.heap.size 80 8 (.slice va n vc) n cs∧Below w.heap.size w w':=by
 have Hl:=hid hl;have Hc:=hid hc;have H1:=hid h1;have Hnil:=hid hnil;clear hl hc h1 hnil;have hnil:=fun (w:World) (a:Option Addr) (n c n' c':Nat)=>Lib.run_eql_slice_nil (P:=Tryz.prog) w 70 80 a n c n' c' Tryz.underlying70;obtain⟨i0,hi,hz0,hz1,hz2⟩:=info_parts infoIns;cases a with
 | none =>
   obtain rfl:=Hnil.out rfl;go_enter Tryz.func105,Tryz.ntmps105;go_wp2;go_ret;have h0:cs=[]:=List.eq_nil_of_length_eq_zero (by have:=Hl.out;omega);subst h0;exact⟨_,_,rfl,World.ownsRow_nil _ _ _ _,Below.refl _ _⟩
 | some ad =>
   go_enter Tryz.func105,Tryz.ntmps105;go_wp2_with (at_builtin;refine wpList_append_own_at _ rfl _ _ 70 rfl w.heap.size 80 i0 (.agg #[.int .i64 0,.int .i64 0,.bool false,.int .i64 0,.bool false,.int .i64 0,.int .i64 0,.slice none 0 0]) 8 80 Tryz.underlying70 hi hz0 hz1 hz2 rfl (by decide) (.slice (some ⟨w.heap.size,0,none⟩) 0 0) 0 [] rfl (World.ownsRow_made w #[] 0 (Nat.le_refl _) (by decide) rfl) ad n c cs rfl ?_ ?_ ?_ ?_ ?_ ?_ ?_)
   · exact Hl.out
   · intro j u hj
     rw [World.cell?_alloc_lt _ _ _ (cell_blk (Hc.out ad rfl j u hj))];exact Hc.out ad rfl j u hj
   · exact H1.out
   · unfold maxLen;omega
   · omega
   · simp
   · intro v' w1 hown hgrow _ _
     have hown2:w1.ownsRow w.heap.size 80 8 v' n cs:=by simpa using hown
     obtain⟨va,vc,rfl⟩:=ownsRow_shape hown2;have Hown:=hid hown2;have Hgrow:=hid hgrow;clear hown hgrow hown2;go_wp2;go_ret;exact⟨_,_,rfl,Hown.out,((Below.refl _ _).alloc (Nat.le_refl _) _).grown Hgrow.out (by simp) (fun k hk=>by cases hk;exact Nat.le_refl _)⟩

set_option maxRecDepth 100000 in
set_option maxHeartbeats 1000000 in
theorem cloneBlk_row(a:Option Addr)(n c:Nat)(cs:List Value)(w:World)(hl:cs.length=n * 6)(hnil:a=none→n=0)(hc:∀b,a=some b→∀(j:Nat) u,cs[j]?=some u→w.cell? (b.add j)=some u)(h1:∀u∈cs,u.oneCell'=true)(hn:n≤1048576) :
 Calls Tryz.prog 102 #[.slice a n c] w fun e w'=>∃va vc,e = .returned (.slice va n vc)∧w'.ownsRow w.heap.size 76 6 (.slice va n vc) n cs∧Below w.heap.size w w':=by
 have Hl:=hid hl;have Hc:=hid hc;have H1:=hid h1;have Hnil:=hid hnil;clear hl hc h1 hnil;have hnil:=fun (w:World) (a:Option Addr) (n c n' c':Nat)=>Lib.run_eql_slice_nil (P:=Tryz.prog) w 36 76 a n c n' c' Tryz.underlying36;obtain⟨i0,hi,hz0,hz1,hz2⟩:=info_parts infoBlock;cases a with
 | none =>
   obtain rfl:=Hnil.out rfl;go_enter Tryz.func102,Tryz.ntmps102;go_wp2;go_ret;have h0:cs=[]:=List.eq_nil_of_length_eq_zero (by have:=Hl.out;omega);subst h0;exact⟨_,_,rfl,World.ownsRow_nil _ _ _ _,Below.refl _ _⟩
 | some ad =>
   go_enter Tryz.func102,Tryz.ntmps102;go_wp2_with (at_builtin;refine wpList_append_own_at _ rfl _ _ 36 rfl w.heap.size 76 i0 (.agg #[.slice none 0 0,.slice none 0 0,.int .i64 0,.bool false,.int .i64 0,.slice none 0 0]) 6 96 Tryz.underlying36 hi hz0 hz1 hz2 rfl (by decide) (.slice (some ⟨w.heap.size,0,none⟩) 0 0) 0 [] rfl (World.ownsRow_made w #[] 0 (Nat.le_refl _) (by decide) rfl) ad n c cs rfl ?_ ?_ ?_ ?_ ?_ ?_ ?_)
   · exact Hl.out
   · intro j u hj
     rw [World.cell?_alloc_lt _ _ _ (cell_blk (Hc.out ad rfl j u hj))];exact Hc.out ad rfl j u hj
   · exact H1.out
   · unfold maxLen;omega
   · omega
   · simp
   · intro v' w1 hown hgrow _ _
     have hown2:w1.ownsRow w.heap.size 76 6 v' n cs:=by simpa using hown
     obtain⟨va,vc,rfl⟩:=ownsRow_shape hown2;have Hown:=hid hown2;have Hgrow:=hid hgrow;clear hown hgrow hown2;go_wp2;go_ret;exact⟨_,_,rfl,Hown.out,((Below.refl _ _).alloc (Nat.le_refl _) _).grown Hgrow.out (by simp) (fun k hk=>by cases hk;exact Nat.le_refl _)⟩

set_option maxRecDepth 100000 in
set_option maxHeartbeats 1000000 in
theorem cloneFun_row(a:Option Addr)(n c:Nat)(cs:List Value)(w:World)(hl:cs.length=n * 4)(hnil:a=none→n=0)(hc:∀b,a=some b→∀(j:Nat) u,cs[j]?=some u→w.cell? (b.add j)=some u)(h1:∀u∈cs,u.oneCell'=true)(hn:n≤1048576) :
 Calls Tryz.prog 69 #[.slice a n c] w fun e w'=>∃va vc,e = .returned (.slice va n vc)∧w'.ownsRow w.heap.size 38 4 (.slice va n vc) n cs∧Below w.heap.size w w':=by
 have Hl:=hid hl;have Hc:=hid hc;have H1:=hid h1;have Hnil:=hid hnil;clear hl hc h1 hnil;have hnil:=fun (w:World) (a:Option Addr) (n c n' c':Nat)=>Lib.run_eql_slice_nil (P:=Tryz.prog) w 23 38 a n c n' c' Tryz.underlying23;obtain⟨i0,hi,hz0,hz1,hz2⟩:=info_parts infoFunc;cases a with
 | none =>
   obtain rfl:=Hnil.out rfl;go_enter Tryz.func69,Tryz.ntmps69;go_wp2;go_ret;have h0:cs=[]:=List.eq_nil_of_length_eq_zero (by have:=Hl.out;omega);subst h0;exact⟨_,_,rfl,World.ownsRow_nil _ _ _ _,Below.refl _ _⟩
 | some ad =>
   go_enter Tryz.func69,Tryz.ntmps69;go_wp2_with (at_builtin;refine wpList_append_own_at _ rfl _ _ 23 rfl w.heap.size 38 i0 (.agg #[.string ⟨#[]⟩,.int .i64 0,.int .i64 0,.slice none 0 0]) 4 56 Tryz.underlying23 hi hz0 hz1 hz2 rfl (by decide) (.slice (some ⟨w.heap.size,0,none⟩) 0 0) 0 [] rfl (World.ownsRow_made w #[] 0 (Nat.le_refl _) (by decide) rfl) ad n c cs rfl ?_ ?_ ?_ ?_ ?_ ?_ ?_)
   · exact Hl.out
   · intro j u hj
     rw [World.cell?_alloc_lt _ _ _ (cell_blk (Hc.out ad rfl j u hj))];exact Hc.out ad rfl j u hj
   · exact H1.out
   · unfold maxLen;omega
   · omega
   · simp
   · intro v' w1 hown hgrow _ _
     have hown2:w1.ownsRow w.heap.size 38 4 v' n cs:=by simpa using hown
     obtain⟨va,vc,rfl⟩:=ownsRow_shape hown2;have Hown:=hid hown2;have Hgrow:=hid hgrow;clear hown hgrow hown2;go_wp2;go_ret;exact⟨_,_,rfl,Hown.out,((Below.refl _ _).alloc (Nat.le_refl _) _).grown Hgrow.out (by simp) (fun k hk=>by cases hk;exact Nat.le_refl _)⟩

set_option maxRecDepth 100000 in
set_option maxHeartbeats 1000000 in
theorem cloneGlo_row(a:Option Addr)(n c:Nat)(cs:List Value)(w:World)(hl:cs.length=n * 3)(hnil:a=none→n=0)(hc:∀b,a=some b→∀(j:Nat) u,cs[j]?=some u→w.cell? (b.add j)=some u)(h1:∀u∈cs,u.oneCell'=true)(hn:n≤1048576) :
 Calls Tryz.prog 68 #[.slice a n c] w fun e w'=>∃va vc,e = .returned (.slice va n vc)∧w'.ownsRow w.heap.size 48 3 (.slice va n vc) n cs∧Below w.heap.size w w':=by
 have Hl:=hid hl;have Hc:=hid hc;have H1:=hid h1;have Hnil:=hid hnil;clear hl hc h1 hnil;have hnil:=fun (w:World) (a:Option Addr) (n c n' c':Nat)=>Lib.run_eql_slice_nil (P:=Tryz.prog) w 22 48 a n c n' c' Tryz.underlying22;obtain⟨i0,hi,hz0,hz1,hz2⟩:=info_parts infoGlobal;cases a with
 | none =>
   obtain rfl:=Hnil.out rfl;go_enter Tryz.func68,Tryz.ntmps68;go_wp2;go_ret;have h0:cs=[]:=List.eq_nil_of_length_eq_zero (by have:=Hl.out;omega);subst h0;exact⟨_,_,rfl,World.ownsRow_nil _ _ _ _,Below.refl _ _⟩
 | some ad =>
   go_enter Tryz.func68,Tryz.ntmps68;go_wp2_with (at_builtin;refine wpList_append_own_at _ rfl _ _ 22 rfl w.heap.size 48 i0 (.agg #[.string ⟨#[]⟩,.int .i64 0,.slice none 0 0]) 3 48 Tryz.underlying22 hi hz0 hz1 hz2 rfl (by decide) (.slice (some ⟨w.heap.size,0,none⟩) 0 0) 0 [] rfl (World.ownsRow_made w #[] 0 (Nat.le_refl _) (by decide) rfl) ad n c cs rfl ?_ ?_ ?_ ?_ ?_ ?_ ?_)
   · exact Hl.out
   · intro j u hj
     rw [World.cell?_alloc_lt _ _ _ (cell_blk (Hc.out ad rfl j u hj))];exact Hc.out ad rfl j u hj
   · exact H1.out
   · unfold maxLen;omega
   · omega
   · simp
   · intro v' w1 hown hgrow _ _
     have hown2:w1.ownsRow w.heap.size 48 3 v' n cs:=by simpa using hown
     obtain⟨va,vc,rfl⟩:=ownsRow_shape hown2;have Hown:=hid hown2;have Hgrow:=hid hgrow;clear hown hgrow hown2;go_wp2;go_ret;exact⟨_,_,rfl,Hown.out,((Below.refl _ _).alloc (Nat.le_refl _) _).grown Hgrow.out (by simp) (fun k hk=>by cases hk;exact Nat.le_refl _)⟩

end Go.Proofs.YtnkogppgacappaaGreatDoor
