import Derived.Test.YtpeejlpcikefcaaGreatDoorPBack
import Derived.Deep.RegionLaw
/- calls.CopyFunc: a function of the call's own memory. calls.Copy: a unit of the call's own memory. slices.Clone at each element type: a row of the call's own with the same cells. -/
set_option maxHeartbeats 1000000
set_option maxRecDepth 100000
namespace Go.Proofs.YtpeejlpcikefcaaGreatDoor
section
open Go.RowKit
theorem ahy:(Tryz.prog.info? 46).map (fun i=>(i.zero,i.size,i.bytes))=some (some (.agg #[.slice none 0 0,.slice none 0 0,.int .i64 0,.bool false,.int .i64 0,.slice none 0 0]),6,96):=by kernel_rfl
structure akb (x:DBlock):Prop where
 phis:x.phis.length<=1048576
 list:x.list.length<=1048576
 to:x.fin.to.length<=1048576
 src:∀p∈x.phis,p.src.length<=1048576
 args:∀i∈x.list,i.args.length<=1048576
theorem amg {S:Nat->Prop}{w:World}{a:Option Addr}{n c:Nat}{l:List DBlock}(h:SlAt S w 6 aa0 (.slice a n c) l){k:Nat}(hk:k<l.length) :
 ∃b off pa pc la lc ta tc,a=some ⟨b,off,none⟩∧aal w b (off+k * 6) [.slice pa l[k].phis.length pc,.slice la l[k].list.length lc,.int .i64 l[k].fin.kind,.bool l[k].fin.on.reg,.int .i64 l[k].fin.on.n,.slice ta l[k].fin.to.length tc] ∧
   SlAt S w 2 amd (.slice pa l[k].phis.length pc) l[k].phis∧SlAt S w 8 acb (.slice la l[k].list.length lc) l[k].list∧SlAt S w 1 acx (.slice ta l[k].fin.to.length tc) l[k].fin.to∧I64 l[k].fin.kind∧I64 l[k].fin.on.n:=by
 obtain⟨b,off,cs,ha,-,hr,-,aq⟩:=h.get hk;obtain⟨pa,pc,la,lc,ta,tc,rfl,h1,h2,h3,-,-,-,h4,h5⟩:=hr.opens;exact⟨b,off,pa,pc,la,lc,ta,tc,ha,aq,h1,h2,h3,h4,h5⟩
end
section
open Go.RowKit
theorem aiO:(Tryz.prog.info? 52).map (fun i=>(i.zero,i.size,i.bytes))=some (some (.agg #[.string ⟨#[]⟩,.int .i64 0,.slice none 0 0]),3,48):=by kernel_rfl
theorem amh:(Tryz.prog.info? 37).map (fun i=>(i.zero,i.size,i.bytes))=some (some (.agg #[.string ⟨#[]⟩,.int .i64 0,.int .i64 0,.slice none 0 0]),4,56):=by kernel_rfl
structure agQ (w wr:World)(g f gv fv:Value):Prop where
 below:Below w.heap.size w wr
 par:aal wr w.heap.size 0 [g,f]
 res:aal wr (w.heap.size+1) 0 [.slice none 0 0,.slice none 0 0]
 resFree:∀j,wr.frozen? ⟨w.heap.size+1,j,none⟩=false
 out:aal wr (w.heap.size+2) 0 [gv,fv]
 outFree:∀j,wr.frozen? ⟨w.heap.size+2,j,none⟩=false
variable {w:World}
theorem acy{w':World}{b o:Nat}{cs:List Value}(h:aal w b o cs)(hk:w'.heap[b]?=w.heap[b]?):aal w' b o cs:=fun j v hj=>by
 rw [World.cell?_of_block (w:=w) (a:=⟨b,o+j,none⟩) hk];exact h j v hj
variable {wr:World}{g f gv fv:Value}
theorem agQ.keep{w3:World}(h:agQ w wr g f gv fv)(hb:Below w.heap.size w w3)(hk:∀b,w.heap.size<=b->b<w.heap.size+3->w3.heap[b]?=wr.heap[b]?):agQ w w3 g f gv fv :=
 ⟨hb, acy h.par (hk _ (by omega) (by omega)), acy h.res (hk _ (by omega) (by omega)), fun j => (World.frozen?_of_block (w := wr) (a := ⟨w.heap.size + 1, j, none⟩) (hk _ (by dsimp only; omega) (by dsimp only; omega))).trans (h.resFree j),
   acy h.out (hk _ (by omega) (by omega)), fun j => (World.frozen?_of_block (w := wr) (a := ⟨w.heap.size + 2, j, none⟩) (hk _ (by dsimp only; omega) (by dsimp only; omega))).trans (h.outFree j)⟩
theorem agQ.set0(h:agQ w wr g f gv fv)(u:Value):agQ w (wr.setCell ⟨w.heap.size+2,0,none⟩ u) g f u fv:=by
 obtain⟨o0,o1⟩:=h.out.get2;have hk:∀b,b≠w.heap.size+2->(wr.setCell ⟨w.heap.size+2,0,none⟩ u).heap[b]?=wr.heap[b]?:=fun b hb=>Below.heap_setCell _ _ _ _ hb;refine⟨h.below.setCell (by dsimp only;omega) _,acy h.par (hk _ (by omega)),acy h.res (hk _ (by omega)),fun j=>(World.frozen?_of_block (w:=wr) (a:=⟨w.heap.size+1,j,none⟩) (hk _ (by dsimp only;omega))).trans (h.resFree j),?_,fun j=>by simp;exact h.outFree j⟩;exact .cons (by rw [aaE o0,if_pos rfl]) (.cons (by rw [Aab,aaE o0,if_neg (by decide)];exact o1) (aal.nil _ _ _))
theorem agQ.set1(h:agQ w wr g f gv fv)(u:Value):agQ w (wr.setCell ⟨w.heap.size+2,1,none⟩ u) g f gv u:=by
 obtain⟨o0,o1⟩:=h.out.get2;rw [Aab] at o1;have hk:∀b,b≠w.heap.size+2->(wr.setCell ⟨w.heap.size+2,1,none⟩ u).heap[b]?=wr.heap[b]?:=fun b hb=>Below.heap_setCell _ _ _ _ hb;refine⟨h.below.setCell (by dsimp only;omega) _,acy h.par (hk _ (by omega)),acy h.res (hk _ (by omega)),fun j=>(World.frozen?_of_block (w:=wr) (a:=⟨w.heap.size+1,j,none⟩) (hk _ (by dsimp only;omega))).trans (h.resFree j),?_,fun j=>by simp;exact h.outFree j⟩;exact .cons (by rw [aaE o1,if_neg (by decide)];exact o0) (.cons (by rw [Aab,aaE o1,if_pos rfl]) (aal.nil _ _ _))
theorem ahz{S:Nat->Prop}{a:Option Addr}{n c:Nat}{l:List aaF}(h:SlAt S w 3 aaO (.slice a n c) l){k:Nat}(hk:k<l.length) :
 ∃b off ia ic,a=some ⟨b,off,none⟩∧aal w b (off+k * 3) [.string l[k].name,.int .i64 l[k].size,.slice ia l[k].init.length ic]∧SlAt S w 1 acx (.slice ia l[k].init.length ic) l[k].init∧I64 l[k].size:=by
 obtain⟨b,off,cs,ha,-,hr,-,aq⟩:=h.get hk;obtain⟨ia,ic,rfl,h1,-,h2⟩:=hr.opens;exact⟨b,off,ia,ic,ha,aq,h1,h2⟩
theorem alr{S:Nat->Prop}{a:Option Addr}{n c:Nat}{l:List aaz}(h:SlAt S w 4 abD (.slice a n c) l){k:Nat}(hk:k<l.length) :
 ∃b off xa xc,a=some ⟨b,off,none⟩∧aal w b (off+k * 4) [.string l[k].name,.int .i64 l[k].params,.int .i64 l[k].regs,.slice xa l[k].blocks.length xc]∧SlAt S w 6 aa0 (.slice xa l[k].blocks.length xc) l[k].blocks∧I64 l[k].params∧I64 l[k].regs:=by
 obtain⟨b,off,cs,ha,-,hr,-,aq⟩:=h.get hk;obtain⟨xa,xc,rfl,h1,-,h2,h3⟩:=hr.opens;exact⟨b,off,xa,xc,ha,aq,h1,h2,h3⟩
structure arE (f:aaz):Prop where
 blocks:f.blocks.length<=1048576
 each:∀x∈f.blocks,akb x
end
section
open Go.RowKit
theorem aao {W:World}{base sz n:Nat}{e:TypeId}{v:Value}{xs:List Value}(h:W.ownsRow base e sz v n xs):∃a c,v = .slice a n c:=by
 rcases h.2 with⟨h1,h2⟩ | ⟨g,cap,cur,e1,-⟩
 . exact⟨none,0,by rw [h1,h2]⟩
 . exact⟨_,_,e1⟩
theorem agz(a:Option Addr)(n c:Nat)(cs:List Value)(w:World)(hl:cs.length=n * 1)(ag:a=none->n=0)(hc:∀b,a=some b->∀(j:Nat) u,cs[j]?=some u->w.cell? (b.add j)=some u)(h1:∀u∈cs,u.oneCell'=true)(hn:n<=1048576) :
 Calls Tryz.prog 28 #[.slice a n c] w fun e w'=>∃va vc,e = .returned (.slice va n vc)∧w'.ownsRow w.heap.size 3 1 (.slice va n vc) n cs∧Below w.heap.size w w':=by
 have Hl:=hid hl;have Hc:=hid hc;have H1:=hid h1;have ak:=hid ag;clear hl hc h1 ag;have ag:=fun (w:World) (a:Option Addr) (n c n' c':Nat)=>Lib.run_eql_slice_nil (P:=Tryz.prog) w 42 3 a n c n' c' Tryz.underlying42;obtain⟨i0,hi,an,al,ao⟩:=info_parts ajl;cases a with
 | none =>
   obtain rfl:=ak.out rfl;go_enter Tryz.func28,Tryz.ntmps28;go_wp2;go_ret;have h0:cs=[]:=Aa9 (by have:=Hl.out;omega);subst h0;exact⟨_,_,rfl,World.ownsRow_nil _ _ _ _,Below.refl _ _⟩
 | some ad =>
   go_enter Tryz.func28,Tryz.ntmps28;go_wp2_with (at_builtin;refine wpList_append_own_at _ rfl _ _ 42 rfl w.heap.size 3 i0 (.int .i64 0) 1 8 Tryz.underlying42 hi an al ao rfl (by decide) (.slice (some ⟨w.heap.size,0,none⟩) 0 0) 0 [] rfl (World.ownsRow_made w #[] 0 (Aac _) (by decide) rfl) ad n c cs rfl ?_ ?_ ?_ ?_ ?_ ?_ ?_)
   . exact Hl.out
   . intro j u hj
     rw [World.cell?_alloc_lt _ _ _ (abv (Hc.out ad rfl j u hj))];exact Hc.out ad rfl j u hj
   . exact H1.out
   . unfold maxLen;omega
   . omega
   . simp
   . intro v' w1 ai af _ _
     have ae:w1.ownsRow w.heap.size 3 1 v' n cs:=by simpa using ai
     obtain⟨va,vc,rfl⟩:=aao ae;have aj:=hid ae;have ah:=hid af;clear ai af ae;go_wp2;go_ret;exact⟨_,_,rfl,aj.out,((Below.refl _ _).alloc (Aac _) _).grown ah.out (by simp) (fun k hk=>by cases hk;exact Aac _)⟩
theorem akc(a:Option Addr)(n c:Nat)(cs:List Value)(w:World)(hl:cs.length=n * 2)(ag:a=none->n=0)(hc:∀b,a=some b->∀(j:Nat) u,cs[j]?=some u->w.cell? (b.add j)=some u)(h1:∀u∈cs,u.oneCell'=true)(hn:n<=1048576) :
 Calls Tryz.prog 84 #[.slice a n c] w fun e w'=>∃va vc,e = .returned (.slice va n vc)∧w'.ownsRow w.heap.size 41 2 (.slice va n vc) n cs∧Below w.heap.size w w':=by
 have Hl:=hid hl;have Hc:=hid hc;have H1:=hid h1;have ak:=hid ag;clear hl hc h1 ag;have ag:=fun (w:World) (a:Option Addr) (n c n' c':Nat)=>Lib.run_eql_slice_nil (P:=Tryz.prog) w 47 41 a n c n' c' Tryz.underlying47;obtain⟨i0,hi,an,al,ao⟩:=info_parts ahq;cases a with
 | none =>
   obtain rfl:=ak.out rfl;go_enter Tryz.func84,Tryz.ntmps84;go_wp2;go_ret;have h0:cs=[]:=Aa9 (by have:=Hl.out;omega);subst h0;exact⟨_,_,rfl,World.ownsRow_nil _ _ _ _,Below.refl _ _⟩
 | some ad =>
   go_enter Tryz.func84,Tryz.ntmps84;go_wp2_with (at_builtin;refine wpList_append_own_at _ rfl _ _ 47 rfl w.heap.size 41 i0 (.agg #[.bool false,.int .i64 0]) 2 16 Tryz.underlying47 hi an al ao rfl (by decide) (.slice (some ⟨w.heap.size,0,none⟩) 0 0) 0 [] rfl (World.ownsRow_made w #[] 0 (Aac _) (by decide) rfl) ad n c cs rfl ?_ ?_ ?_ ?_ ?_ ?_ ?_)
   . exact Hl.out
   . intro j u hj
     rw [World.cell?_alloc_lt _ _ _ (abv (Hc.out ad rfl j u hj))];exact Hc.out ad rfl j u hj
   . exact H1.out
   . unfold maxLen;omega
   . omega
   . simp
   . intro v' w1 ai af _ _
     have ae:w1.ownsRow w.heap.size 41 2 v' n cs:=by simpa using ai
     obtain⟨va,vc,rfl⟩:=aao ae;have aj:=hid ae;have ah:=hid af;clear ai af ae;go_wp2;go_ret;exact⟨_,_,rfl,aj.out,((Below.refl _ _).alloc (Aac _) _).grown ah.out (by simp) (fun k hk=>by cases hk;exact Aac _)⟩
theorem akd(a:Option Addr)(n c:Nat)(cs:List Value)(w:World)(hl:cs.length=n * 2)(ag:a=none->n=0)(hc:∀b,a=some b->∀(j:Nat) u,cs[j]?=some u->w.cell? (b.add j)=some u)(h1:∀u∈cs,u.oneCell'=true)(hn:n<=1048576) :
 Calls Tryz.prog 83 #[.slice a n c] w fun e w'=>∃va vc,e = .returned (.slice va n vc)∧w'.ownsRow w.heap.size 115 2 (.slice va n vc) n cs∧Below w.heap.size w w':=by
 have Hl:=hid hl;have Hc:=hid hc;have H1:=hid h1;have ak:=hid ag;clear hl hc h1 ag;have ag:=fun (w:World) (a:Option Addr) (n c n' c':Nat)=>Lib.run_eql_slice_nil (P:=Tryz.prog) w 38 115 a n c n' c' Tryz.underlying38;obtain⟨i0,hi,an,al,ao⟩:=info_parts aob;cases a with
 | none =>
   obtain rfl:=ak.out rfl;go_enter Tryz.func83,Tryz.ntmps83;go_wp2;go_ret;have h0:cs=[]:=Aa9 (by have:=Hl.out;omega);subst h0;exact⟨_,_,rfl,World.ownsRow_nil _ _ _ _,Below.refl _ _⟩
 | some ad =>
   go_enter Tryz.func83,Tryz.ntmps83;go_wp2_with (at_builtin;refine wpList_append_own_at _ rfl _ _ 38 rfl w.heap.size 115 i0 (.agg #[.int .i64 0,.slice none 0 0]) 2 32 Tryz.underlying38 hi an al ao rfl (by decide) (.slice (some ⟨w.heap.size,0,none⟩) 0 0) 0 [] rfl (World.ownsRow_made w #[] 0 (Aac _) (by decide) rfl) ad n c cs rfl ?_ ?_ ?_ ?_ ?_ ?_ ?_)
   . exact Hl.out
   . intro j u hj
     rw [World.cell?_alloc_lt _ _ _ (abv (Hc.out ad rfl j u hj))];exact Hc.out ad rfl j u hj
   . exact H1.out
   . unfold maxLen;omega
   . omega
   . simp
   . intro v' w1 ai af _ _
     have ae:w1.ownsRow w.heap.size 115 2 v' n cs:=by simpa using ai
     obtain⟨va,vc,rfl⟩:=aao ae;have aj:=hid ae;have ah:=hid af;clear ai af ae;go_wp2;go_ret;exact⟨_,_,rfl,aj.out,((Below.refl _ _).alloc (Aac _) _).grown ah.out (by simp) (fun k hk=>by cases hk;exact Aac _)⟩
theorem ake(a:Option Addr)(n c:Nat)(cs:List Value)(w:World)(hl:cs.length=n * 8)(ag:a=none->n=0)(hc:∀b,a=some b->∀(j:Nat) u,cs[j]?=some u->w.cell? (b.add j)=some u)(h1:∀u∈cs,u.oneCell'=true)(hn:n<=1048576) :
 Calls Tryz.prog 85 #[.slice a n c] w fun e w'=>∃va vc,e = .returned (.slice va n vc)∧w'.ownsRow w.heap.size 49 8 (.slice va n vc) n cs∧Below w.heap.size w w':=by
 have Hl:=hid hl;have Hc:=hid hc;have H1:=hid h1;have ak:=hid ag;clear hl hc h1 ag;have ag:=fun (w:World) (a:Option Addr) (n c n' c':Nat)=>Lib.run_eql_slice_nil (P:=Tryz.prog) w 39 49 a n c n' c' Tryz.underlying39;obtain⟨i0,hi,an,al,ao⟩:=info_parts ahr;cases a with
 | none =>
   obtain rfl:=ak.out rfl;go_enter Tryz.func85,Tryz.ntmps85;go_wp2;go_ret;have h0:cs=[]:=Aa9 (by have:=Hl.out;omega);subst h0;exact⟨_,_,rfl,World.ownsRow_nil _ _ _ _,Below.refl _ _⟩
 | some ad =>
   go_enter Tryz.func85,Tryz.ntmps85;go_wp2_with (at_builtin;refine wpList_append_own_at _ rfl _ _ 39 rfl w.heap.size 49 i0 (.agg #[.int .i64 0,.int .i64 0,.bool false,.int .i64 0,.bool false,.int .i64 0,.int .i64 0,.slice none 0 0]) 8 80 Tryz.underlying39 hi an al ao rfl (by decide) (.slice (some ⟨w.heap.size,0,none⟩) 0 0) 0 [] rfl (World.ownsRow_made w #[] 0 (Aac _) (by decide) rfl) ad n c cs rfl ?_ ?_ ?_ ?_ ?_ ?_ ?_)
   . exact Hl.out
   . intro j u hj
     rw [World.cell?_alloc_lt _ _ _ (abv (Hc.out ad rfl j u hj))];exact Hc.out ad rfl j u hj
   . exact H1.out
   . unfold maxLen;omega
   . omega
   . simp
   . intro v' w1 ai af _ _
     have ae:w1.ownsRow w.heap.size 49 8 v' n cs:=by simpa using ai
     obtain⟨va,vc,rfl⟩:=aao ae;have aj:=hid ae;have ah:=hid af;clear ai af ae;go_wp2;go_ret;exact⟨_,_,rfl,aj.out,((Below.refl _ _).alloc (Aac _) _).grown ah.out (by simp) (fun k hk=>by cases hk;exact Aac _)⟩
theorem akf(a:Option Addr)(n c:Nat)(cs:List Value)(w:World)(hl:cs.length=n * 6)(ag:a=none->n=0)(hc:∀b,a=some b->∀(j:Nat) u,cs[j]?=some u->w.cell? (b.add j)=some u)(h1:∀u∈cs,u.oneCell'=true)(hn:n<=1048576) :
 Calls Tryz.prog 82 #[.slice a n c] w fun e w'=>∃va vc,e = .returned (.slice va n vc)∧w'.ownsRow w.heap.size 46 6 (.slice va n vc) n cs∧Below w.heap.size w w':=by
 have Hl:=hid hl;have Hc:=hid hc;have H1:=hid h1;have ak:=hid ag;clear hl hc h1 ag;have ag:=fun (w:World) (a:Option Addr) (n c n' c':Nat)=>Lib.run_eql_slice_nil (P:=Tryz.prog) w 35 46 a n c n' c' Tryz.underlying35;obtain⟨i0,hi,an,al,ao⟩:=info_parts ahy;cases a with
 | none =>
   obtain rfl:=ak.out rfl;go_enter Tryz.func82,Tryz.ntmps82;go_wp2;go_ret;have h0:cs=[]:=Aa9 (by have:=Hl.out;omega);subst h0;exact⟨_,_,rfl,World.ownsRow_nil _ _ _ _,Below.refl _ _⟩
 | some ad =>
   go_enter Tryz.func82,Tryz.ntmps82;go_wp2_with (at_builtin;refine wpList_append_own_at _ rfl _ _ 35 rfl w.heap.size 46 i0 (.agg #[.slice none 0 0,.slice none 0 0,.int .i64 0,.bool false,.int .i64 0,.slice none 0 0]) 6 96 Tryz.underlying35 hi an al ao rfl (by decide) (.slice (some ⟨w.heap.size,0,none⟩) 0 0) 0 [] rfl (World.ownsRow_made w #[] 0 (Aac _) (by decide) rfl) ad n c cs rfl ?_ ?_ ?_ ?_ ?_ ?_ ?_)
   . exact Hl.out
   . intro j u hj
     rw [World.cell?_alloc_lt _ _ _ (abv (Hc.out ad rfl j u hj))];exact Hc.out ad rfl j u hj
   . exact H1.out
   . unfold maxLen;omega
   . omega
   . simp
   . intro v' w1 ai af _ _
     have ae:w1.ownsRow w.heap.size 46 6 v' n cs:=by simpa using ai
     obtain⟨va,vc,rfl⟩:=aao ae;have aj:=hid ae;have ah:=hid af;clear ai af ae;go_wp2;go_ret;exact⟨_,_,rfl,aj.out,((Below.refl _ _).alloc (Aac _) _).grown ah.out (by simp) (fun k hk=>by cases hk;exact Aac _)⟩
theorem akg(a:Option Addr)(n c:Nat)(cs:List Value)(w:World)(hl:cs.length=n * 4)(ag:a=none->n=0)(hc:∀b,a=some b->∀(j:Nat) u,cs[j]?=some u->w.cell? (b.add j)=some u)(h1:∀u∈cs,u.oneCell'=true)(hn:n<=1048576) :
 Calls Tryz.prog 53 #[.slice a n c] w fun e w'=>∃va vc,e = .returned (.slice va n vc)∧w'.ownsRow w.heap.size 37 4 (.slice va n vc) n cs∧Below w.heap.size w w':=by
 have Hl:=hid hl;have Hc:=hid hc;have H1:=hid h1;have ak:=hid ag;clear hl hc h1 ag;have ag:=fun (w:World) (a:Option Addr) (n c n' c':Nat)=>Lib.run_eql_slice_nil (P:=Tryz.prog) w 23 37 a n c n' c' Tryz.underlying23;obtain⟨i0,hi,an,al,ao⟩:=info_parts amh;cases a with
 | none =>
   obtain rfl:=ak.out rfl;go_enter Tryz.func53,Tryz.ntmps53;go_wp2;go_ret;have h0:cs=[]:=Aa9 (by have:=Hl.out;omega);subst h0;exact⟨_,_,rfl,World.ownsRow_nil _ _ _ _,Below.refl _ _⟩
 | some ad =>
   go_enter Tryz.func53,Tryz.ntmps53;go_wp2_with (at_builtin;refine wpList_append_own_at _ rfl _ _ 23 rfl w.heap.size 37 i0 (.agg #[.string ⟨#[]⟩,.int .i64 0,.int .i64 0,.slice none 0 0]) 4 56 Tryz.underlying23 hi an al ao rfl (by decide) (.slice (some ⟨w.heap.size,0,none⟩) 0 0) 0 [] rfl (World.ownsRow_made w #[] 0 (Aac _) (by decide) rfl) ad n c cs rfl ?_ ?_ ?_ ?_ ?_ ?_ ?_)
   . exact Hl.out
   . intro j u hj
     rw [World.cell?_alloc_lt _ _ _ (abv (Hc.out ad rfl j u hj))];exact Hc.out ad rfl j u hj
   . exact H1.out
   . unfold maxLen;omega
   . omega
   . simp
   . intro v' w1 ai af _ _
     have ae:w1.ownsRow w.heap.size 37 4 v' n cs:=by simpa using ai
     obtain⟨va,vc,rfl⟩:=aao ae;have aj:=hid ae;have ah:=hid af;clear ai af ae;go_wp2;go_ret;exact⟨_,_,rfl,aj.out,((Below.refl _ _).alloc (Aac _) _).grown ah.out (by simp) (fun k hk=>by cases hk;exact Aac _)⟩
theorem akh(a:Option Addr)(n c:Nat)(cs:List Value)(w:World)(hl:cs.length=n * 3)(ag:a=none->n=0)(hc:∀b,a=some b->∀(j:Nat) u,cs[j]?=some u->w.cell? (b.add j)=some u)(h1:∀u∈cs,u.oneCell'=true)(hn:n<=1048576) :
 Calls Tryz.prog 52 #[.slice a n c] w fun e w'=>∃va vc,e = .returned (.slice va n vc)∧w'.ownsRow w.heap.size 52 3 (.slice va n vc) n cs∧Below w.heap.size w w':=by
 have Hl:=hid hl;have Hc:=hid hc;have H1:=hid h1;have ak:=hid ag;clear hl hc h1 ag;have ag:=fun (w:World) (a:Option Addr) (n c n' c':Nat)=>Lib.run_eql_slice_nil (P:=Tryz.prog) w 22 52 a n c n' c' Tryz.underlying22;obtain⟨i0,hi,an,al,ao⟩:=info_parts aiO;cases a with
 | none =>
   obtain rfl:=ak.out rfl;go_enter Tryz.func52,Tryz.ntmps52;go_wp2;go_ret;have h0:cs=[]:=Aa9 (by have:=Hl.out;omega);subst h0;exact⟨_,_,rfl,World.ownsRow_nil _ _ _ _,Below.refl _ _⟩
 | some ad =>
   go_enter Tryz.func52,Tryz.ntmps52;go_wp2_with (at_builtin;refine wpList_append_own_at _ rfl _ _ 22 rfl w.heap.size 52 i0 (.agg #[.string ⟨#[]⟩,.int .i64 0,.slice none 0 0]) 3 48 Tryz.underlying22 hi an al ao rfl (by decide) (.slice (some ⟨w.heap.size,0,none⟩) 0 0) 0 [] rfl (World.ownsRow_made w #[] 0 (Aac _) (by decide) rfl) ad n c cs rfl ?_ ?_ ?_ ?_ ?_ ?_ ?_)
   . exact Hl.out
   . intro j u hj
     rw [World.cell?_alloc_lt _ _ _ (abv (Hc.out ad rfl j u hj))];exact Hc.out ad rfl j u hj
   . exact H1.out
   . unfold maxLen;omega
   . omega
   . simp
   . intro v' w1 ai af _ _
     have ae:w1.ownsRow w.heap.size 52 3 v' n cs:=by simpa using ai
     obtain⟨va,vc,rfl⟩:=aao ae;have aj:=hid ae;have ah:=hid af;clear ai af ae;go_wp2;go_ret;exact⟨_,_,rfl,aj.out,((Below.refl _ _).alloc (Aac _) _).grown ah.out (by simp) (fun k hk=>by cases hk;exact Aac _)⟩
end
end Go.Proofs.YtpeejlpcikefcaaGreatDoor
