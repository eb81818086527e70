/- From what a row reads to the plain structures: each argument as a plain datum that memory holds, its size within the bulk. What every law of this seat shares around its walk: the arguments read behind the call as before; what the listed variable gives; what the bound gives. The law WeighOnce: its walk. The law WeighHot: its walk. weigh.By, plainly: what it answers. What code.Check leaves: small units, functions whose blocks may be laid. A row of structs that is written one by one. WeighRest, plainly: laid twice it lies as laid once. ssa.Check, in plain Lean; and what code.Check says of a function, gathered. -/
import Derived.Test.YtnkogppgacappaaGreatDoorRows
import Derived.Test.YtnkogppgacappaaGreatDoorPChk3
import Derived.ProofKit
import Derived.OpenShut
import Derived.Deep.Slices
import Derived.ChangeSame
import Derived.Carry
import Derived.Test.YtnkogppgacappaaGreatDoorPMrg1
import Derived.Test.YtnkogppgacappaaGreatDoorCards
import Derived.Test.YtnkogppgacappaaGreatDoorTie
import Derived.Deep.DeepHandedRow
import Derived.Lib.LaidTab
import Derived.Test.YtnkogppgacappaaGreatDoorPFour
import Derived.Test.YtnkogppgacappaaGreatDoorPRest0
import Derived.Test.YtnkogppgacappaaGreatDoorPCloneR
import Derived.Test.YtnkogppgacappaaGreatDoorPTid0
import Derived.Test.YtnkogppgacappaaGreatDoorPKnown
namespace Go.Proofs.YtnkogppgacappaaGreatDoor
open Go.RowKit Go.ChangeShapes Go.WideShapes Go.Deep

def szInt(_:Int):Nat:=1
def szVal(_:DVal):Nat:=1
def szL {α:Type}(f:α→Nat)(l:List α):Nat:=(l.map f).sum+1
def szIns(x:DIns):Nat:=szL szVal x.args
def szPhi(x:DPhi):Nat:=szL szVal x.src
def szBlock(x:DBlock):Nat:=szL szPhi x.phis+szL szIns x.list+szL szInt x.fin.to
def szFunc(x:DFunc):Nat:=szL szBlock x.blocks+x.name.size
def szGlobal(x:DGlobal):Nat:=szL szInt x.init+x.name.size
def szUnit(x:DUnit):Nat:=szL szGlobal x.globals+szL szFunc x.funcs
theorem szL_pos {α:Type}(f:α→Nat)(l:List α):1≤szL f l:=by unfold szL;omega
theorem szL_len {α:Type}{f:α→Nat}(h:∀x,1≤f x)(l:List α):l.length≤szL f l:=by
 unfold szL
 induction l with
 | nil=>simp
 | cons a l ih=>have:=h a;simp only [List.length_cons,List.map_cons,List.sum_cons];omega
theorem szL_mem {α:Type}{f:α→Nat}{l:List α}{x:α}(h:x∈l):f x≤szL f l:=by
 unfold szL
 induction l with
 | nil=>cases h
 | cons a l ih =>
   simp only [List.map_cons,List.sum_cons];rcases List.mem_cons.1 h with rfl | h
   · omega
   · have:=ih h;omega

def rL {α:Type}(sz:Nat)(r:Rp α):Rp (List α):=fun S w cs l=>∃v,cs=[v]∧SlAt S w sz r v l

def Rd {α:Type}(t:TypeId)(sz:Nat)(r:Rp α)(mu:α→Nat):Prop :=
 ∀(H:Type) (enc:TypeId×Value→H) (w:World) (base:Nat) (spare:Nat→Bool) (held:Bool) (fuel:Nat) (cs:List Value) (x:DataW H×List MemPlace),
   DataW.trod enc Tryz.prog w base spare held fuel t cs=some x→∃d:α,r (fun b=>b<w.heap.size) w cs d∧cs.length=sz∧mu d≤Rows.uptoBulk x.1

theorem rd_int {t:TypeId}(ht:Tryz.prog.underlying t=some (.int .i64)):Rd t 1 rInt szInt:=by
 intro H enc w base spare held fuel cs x h;obtain⟨n,rfl,rfl,hw⟩:=DataW.trod_int ht h;have b:=bounds_i64 hw;exact⟨n,⟨rfl,b.1,b.2⟩,rfl,by simp [szInt,Rows.uptoBulk]⟩
theorem rd_str {t:TypeId}(ht:Tryz.prog.underlying t=some .string):Rd t 1 rStr (fun s=>s.size):=by
 intro H enc w base spare held fuel cs x h;obtain⟨s,rfl,rfl,hw⟩:=DataW.trod_string ht h;exact⟨s,rfl,rfl,by simp [Rows.uptoBulk]⟩

theorem gather {α:Type}{n:Nat}{p:Nat→α→Prop}{mu:α→Nat}{f:Nat→Nat}(h:∀i,i<n→∃d,p i d∧mu d≤f i) :
 ∃l:List α,l.length=n∧(∀(i:Nat) x,l[i]?=some x→p i x)∧(l.map mu).sum≤((List.range n).map f).sum:=by
 induction n with
 | zero=>exact⟨[],rfl,fun i x h=>by simp at h,Nat.le_refl _⟩
 | succ n ih =>
   obtain⟨l,h1,h2,h3⟩:=ih (fun i hi=>h i (by omega));obtain⟨d,h4,h5⟩:=h n (by omega);refine⟨l++[d],by simp [h1],fun i x hx=>?_,?_⟩
   · rcases Nat.lt_or_ge i l.length with hi | hi
     · rw [List.getElem?_append_left hi] at hx;exact h2 i x hx
     · rw [List.getElem?_append_right hi] at hx
       have hi0:i - l.length=0:=by
        rcases Nat.eq_zero_or_pos (i - l.length) with h | h
        · exact h
        · rw [List.getElem?_eq_none (by simp;omega)] at hx;cases hx
       rw [hi0] at hx;cases hx;rw [show i=n by omega];exact h4
   · rw [List.range_succ,List.map_append,List.map_append,List.sum_append,List.sum_append]
     simp;omega
theorem bulk_map {H:Type}(D:Nat→DataW H)(n:Nat):Rows.uptoBulkAll ((List.range n).map D)=((List.range n).map fun i=>Rows.uptoBulk (D i)).sum:=by
 have key:∀l:List Nat,Rows.uptoBulkAll (l.map D)=(l.map fun i=>Rows.uptoBulk (D i)).sum:=by
  intro l
  induction l with
  | nil=>simp [Rows.uptoBulkAll]
  | cons a l ih=>simp only [List.map_cons,Rows.uptoBulkAll,List.sum_cons,ih]
 exact key _

theorem rd_slice {α:Type}{t e:TypeId}{sz:Nat}{r:Rp α}{mu:α→Nat}(ht:Tryz.prog.underlying t=some (.slice e))(hc:Tryz.prog.cellsOf e=sz)(h0:0<sz)(he:Rd e sz r mu):Rd t 1 (rL sz r) (szL mu):=by
 intro H enc w base spare held fuel cs x h;rcases open_slice ht h with⟨rfl,rfl⟩ | ⟨a,len,cap,m,n,D,Pl,rfl,hb,hl,hm,hmm,rfl,hx⟩
 · exact⟨[],⟨_,rfl,none,0,rfl,Nat.le_refl _,by decide,fun h=>absurd rfl h⟩,rfl,by simp [szL,Rows.uptoBulk]⟩
 · rw [hc] at hx
   have hlm:len≤m:=by rw [hmm];split <;> omega
   obtain ⟨l, h1, h2, h3⟩ := gather (n := len) (p := fun i d => ∃ cs', w.cells? base (a.add (i * sz)) sz = some cs' ∧ r (fun b => b < w.heap.size) w cs' d ∧ cs'.length = sz) (mu := mu) (f := fun i => Rows.uptoBulk (D i)) (fun i hi => by
    obtain ⟨cs', h1, h2⟩ := hx i (by omega)
    obtain ⟨d, h3, h4, h5⟩ := he H enc w base spare held n cs' _ h2
    exact ⟨d, ⟨cs', h1, h3, h4⟩, h5⟩)
   subst h1;unfold maxLen at hm;refine⟨l,⟨_,rfl,some a,cap,rfl,hl,by omega,fun hne=>?_⟩,rfl,?_⟩
   · have hl0:0<l.length:=List.length_pos_iff.2 hne
     obtain⟨b,off,spot⟩:=a;have hspot:spot=none:=by
      obtain⟨cs',q1,-,q3⟩:=h2 0 l[0] (List.getElem?_eq_getElem hl0);obtain⟨-,-,q4⟩:=World.cells?_some q1;have q5:=q4 0 h0;rw [List.getElem?_eq_getElem (by omega)] at q5;simpa [Addr.add] using World.cell?_spot q5
     subst hspot;have hcell:∀i x,l[i]?=some x→∃cs,r (fun b=>b<w.heap.size) w cs x∧cs.length=sz∧CellsAt w b (off+i * sz) cs:=by
      intro i x hx;obtain⟨cs',q1,q2,q3⟩:=h2 i x hx;obtain⟨-,-,q4⟩:=World.cells?_some q1;refine⟨cs',q2,q3,fun j v hj=>?_⟩;have hjl:j<sz:=by rw [←q3];exact (List.getElem?_eq_some_iff.1 hj).1
      have q5:=q4 j hjl;rw [hj,add_plain,add_plain] at q5;exact q5
     refine⟨b,off,rfl,?_,hcell⟩;obtain⟨cs',q1,q2,q3⟩:=hcell 0 l[0] (List.getElem?_eq_getElem hl0);have q4:=q3 0 cs'[0] (List.getElem?_eq_getElem (by omega));exact cell_lt q4
   · simp only [szL,Rows.uptoBulk,bulk_map];omega

theorem cells_int:Tryz.prog.cellsOf 3=1:=by kernel_rfl
theorem cells_bool:Tryz.prog.cellsOf 4=1:=by kernel_rfl
theorem cells_str:Tryz.prog.cellsOf 9=1:=by kernel_rfl
theorem cells_val:Tryz.prog.cellsOf 72=2:=by kernel_rfl
theorem cells_vals:Tryz.prog.cellsOf 78=1:=by kernel_rfl
theorem cells_ints:Tryz.prog.cellsOf 33=1:=by kernel_rfl
theorem cells_end:Tryz.prog.cellsOf 74=4:=by kernel_rfl
theorem cells_ins:Tryz.prog.cellsOf 80=8:=by kernel_rfl
theorem cells_inss:Tryz.prog.cellsOf 70=1:=by kernel_rfl
theorem cells_phi:Tryz.prog.cellsOf 94=2:=by kernel_rfl
theorem cells_phis:Tryz.prog.cellsOf 69=1:=by kernel_rfl
theorem cells_block:Tryz.prog.cellsOf 76=6:=by kernel_rfl
theorem cells_blocks:Tryz.prog.cellsOf 36=1:=by kernel_rfl
theorem cells_func:Tryz.prog.cellsOf 38=4:=by kernel_rfl
theorem cells_funcs:Tryz.prog.cellsOf 23=1:=by kernel_rfl
theorem cells_global:Tryz.prog.cellsOf 48=3:=by kernel_rfl
theorem cells_globals:Tryz.prog.cellsOf 22=1:=by kernel_rfl
theorem cells_unit:Tryz.prog.cellsOf 25=2:=by kernel_rfl

theorem list1 {α:Type}{l:List α}(h:l.length=1):∃a,l=[a]:=by
 match l,h with
 | [a],_=>exact⟨a,rfl⟩
theorem list2 {α:Type}{l:List α}(h:l.length=2):∃a b,l=[a,b]:=by
 match l,h with
 | [a,b],_=>exact⟨a,b,rfl⟩
theorem list3 {α:Type}{l:List α}(h:l.length=3):∃a b c,l=[a,b,c]:=by
 match l,h with
 | [a,b,c],_=>exact⟨a,b,c,rfl⟩
theorem list4 {α:Type}{l:List α}(h:l.length=4):∃a b c d,l=[a,b,c,d]:=by
 match l,h with
 | [a,b,c,d],_=>exact⟨a,b,c,d,rfl⟩
theorem list6 {α:Type}{l:List α}(h:l.length=6):∃a b c d e f,l=[a,b,c,d,e,f]:=by
 match l,h with
 | [a,b,c,d,e,f],_=>exact⟨a,b,c,d,e,f,rfl⟩
theorem list8 {α:Type}{l:List α}(h:l.length=8):∃a b c d e f g i,l=[a,b,c,d,e,f,g,i]:=by
 match l,h with
 | [a,b,c,d,e,f,g,i],_=>exact⟨a,b,c,d,e,f,g,i,rfl⟩

theorem fields2 {f0 f1:Field}{p:Nat→Field→Prop}(h:∀(i:Nat) (f:Field),#[f0,f1][i]?=some f→p i f):p 0 f0∧p 1 f1:=⟨h 0 _ rfl,h 1 _ rfl⟩
theorem fields3 {f0 f1 f2:Field}{p:Nat→Field→Prop}(h:∀(i:Nat) (f:Field),#[f0,f1,f2][i]?=some f→p i f):p 0 f0∧p 1 f1∧p 2 f2:=⟨h 0 _ rfl,h 1 _ rfl,h 2 _ rfl⟩
theorem fields4 {f0 f1 f2 f3:Field}{p:Nat→Field→Prop}(h:∀(i:Nat) (f:Field),#[f0,f1,f2,f3][i]?=some f→p i f):p 0 f0∧p 1 f1∧p 2 f2∧p 3 f3:=⟨h 0 _ rfl,h 1 _ rfl,h 2 _ rfl,h 3 _ rfl⟩
theorem fields6 {f0 f1 f2 f3 f4 f5:Field}{p:Nat→Field→Prop}(h:∀(i:Nat) (f:Field),#[f0,f1,f2,f3,f4,f5][i]?=some f→p i f):p 0 f0∧p 1 f1∧p 2 f2∧p 3 f3∧p 4 f4∧p 5 f5:=⟨h 0 _ rfl,h 1 _ rfl,h 2 _ rfl,h 3 _ rfl,h 4 _ rfl,h 5 _ rfl⟩

theorem rd_val:Rd 72 2 rVal szVal:=by
 intro H enc w base spare held fuel cs x h;obtain⟨xs,n,-,rfl,hc,hl,hf⟩:=DataW.trod_struct Tryz.underlying72 h;rw [cells_val] at hc;obtain⟨c0,c1,rfl⟩:=list2 hc;obtain⟨x0,x1,rfl⟩:=list2 hl;obtain⟨f0,f1⟩:=fields2 hf;clear hf hc hl h;simp only [cells_bool,cells_int,List.drop_zero,List.drop_succ_cons,List.take_succ_cons,List.take_zero,List.getElem?_cons_zero,List.getElem?_cons_succ] at f0 f1;obtain⟨b,e0,-⟩:=DataW.trod_bool Tryz.underlying4 f0;obtain⟨d,⟨e1,h1⟩,-,-⟩:=rd_int Tryz.underlying3 _ _ _ _ _ _ _ _ _ f1;cases e0;cases e1;exact⟨⟨b,d⟩,⟨rfl,h1⟩,rfl,by simp [szVal,Rows.uptoBulk]⟩

theorem rd_ints:Rd 33 1 (rL 1 rInt) (szL szInt):=rd_slice Tryz.underlying33 cells_int (by decide) (rd_int Tryz.underlying3)
theorem rd_vals:Rd 78 1 (rL 2 rVal) (szL szVal):=rd_slice Tryz.underlying78 cells_val (by decide) rd_val

theorem rd_end:Rd 74 4 rEnd (fun e=>szL szInt e.to):=by
 intro H enc w base spare held fuel cs x h;obtain⟨xs,n,-,rfl,hc,hl,hf⟩:=DataW.trod_struct Tryz.underlying74 h;rw [cells_end] at hc;obtain⟨c0,c1,c2,c3,rfl⟩:=list4 hc;obtain⟨x0,x1,x2,rfl⟩:=list3 hl;obtain⟨f0,f1,f2⟩:=fields3 hf;clear hf hc hl h;simp only [cells_val,cells_int,cells_ints,List.drop_zero,List.drop_succ_cons,List.take_succ_cons,List.take_zero,List.getElem?_cons_zero,List.getElem?_cons_succ] at f0 f1 f2;obtain⟨d0,⟨e0,h0⟩,-,-⟩:=rd_int Tryz.underlying3 _ _ _ _ _ _ _ _ _ f0;obtain⟨d1,⟨e1,h1⟩,-,-⟩:=rd_val _ _ _ _ _ _ _ _ _ f1;obtain⟨d2,⟨v2,e2,h2⟩,-,m2⟩:=rd_ints _ _ _ _ _ _ _ _ _ f2;cases e0;cases e1;cases e2;exact⟨⟨d0,d1,d2⟩,⟨_,rfl,h2,h0,h1⟩,rfl,by simp only [Rows.uptoBulk,Rows.uptoBulkAll,List.map_cons];omega⟩

theorem rd_ins:Rd 80 8 rIns szIns:=by
 intro H enc w base spare held fuel cs x h;obtain⟨xs,n,-,rfl,hc,hl,hf⟩:=DataW.trod_struct Tryz.underlying80 h;rw [cells_ins] at hc;obtain⟨c0,c1,c2,c3,c4,c5,c6,c7,rfl⟩:=list8 hc;obtain⟨x0,x1,x2,x3,x4,x5,rfl⟩:=list6 hl;obtain⟨f0,f1,f2,f3,f4,f5⟩:=fields6 hf;clear hf hc hl h;simp only [cells_val,cells_int,cells_vals,List.drop_zero,List.drop_succ_cons,List.take_succ_cons,List.take_zero,List.getElem?_cons_zero,List.getElem?_cons_succ] at f0 f1 f2 f3 f4 f5;obtain⟨d0,⟨e0,h0⟩,-,-⟩:=rd_int Tryz.underlying3 _ _ _ _ _ _ _ _ _ f0;obtain⟨d1,⟨e1,h1⟩,-,-⟩:=rd_int Tryz.underlying3 _ _ _ _ _ _ _ _ _ f1;obtain⟨d2,⟨e2,h2⟩,-,-⟩:=rd_val _ _ _ _ _ _ _ _ _ f2;obtain⟨d3,⟨e3,h3⟩,-,-⟩:=rd_val _ _ _ _ _ _ _ _ _ f3;obtain⟨d4,⟨e4,h4⟩,-,-⟩:=rd_int Tryz.underlying3 _ _ _ _ _ _ _ _ _ f4;obtain⟨d5,⟨v5,e5,h5⟩,-,m5⟩:=rd_vals _ _ _ _ _ _ _ _ _ f5;cases e0;cases e1;cases e2;cases e3;cases e4;cases e5;exact⟨⟨d0,d1,d2,d3,d4,d5⟩,⟨_,rfl,h5,h0,h1,h2,h3,h4⟩,rfl,by simp only [szIns,Rows.uptoBulk,Rows.uptoBulkAll,List.map_cons];omega⟩
theorem rd_inss:Rd 70 1 (rL 8 rIns) (szL szIns):=rd_slice Tryz.underlying70 cells_ins (by decide) rd_ins

theorem rd_phi:Rd 94 2 rPhi szPhi:=by
 intro H enc w base spare held fuel cs x h;obtain⟨xs,n,-,rfl,hc,hl,hf⟩:=DataW.trod_struct Tryz.underlying94 h;rw [cells_phi] at hc;obtain⟨c0,c1,rfl⟩:=list2 hc;obtain⟨x0,x1,rfl⟩:=list2 hl;obtain⟨f0,f1⟩:=fields2 hf;clear hf hc hl h;simp only [cells_vals,cells_int,List.drop_zero,List.drop_succ_cons,List.take_succ_cons,List.take_zero,List.getElem?_cons_zero,List.getElem?_cons_succ] at f0 f1;obtain⟨d0,⟨e0,h0⟩,-,-⟩:=rd_int Tryz.underlying3 _ _ _ _ _ _ _ _ _ f0;obtain⟨d1,⟨v1,e1,h1⟩,-,m1⟩:=rd_vals _ _ _ _ _ _ _ _ _ f1;cases e0;cases e1;exact⟨⟨d0,d1⟩,⟨_,rfl,h1,h0⟩,rfl,by simp only [szPhi,Rows.uptoBulk,Rows.uptoBulkAll,List.map_cons];omega⟩
theorem rd_phis:Rd 69 1 (rL 2 rPhi) (szL szPhi):=rd_slice Tryz.underlying69 cells_phi (by decide) rd_phi

theorem rd_block:Rd 76 6 rBlock szBlock:=by
 intro H enc w base spare held fuel cs x h;obtain⟨xs,n,-,rfl,hc,hl,hf⟩:=DataW.trod_struct Tryz.underlying76 h;rw [cells_block] at hc;obtain⟨c0,c1,c2,c3,c4,c5,rfl⟩:=list6 hc;obtain⟨x0,x1,x2,rfl⟩:=list3 hl;obtain⟨f0,f1,f2⟩:=fields3 hf;clear hf hc hl h;simp only [cells_phis,cells_inss,cells_end,List.drop_zero,List.drop_succ_cons,List.take_succ_cons,List.take_zero,List.getElem?_cons_zero,List.getElem?_cons_succ] at f0 f1 f2;obtain⟨d0,⟨v0,e0,h0⟩,-,m0⟩:=rd_phis _ _ _ _ _ _ _ _ _ f0;obtain⟨d1,⟨v1,e1,h1⟩,-,m1⟩:=rd_inss _ _ _ _ _ _ _ _ _ f1;obtain⟨d2,h2,-,m2⟩:=rd_end _ _ _ _ _ _ _ _ _ f2;cases e0;cases e1;exact⟨⟨d0,d1,d2⟩,⟨_,_,_,rfl,h0,h1,h2⟩,rfl,by dsimp only at m2;simp only [szBlock,Rows.uptoBulk,Rows.uptoBulkAll,List.map_cons];omega⟩
theorem rd_blocks:Rd 36 1 (rL 6 rBlock) (szL szBlock):=rd_slice Tryz.underlying36 cells_block (by decide) rd_block

theorem rd_func:Rd 38 4 rFunc szFunc:=by
 intro H enc w base spare held fuel cs x h;obtain⟨xs,n,-,rfl,hc,hl,hf⟩:=DataW.trod_struct Tryz.underlying38 h;rw [cells_func] at hc;obtain⟨c0,c1,c2,c3,rfl⟩:=list4 hc;obtain⟨x0,x1,x2,x3,rfl⟩:=list4 hl;obtain⟨f0,f1,f2,f3⟩:=fields4 hf;clear hf hc hl h;simp only [cells_str,cells_int,cells_blocks,List.drop_zero,List.drop_succ_cons,List.take_succ_cons,List.take_zero,List.getElem?_cons_zero,List.getElem?_cons_succ] at f0 f1 f2 f3;obtain⟨d0,e0,-,m0⟩:=rd_str Tryz.underlying9 _ _ _ _ _ _ _ _ _ f0;obtain⟨d1,⟨e1,h1⟩,-,-⟩:=rd_int Tryz.underlying3 _ _ _ _ _ _ _ _ _ f1;obtain⟨d2,⟨e2,h2⟩,-,-⟩:=rd_int Tryz.underlying3 _ _ _ _ _ _ _ _ _ f2;obtain⟨d3,⟨v3,e3,h3⟩,-,m3⟩:=rd_blocks _ _ _ _ _ _ _ _ _ f3;cases e0;cases e1;cases e2;cases e3;exact⟨⟨d0,d1,d2,d3⟩,⟨_,rfl,h3,h1,h2⟩,rfl,by dsimp only at m0;simp only [szFunc,Rows.uptoBulk,Rows.uptoBulkAll,List.map_cons];omega⟩
theorem rd_funcs:Rd 23 1 (rL 4 rFunc) (szL szFunc):=rd_slice Tryz.underlying23 cells_func (by decide) rd_func

theorem rd_global:Rd 48 3 rGlobal szGlobal:=by
 intro H enc w base spare held fuel cs x h;obtain⟨xs,n,-,rfl,hc,hl,hf⟩:=DataW.trod_struct Tryz.underlying48 h;rw [cells_global] at hc;obtain⟨c0,c1,c2,rfl⟩:=list3 hc;obtain⟨x0,x1,x2,rfl⟩:=list3 hl;obtain⟨f0,f1,f2⟩:=fields3 hf;clear hf hc hl h;simp only [cells_str,cells_int,cells_ints,List.drop_zero,List.drop_succ_cons,List.take_succ_cons,List.take_zero,List.getElem?_cons_zero,List.getElem?_cons_succ] at f0 f1 f2;obtain⟨d0,e0,-,m0⟩:=rd_str Tryz.underlying9 _ _ _ _ _ _ _ _ _ f0;obtain⟨d1,⟨e1,h1⟩,-,-⟩:=rd_int Tryz.underlying3 _ _ _ _ _ _ _ _ _ f1;obtain⟨d2,⟨v2,e2,h2⟩,-,m2⟩:=rd_ints _ _ _ _ _ _ _ _ _ f2;cases e0;cases e1;cases e2;exact⟨⟨d0,d1,d2⟩,⟨_,rfl,h2,h1⟩,rfl,by dsimp only at m0;simp only [szGlobal,Rows.uptoBulk,Rows.uptoBulkAll,List.map_cons];omega⟩
theorem rd_globals:Rd 22 1 (rL 3 rGlobal) (szL szGlobal):=rd_slice Tryz.underlying22 cells_global (by decide) rd_global

theorem rd_unit:Rd 25 2 rUnit szUnit:=by
 intro H enc w base spare held fuel cs x h;obtain⟨xs,n,-,rfl,hc,hl,hf⟩:=DataW.trod_struct Tryz.underlying25 h;rw [cells_unit] at hc;obtain⟨c0,c1,rfl⟩:=list2 hc;obtain⟨x0,x1,rfl⟩:=list2 hl;obtain⟨f0,f1⟩:=fields2 hf;clear hf hc hl h;simp only [cells_globals,cells_funcs,List.drop_zero,List.drop_succ_cons,List.take_succ_cons,List.take_zero,List.getElem?_cons_zero,List.getElem?_cons_succ] at f0 f1;obtain⟨d0,⟨v0,e0,h0⟩,-,m0⟩:=rd_globals _ _ _ _ _ _ _ _ _ f0;obtain⟨d1,⟨v1,e1,h1⟩,-,m1⟩:=rd_funcs _ _ _ _ _ _ _ _ _ f1;cases e0;cases e1;exact⟨⟨d0,d1⟩,⟨_,_,rfl,h0,h1⟩,rfl,by simp only [szUnit,Rows.uptoBulk,Rows.uptoBulkAll,List.map_cons];omega⟩

end Go.Proofs.YtnkogppgacappaaGreatDoor

namespace Go.Proofs.YtnkogppgacappaaGreatDoor
open Go.RowKit Go.ChangeShapes Go.WideShapes Go.ChangeAt Go.Deep

theorem own:ownKnob Tryz.prog.godebug=none:=by kernel_rfl
theorem laidOut:laidOutB Tryz.prog=true:=by kernel_rfl
theorem gWays : Tryz.prog.globalNamed "turnery/code.ways" = some 0 := by kernel_rfl
theorem gWaysType:(Tryz.prog.globals[0]?).map (·.type)=some 123:=by kernel_rfl
theorem cells4:Tryz.prog.cellsOf 123=4:=by kernel_rfl

theorem ways_of {W : World} (h : laidMetH Tryz.prog [("turnery/code.ways", Rows.laid_turnery_code_ways)] W) : Ways W := by
 have t : Lib.TabIs Tryz.prog W "turnery/code.ways" .i64 [0, 0, 1, 2] := Lib.tabIs_of_head (rest := []) gWays gWaysType Tryz.underlying123 Tryz.underlying3 cells_int cells4 h
 exact⟨t.cell gWays 1 (by decide),t.cell gWays 2 (by decide),t.cell gWays 3 (by decide)⟩

def Carried(t:TypeId):Prop:=Tryz.prog.readableRec t=true∧t<Tryz.prog.types.size
theorem carried {t:TypeId}(h:(Tryz.prog.readableRec t&&decide (t<Tryz.prog.types.size))=true):Carried t:=by
 simp only [Bool.and_eq_true,decide_eq_true_eq] at h;exact h
theorem carried_unit:Carried 25:=carried (by kernel_rfl)
theorem args_keep {H:Type}{enc:TypeId×Value→H}{W W':World}{sp:Nat→Bool}(hb:Below W.heap.size W W'):∀(ts:List TypeId) (vs:List Value) (ds:List (DataW H)) (ps:List MemPlace),(∀t∈ts,Carried t) →
 DataW.TrodAll enc Tryz.prog W 0 (fun _=>true) true ts vs ds ps→(∀p∈ps,p.block<W.heap.size)→(∀p∈ps,sp p.block=true)→DataW.TrodAll enc Tryz.prog W' 0 sp true ts vs ds ps
 | [],_,_,_,_,h,_,_=>by
   obtain⟨rfl,rfl,rfl⟩:=trodAll_nil h;exact trodAll_mk0
 | t :: ts,_,_,_,hc,h,hlt,hsp=>by
   obtain⟨v,vs,d,ds,p,q,rfl,rfl,rfl,h1,h2⟩:=trodAll_cons h;obtain⟨c1,c2⟩:=hc t (by simp)
   exact trodAll_cons_mk (WideElems.Trod_stays laidOut c1 c2 h1 (fun x hx => hb.same (hlt x (by simp [hx]))) (fun x hx => hsp x (by simp [hx])))
    (args_keep hb ts vs ds q (fun t ht=>hc t (by simp [ht])) h2 (fun x hx=>hlt x (by simp [hx])) (fun x hx=>hsp x (by simp [hx])))
theorem trodAll_len {H : Type} {enc : TypeId × Value → H} {W : World} {sp : Nat → Bool} {hd : Bool} {b : Nat} : ∀ (ts : List TypeId) (vs : List Value) (ds : List (DataW H)) (ps : List MemPlace), DataW.TrodAll enc Tryz.prog W b sp hd ts vs ds ps → ds.length = ts.length
 | [],_,_,_,h=>by
   obtain⟨rfl,rfl,rfl⟩:=trodAll_nil h;rfl
 | t :: ts,_,_,_,h=>by
   obtain⟨v,vs,d,ds,p,q,rfl,rfl,rfl,h1,h2⟩:=trodAll_cons h;simp [trodAll_len ts vs ds q h2]

set_option maxRecDepth 100000 in
theorem law_post {H : Type} {enc : TypeId × Value → H} {f : Func} {s : ChangeSpec} {W W' : World} {args : Array Value} {ds gs : List (DataW H)} {before : List MemPlace}
 (hv:s.vars=[]) (hr:f.resultTypes=#[4]) (hfn:∀ds:List (DataW H),ds.length=f.params.toList.length→s.fn H ds={ results:=[.lit (.bool true)],args:=ds }) (hts:∀t∈f.params.toList,Carried t)
 (hW:DataW.Whole enc Tryz.prog f.params.toList s.vars false W args.toList ds gs before) (hb:Below W.heap.size W W'):s.post enc Tryz.prog f false true false false W args (.bool true) W':=by
 have hlt:∀p∈before,p.block<W.heap.size:=fun p hp=>hW.lt p hp;have hold:∀p∈before,(fun b=>decide (b<W.heap.size)) p.block=true:=fun p hp=>by simpa using hlt p hp
 have hW0:=hW;obtain⟨p,q,hA,hV,rfl,hz,hn⟩:=hW;rw [hv] at hV;obtain⟨rfl,rfl⟩:=trodVars_none hV;have hA0:DataW.TrodAll enc Tryz.prog W 0 (fun _=>true) true f.params.toList args.toList ds p:=hA;rw [List.append_nil] at hlt hold hz hW0;have e1:s.fn H (ds++[])={ results:=[.lit (.bool true)],args:=ds }:=by rw [List.append_nil];exact hfn ds (trodAll_len _ _ _ _ hA0)
 have hres:∀(b:Nat) (sp:Nat→Bool) (hd:Bool),DataW.TrodAll enc Tryz.prog W' b sp hd f.resultTypes.toList ((Value.bool true).resultList f.resultTypes.size) (s.fn H (ds++[])).results []:=by
  intro b sp hd;rw [e1,hr];exact trodAll_cons_mk (shut_bool Tryz.underlying4 _) trodAll_mk0
 have hargs:∀sp:Nat→Bool,(∀x∈p,sp x.block=true)→DataW.TrodAll enc Tryz.prog W' 0 sp true f.params.toList args.toList (s.fn H (ds++[])).args p:=by
  intro sp hsp;rw [e1];exact args_keep hb _ _ _ _ hts hA0 hlt hsp
 have hvars:∀sp:Nat→Bool,DataW.TrodVars enc Tryz.prog W' sp s.vars (s.fn H (ds++[])).vars []:=by
  intro sp;rw [e1,hv];exact rfl
 refine⟨ds,[],p,[],p,[],by simpa using hW0,hres _ _ _,hargs _ hold,hvars _,World.keptBut_mono (fun x hx=>⟨hx,by simpa using hx⟩) (hb.frame (·∈p)),fun _=>?_⟩;refine⟨?_,_,_,([]++p)++[],⟨[]++p,[],trodAll_append (hargs _ (fun _ _=>rfl)) (hres _ _ _),hvars _,rfl,?_,fun h=>by cases h⟩,fun x hx _=>by simpa using hx⟩
 · exact ok_one hr rfl (okWide_bool_mk Tryz.underlying4 _)
 · intro b off hx
   have hin:MemPlace.cell b off∈p:=by simpa using hx
   rw [hb.frozen (hlt _ hin)];exact hz b off hin

theorem bulk_part {H:Type}{d:DataW H}{l:List (DataW H)}(h:d∈l):Rows.uptoBulk d≤Rows.uptoBulkAll l:=by
 induction l with
 | nil=>cases h
 | cons x r ih =>
   simp only [Rows.uptoBulkAll];rcases List.mem_cons.1 h with e | e
   · subst e;omega
   · have:=ih e;omega
theorem bulk_bound {H:Type}{l:List (DataW H)}(hk:Rows.uptoSmall H l=true):Rows.uptoBulkAll l≤1048576:=by
 have h:=of_decide_eq_true hk;exact h

structure Small (gs:List DGlobal)(fs:List DFunc):Prop where
 size:szUnit ⟨gs,fs⟩≤1048576
theorem szGlobal_pos(x:DGlobal):1≤szGlobal x:=by have:=szL_pos szInt x.init;unfold szGlobal;omega
theorem szFunc_pos(x:DFunc):1≤szFunc x:=by have:=szL_pos szBlock x.blocks;unfold szFunc;omega
theorem szBlock_pos(x:DBlock):1≤szBlock x:=by have:=szL_pos szPhi x.phis;unfold szBlock;omega
theorem szPhi_pos(x:DPhi):1≤szPhi x:=szL_pos _ _
theorem szIns_pos(x:DIns):1≤szIns x:=szL_pos _ _
theorem many_le(l:List DBlock):manyOf l≤(l.map szBlock).sum:=by
 unfold manyOf
 induction l with
 | nil=>exact Nat.le_refl _
 | cons b l ih =>
   have h1:=szL_len szPhi_pos b.phis;have h2:=szL_len szIns_pos b.list;simp only [List.map_cons,List.sum_cons];unfold szBlock at *;omega
theorem Small.globals {gs:List DGlobal}{fs:List DFunc}(h:Small gs fs):gs.length≤1048576:=by
 have h1:=h.size;have h2:=szL_len szGlobal_pos gs;unfold szUnit at h1;dsimp only at h1;omega
theorem Small.funcs {gs:List DGlobal}{fs:List DFunc}(h:Small gs fs):fs.length≤1048576:=by
 have h1:=h.size;have h2:=szL_len szFunc_pos fs;unfold szUnit at h1;dsimp only at h1;omega
theorem Small.func {gs:List DGlobal}{fs:List DFunc}(h:Small gs fs){k:Nat}{f:DFunc}(hf:fs[k]?=some f):szFunc f≤1048576:=by
 have h1:=h.size;have h2:=szL_mem (f:=szFunc) (List.mem_of_getElem? hf);unfold szUnit at h1;dsimp only at h1;omega
theorem Small.many {gs:List DGlobal}{fs:List DFunc}(h:Small gs fs):∀(k:Nat) (f:DFunc),fs[k]?=some f→manyOf f.blocks≤1048576∧f.blocks.length≤1048576:=by
 intro k f hf;have h1:=h.func hf;have h2:=many_le f.blocks;have h3:=szL_len szBlock_pos f.blocks;unfold szFunc szL at h1;unfold szL at h3;omega

set_option maxRecDepth 100000 in
theorem arg_unit {H:Type}{enc:TypeId×Value→H}{W:World}{base:Nat}{v:Value}{d:DataW H}{p:List MemPlace}(hv:Value.okWide Tryz.prog W .any base 25 v)(h:DataW.Trod enc Tryz.prog W 0 (fun _=>true) true 25 v d p) :
 ∃ga gc fa fc gs fs,v = .agg #[.slice ga gs.length gc,.slice fa fs.length fc]∧SlAt (fun b=>b<W.heap.size) W 3 rGlobal (.slice ga gs.length gc) gs∧SlAt (fun b=>b<W.heap.size) W 4 rFunc (.slice fa fs.length fc) fs∧szUnit ⟨gs,fs⟩≤Rows.uptoBulk d:=by
 obtain⟨cs,rfl,-⟩:=okWide_struct Tryz.underlying25 hv;obtain⟨fuel,h⟩:=h;obtain⟨u,⟨g,f,e,hg,hf⟩,-,hm⟩:=rd_unit _ _ _ _ _ _ _ _ _ h;have e':cs.toList=[g,f]:=e;obtain⟨ga,gc,eg,-⟩:=id hg;obtain⟨fa,fc,ef,-⟩:=id hf;subst eg ef;refine⟨ga,gc,fa,fc,u.globals,u.funcs,?_,hg,hf,hm⟩;obtain⟨l⟩:=cs;have e2:l=_:=e';rw [e2]
noncomputable def laidWorld (os:Os):World :=
 { World.holding Tryz.prog os ⟨#[], #[], []⟩ with heap := (World.holding Tryz.prog os ⟨#[], #[], []⟩).heap.modify 0 fun
  | .cells _ t frozen => .cells #[.int .i64 0, .int .i64 0, .int .i64 1, .int .i64 2] t frozen
  | o => o }

end Go.Proofs.YtnkogppgacappaaGreatDoor

namespace Go.Proofs.YtnkogppgacappaaGreatDoor
open Go.RowKit

theorem checkF_zero {u:DUnit}(h:(checkF u).1=0):checkF u=(0,0):=by
 have h0:=h;unfold checkF at h ⊢
 by_cases h1:10<u.globals.length∨10<u.funcs.length
 · rw [if_pos h1] at h;simp at h
 rw [if_neg h1] at h ⊢
 by_cases h2:posF (globE u.globals) u.globals.length<u.globals.length
 · rw [if_pos h2] at h;exact absurd h (posF_ne h2)
 rw [if_neg h2] at h ⊢
 by_cases h3:posF (headsE u.globals u.funcs) u.funcs.length<u.funcs.length
 · rw [if_pos h3] at h;exact absurd h (posF_ne h3)
 rw [if_neg h3] at h ⊢
 by_cases h4:posF (bodiesE u.funcs) u.funcs.length<u.funcs.length
 · rw [if_pos h4] at h;exact absurd h (posF_ne h4)
 rw [if_neg h4] at h ⊢;unfold lastE at h ⊢
 by_cases h5:idxMain u.funcs<0
 · rw [if_pos h5] at h;simp at h
 rw [if_neg h5] at h ⊢
 by_cases h6:0<(u.funcs.getD (idxMain u.funcs).toNat ⟨ByteArray.empty,0,0,[]⟩).params
 · rw [if_pos h6] at h;simp at h
 rw [if_neg h6]

end Go.Proofs.YtnkogppgacappaaGreatDoor

namespace Go.Proofs.YtnkogppgacappaaGreatDoor
open Go.RowKit

end Go.Proofs.YtnkogppgacappaaGreatDoor

namespace Go.Proofs.YtnkogppgacappaaGreatDoor
open Go.RowKit

end Go.Proofs.YtnkogppgacappaaGreatDoor

namespace Go.Proofs.YtnkogppgacappaaGreatDoor
open Go.RowKit

theorem checkF_pos {u:DUnit}(h:checkF u=(0,0)):0<u.funcs.length:=by
 rcases Nat.eq_zero_or_pos u.funcs.length with h0 | h0
 · exfalso
   obtain⟨h1,h2,h3,h4,h5⟩:=checkF_ok (u:=u) (by rw [h]);unfold checkF at h;rw [if_neg (by omega),posF_all (fun j _=>h3 j),posF_all (fun j _=>h4 j),posF_all (fun j _=>h5 j)] at h;simp only [Nat.lt_irrefl,if_false] at h;have h6:u.funcs=[]:=List.length_eq_zero_iff.1 h0;rw [h6] at h;unfold lastE idxMain at h;simp at h
 · exact h0
theorem checkF_at {u:DUnit}(h:checkF u=(0,0)){k:Nat}{f:DFunc}(hf:u.funcs[k]?=some f) :
 headE (fNames u.globals u.funcs k) f=0∧bodyE u.funcs f=0:=by
 obtain⟨-,-,-,h2,h3⟩:=checkF_ok (u:=u) (by rw [h]);have g2:=h2 k;have g3:=h3 k;unfold headsE at g2;unfold bodiesE at g3;rw [hf] at g2 g3;exact⟨g2,g3⟩
theorem manyOf_mem {l:List DBlock}{x:DBlock}(h:x∈l):x.phis.length+x.list.length≤manyOf l:=by
 unfold manyOf
 induction l with
 | nil=>cases h
 | cons a l ih =>
   rw [List.map_cons,List.sum_cons];rcases List.mem_cons.1 h with rfl | h
   · omega
   · have:=ih h;omega
theorem insE_args {fs:List DFunc}{regs:Int}{x:DIns}(h:insE fs regs x=0):x.args.length=0∨∃f∈fs,(x.args.length:Int)=f.params:=by
 unfold insE at h
 by_cases h1:¬(1≤x.op∧x.op≤22)
 · rw [if_pos h1] at h;omega
 rw [if_neg h1] at h
 by_cases h2:formBad x=true
 · rw [if_pos h2] at h;omega
 rw [if_neg h2] at h
 by_cases h3:(shpD x.op=true∧¬(x.op=20∧x.dst = -1))∧dstE regs x.dst≠0
 · rw [if_pos h3] at h;omega
 rw [if_neg h3] at h
 by_cases hop:x.op=20
 · right
   unfold firstE at h
   by_cases a1:valE regs x.a≠0
   · rw [if_pos a1] at h;exact absurd h a1
   rw [if_neg a1] at h
   by_cases a2:valE regs x.b≠0
   · rw [if_pos a2] at h;exact absurd h a2
   rw [if_neg a2] at h;unfold callE at h;rw [if_neg (by simpa using hop)] at h
   by_cases b1:¬(0≤x.fn∧x.fn≤(fs.length:Int) - 1)
   · rw [if_pos b1] at h;omega
   rw [if_neg b1] at h
   by_cases b2:(x.args.length:Int)≠(fs.getD x.fn.toNat ⟨ByteArray.empty,0,0,[]⟩).params
   · rw [if_pos b2] at h;omega
   have hk:x.fn.toNat<fs.length:=by omega
   rw [List.getD_eq_getElem?_getD,List.getElem?_eq_getElem hk,Option.getD_some] at b2;exact⟨_,List.getElem_mem hk,by omega⟩
 · left
   unfold formBad at h2;simp only [Bool.or_eq_true,Bool.and_eq_true,decide_eq_true_eq,not_or,not_and] at h2;have:=(h2.2 hop).2;omega
theorem checkF_small {u:DUnit}(h:checkF u=(0,0)):(∀g∈u.globals,g.init.length≤1048576)∧∀f∈u.funcs,SmallF f:=by
 obtain⟨-,-,h1,-,-⟩:=checkF_ok (u:=u) (by rw [h]);have hpar:∀f∈u.funcs,f.params≤6:=fun f hf=>by
  obtain⟨i,hi,rfl⟩:=List.getElem_of_mem hf;exact (headE_ok (checkF_at h (List.getElem?_eq_getElem hi)).1).2.2.2.1
 refine⟨fun g hg=>?_,fun f hf=>?_⟩
 · obtain⟨i,hi,rfl⟩:=List.getElem_of_mem hg
   have g1:=h1 i;unfold globE at g1;rw [List.getElem?_eq_getElem hi] at g1;have:=globErr_ok g1;omega
 · obtain⟨i,hi,rfl⟩:=List.getElem_of_mem hf
   obtain⟨hh,hb⟩:=checkF_at h (List.getElem?_eq_getElem hi);obtain⟨-,-,-,-,-,-,-,h40,hm⟩:=headE_ok hh;refine⟨by omega,fun x hx=>?_⟩;have hmx:=manyOf_mem hx;obtain⟨j,hj,rfl⟩:=List.getElem_of_mem hx;obtain⟨e1,e2⟩:=bodyE_zero.1 hb;have he:=e1 j hj;unfold endsE at he;rw [List.getElem?_eq_getElem hj] at he;have he':=endE_iff.1 he;obtain⟨hph,hin⟩:=(blockE_zero (List.getElem?_eq_getElem hj)).1 (e2 j hj);refine⟨by omega,by omega,by omega,fun p hp=>?_,fun x hx=>?_⟩
   · have h3:=phiE_iff.1 (hph p hp)
     rw [aheadF_getD hj] at h3;rw [h3.2.2.1]
     have := predsOf_len j u.funcs[i].blocks 0 (fun x hx => by
      obtain ⟨j', hj', rfl⟩ := List.getElem_of_mem hx
      have he := e1 j' hj'
      unfold endsE at he
      rw [List.getElem?_eq_getElem hj'] at he
      have := endE_iff.1 he
      omega)
     omega
   · rcases insE_args (hin x hx) with h4 | ⟨f,hf,h4⟩
     · omega
     · have:=hpar f hf;omega

end Go.Proofs.YtnkogppgacappaaGreatDoor

namespace Go.Proofs.YtnkogppgacappaaGreatDoor
open Go.RowKit

end Go.Proofs.YtnkogppgacappaaGreatDoor

namespace Go.Proofs.YtnkogppgacappaaGreatDoor
open Go.RowKit

theorem dstE_ok {regs n:Int}(h:dstE regs n=0):0≤n∧n<regs:=by
 unfold dstE at h
 by_cases h1:¬(0≤n∧n≤regs - 1)
 · rw [if_pos h1] at h;omega
 · omega
end Go.Proofs.YtnkogppgacappaaGreatDoor
