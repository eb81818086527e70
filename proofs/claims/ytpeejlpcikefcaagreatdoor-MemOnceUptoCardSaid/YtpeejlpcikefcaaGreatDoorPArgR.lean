import Derived.ProofKit
import Derived.OpenShut
import Derived.Deep.Slices
import Derived.Test.YtpeejlpcikefcaaGreatDoorPWrite
import Derived.Test.YtpeejlpcikefcaaGreatDoorCards
import Derived.Test.YtpeejlpcikefcaaGreatDoorTie
import Derived.Deep.DeepHandedRow
import Derived.Lib.LaidTab
/- From what a row reads to the plain structures: each argument as a plain datum that memory holds, its size within the bulk. What every law of this seat shares around its walk: the arguments read behind the call as before; what the listed variable gives; what the bound gives. A list of lists of numbers that comes as an argument. -/
set_option maxRecDepth 100000
namespace Go.Proofs.YtpeejlpcikefcaaGreatDoor
section
open Go.RowKit Go.ChangeShapes Go.WideShapes Go.Deep
def alf(_:Int):Nat:=1
def an0(_:aay):Nat:=1
def szL {α:Type}(f:α->Nat)(l:List α):Nat:=(l.map f).sum+1
def an1(x:aaJ):Nat:=szL an0 x.args
def amY(x:acn):Nat:=szL an0 x.src
def adY(x:DBlock):Nat:=szL amY x.phis+szL an1 x.list+szL alf x.fin.to
def afC(x:aaz):Nat:=szL adY x.blocks+x.name.size
def aeO(x:aaF):Nat:=szL alf x.init+x.name.size
def ahh(x:adL):Nat:=szL aeO x.globals+szL afC x.funcs
variable {α:Type}
theorem ahi(f:α->Nat)(l:List α):1<=szL f l:=by unfold szL;omega
theorem ahj{f:α->Nat}(h:∀x,1<=f x)(l:List α):l.length<=szL f l:=by
 unfold szL
 induction l with
 | nil=>simp
 | cons a l ih=>have:=h a;simp only [Aba,Aa3,List.sum_cons];omega
theorem arW{f:α->Nat}{l:List α}{x:α}(h:x∈l):f x<=szL f l:=by
 unfold szL
 induction l with
 | nil=>cases h
 | cons a l ih =>
   simp only [Aa3,List.sum_cons];rcases Aam.1 h with rfl | h
   . omega
   . have:=ih h;omega
def rL {α:Type}(sz:Nat)(r:Rp α):Rp (List α):=fun S w cs l=>∃v,cs=[v]∧SlAt S w sz r v l
def Rd {α:Type}(t:TypeId)(sz:Nat)(r:Rp α)(mu:α->Nat):Prop :=
 ∀(H:Type) (enc:TypeId×Value->H) (w:World) (base:Nat) (spare:Nat->Bool) (held:Bool) (fuel:Nat) (cs:List Value) (x:DataW H×List MemPlace),
   DataW.trod enc Tryz.prog w base spare held fuel t cs=some x->∃d:α,r (fun b=>b<w.heap.size) w cs d∧cs.length=sz∧mu d<=Rows.uptoBulk x.1
variable {t:TypeId}
theorem ae3(ht:Tryz.prog.underlying t=some (.int .i64)):Rd t 1 acx alf:=by
 intro H enc w base spare held fuel cs x h;obtain⟨n,rfl,rfl,hw⟩:=DataW.trod_int ht h;have b:=bounds_i64 hw;exact⟨n,⟨rfl,b.1,b.2⟩,rfl,by simp [alf,Rows.uptoBulk]⟩
theorem arB(ht:Tryz.prog.underlying t=some .string):Rd t 1 arD (fun s=>s.size):=by
 intro H enc w base spare held fuel cs x h;obtain⟨s,rfl,rfl,hw⟩:=DataW.trod_string ht h;exact⟨s,rfl,rfl,by simp [Rows.uptoBulk]⟩
theorem gather{n:Nat}{p:Nat->α->Prop}{mu:α->Nat}{f:Nat->Nat}(h:∀i,i<n->∃d,p i d∧mu d<=f i) :
 ∃l:List α,l.length=n∧(∀(i:Nat) x,l[i]?=some x->p i x)∧(l.map mu).sum<=((List.range n).map f).sum:=by
 induction n with
 | zero=>exact⟨[],rfl,fun i x h=>by simp at h,Aac _⟩
 | succ n ih =>
   obtain⟨l,h1,h2,h3⟩:=ih (fun i hi=>h i (by omega));obtain⟨d,h4,h5⟩:=h n (by omega);refine⟨l++[d],by simp [h1],fun i x hx=>?_,?_⟩
   . rcases Abm i l.length with hi | hi
     . rw [Abj hi] at hx;exact h2 i x hx
     . rw [Abu hi] at hx
       have au:i - l.length=0:=by
        rcases Nat.eq_zero_or_pos (i - l.length) with h | h
        . exact h
        . rw [Aas (by simp;omega)] at hx;cases hx
       rw [au] at hx;cases hx;rw [show i=n by omega];exact h4
   . rw [List.range_succ,Aa8,Aa8,List.sum_append,List.sum_append]
     simp;omega
theorem ap8 {H:Type}(D:Nat->DataW H)(n:Nat):Rows.uptoBulkAll ((List.range n).map D)=((List.range n).map fun i=>Rows.uptoBulk (D i)).sum:=by
 have key:∀l:List Nat,Rows.uptoBulkAll (l.map D)=(l.map fun i=>Rows.uptoBulk (D i)).sum:=by
  intro l
  induction l with
  | nil=>simp [Rows.uptoBulkAll]
  | cons a l ih=>simp only [Aa3,Rows.uptoBulkAll,List.sum_cons,ih]
 exact key _
theorem adZ{e:TypeId}{sz:Nat}{r:Rp α}{mu:α->Nat}(ht:Tryz.prog.underlying t=some (.slice e))(hc:Tryz.prog.cellsOf e=sz)(h0:0<sz)(he:Rd e sz r mu):Rd t 1 (rL sz r) (szL mu):=by
 intro H enc w base spare held fuel cs x h;rcases open_slice ht h with⟨rfl,rfl⟩ | ⟨a,len,cap,m,n,D,Pl,rfl,hb,hl,hm,hmm,rfl,hx⟩
 . exact⟨[],⟨_,rfl,none,0,rfl,Aac _,by decide,fun h=>absurd rfl h⟩,rfl,by simp [szL,Rows.uptoBulk]⟩
 . rw [hc] at hx
   have ay:len<=m:=by rw [hmm];split <;> omega
   obtain ⟨l, h1, h2, h3⟩ := gather (n := len) (p := fun i d => ∃ ad, w.cells? base (a.add (i * sz)) sz = some ad ∧ r (fun b => b < w.heap.size) w ad d ∧ ad.length = sz) (mu := mu) (f := fun i => Rows.uptoBulk (D i)) (fun i hi => by
    obtain ⟨ad, h1, h2⟩ := hx i (by omega)
    obtain ⟨d, h3, h4, h5⟩ := he H enc w base spare held n ad _ h2
    exact ⟨d, ⟨ad, h1, h3, h4⟩, h5⟩)
   subst h1;unfold maxLen at hm;refine⟨l,⟨_,rfl,some a,cap,rfl,hl,by omega,fun aw=>?_⟩,rfl,?_⟩
   . have al:0<l.length:=List.length_pos_iff.2 aw
     obtain⟨b,off,spot⟩:=a;have ai:spot=none:=by
      obtain⟨ad,q1,-,q3⟩:=h2 0 l[0] (Aaa al);obtain⟨-,-,q4⟩:=World.cells?_some q1;have q5:=q4 0 h0;rw [Aaa (by omega)] at q5;simpa [Addr.add] using World.cell?_spot q5
     subst ai;have ae:∀i x,l[i]?=some x->∃cs,r (fun b=>b<w.heap.size) w cs x∧cs.length=sz∧aal w b (off+i * sz) cs:=by
      intro i x hx;obtain⟨ad,q1,q2,q3⟩:=h2 i x hx;obtain⟨-,-,q4⟩:=World.cells?_some q1;refine⟨ad,q2,q3,fun j v hj=>?_⟩;have av:j<sz:=by rw [<-q3];exact (Aad.1 hj).1
      have q5:=q4 j av;rw [hj,add_plain,add_plain] at q5;exact q5
     refine⟨b,off,rfl,?_,ae⟩;obtain⟨ad,q1,q2,q3⟩:=ae 0 l[0] (Aaa al);have q4:=q3 0 ad[0] (Aaa (by omega));exact aac q4
   . simp only [szL,Rows.uptoBulk,ap8];omega
theorem acP:Tryz.prog.cellsOf 3=1:=by kernel_rfl
theorem amZ:Tryz.prog.cellsOf 4=1:=by kernel_rfl
theorem ajW:Tryz.prog.cellsOf 9=1:=by kernel_rfl
theorem afD:Tryz.prog.cellsOf 41=2:=by kernel_rfl
theorem aiF:Tryz.prog.cellsOf 47=1:=by kernel_rfl
theorem aiG:Tryz.prog.cellsOf 42=1:=by kernel_rfl
theorem ajX:Tryz.prog.cellsOf 44=4:=by kernel_rfl
theorem ajY:Tryz.prog.cellsOf 49=8:=by kernel_rfl
theorem am0:Tryz.prog.cellsOf 39=1:=by kernel_rfl
theorem ajZ:Tryz.prog.cellsOf 115=2:=by kernel_rfl
theorem am1:Tryz.prog.cellsOf 38=1:=by kernel_rfl
theorem ahk:Tryz.prog.cellsOf 46=6:=by kernel_rfl
theorem aj0:Tryz.prog.cellsOf 35=1:=by kernel_rfl
theorem aiH:Tryz.prog.cellsOf 37=4:=by kernel_rfl
theorem alg:Tryz.prog.cellsOf 23=1:=by kernel_rfl
theorem agy:Tryz.prog.cellsOf 52=3:=by kernel_rfl
theorem ajk:Tryz.prog.cellsOf 22=1:=by kernel_rfl
theorem am2:Tryz.prog.cellsOf 25=2:=by kernel_rfl
theorem atX{l:List α}(h:l.length=1):∃a,l=[a]:=by
 match l,h with
 | [a],_=>exact⟨a,rfl⟩
theorem am3{l:List α}(h:l.length=2):∃a b,l=[a,b]:=by
 match l,h with
 | [a,b],_=>exact⟨a,b,rfl⟩
theorem ap9{l:List α}(h:l.length=3):∃a b c,l=[a,b,c]:=by
 match l,h with
 | [a,b,c],_=>exact⟨a,b,c,rfl⟩
theorem arX{l:List α}(h:l.length=4):∃a b c d,l=[a,b,c,d]:=by
 match l,h with
 | [a,b,c,d],_=>exact⟨a,b,c,d,rfl⟩
theorem as5{l:List α}(h:l.length=6):∃a b c d e f,l=[a,b,c,d,e,f]:=by
 match l,h with
 | [a,b,c,d,e,f],_=>exact⟨a,b,c,d,e,f,rfl⟩
theorem atY{l:List α}(h:l.length=8):∃a b c d e f g i,l=[a,b,c,d,e,f,g,i]:=by
 match l,h with
 | [a,b,c,d,e,f,g,i],_=>exact⟨a,b,c,d,e,f,g,i,rfl⟩
variable {f0 f1:Field}{p:Nat->Field->Prop}
theorem alh(h:∀(i:Nat) (f:Field),#[f0,f1][i]?=some f->p i f):p 0 f0∧p 1 f1:=⟨h 0 _ rfl,h 1 _ rfl⟩
variable {f2:Field}
theorem ali(h:∀(i:Nat) (f:Field),#[f0,f1,f2][i]?=some f->p i f):p 0 f0∧p 1 f1∧p 2 f2:=⟨h 0 _ rfl,h 1 _ rfl,h 2 _ rfl⟩
theorem arY{f3:Field}(h:∀(i:Nat) (f:Field),#[f0,f1,f2,f3][i]?=some f->p i f):p 0 f0∧p 1 f1∧p 2 f2∧p 3 f3:=⟨h 0 _ rfl,h 1 _ rfl,h 2 _ rfl,h 3 _ rfl⟩
theorem arZ{f3 f4 f5:Field}(h:∀(i:Nat) (f:Field),#[f0,f1,f2,f3,f4,f5][i]?=some f->p i f):p 0 f0∧p 1 f1∧p 2 f2∧p 3 f3∧p 4 f4∧p 5 f5:=⟨h 0 _ rfl,h 1 _ rfl,h 2 _ rfl,h 3 _ rfl,h 4 _ rfl,h 5 _ rfl⟩
theorem al9:Rd 41 2 agd an0:=by
 intro H enc w base spare held fuel cs x h;obtain⟨xs,n,-,rfl,hc,hl,hf⟩:=DataW.trod_struct Tryz.underlying41 h;rw [afD] at hc;obtain⟨c0,c1,rfl⟩:=am3 hc;obtain⟨x0,x1,rfl⟩:=am3 hl;obtain⟨f0,f1⟩:=alh hf;clear hf hc hl h;simp only [amZ,acP,List.drop_zero,Acc,Ab1,List.take_zero,Ab2,Ab3] at f0 f1;obtain⟨b,e0,-⟩:=DataW.trod_bool Tryz.underlying4 f0;obtain⟨d,⟨e1,h1⟩,-,-⟩:=ae3 Tryz.underlying3 _ _ _ _ _ _ _ _ _ f1;cases e0;cases e1;exact⟨⟨b,d⟩,⟨rfl,h1⟩,rfl,by simp [an0,Rows.uptoBulk]⟩
theorem an2:Rd 42 1 (rL 1 acx) (szL alf):=adZ Tryz.underlying42 acP (by decide) (ae3 Tryz.underlying3)
theorem an3:Rd 47 1 (rL 2 agd) (szL an0):=adZ Tryz.underlying47 afD (by decide) al9
theorem as6:Rd 44 4 at2 (fun e=>szL alf e.to):=by
 intro H enc w base spare held fuel cs x h;obtain⟨xs,n,-,rfl,hc,hl,hf⟩:=DataW.trod_struct Tryz.underlying44 h;rw [ajX] at hc;obtain⟨c0,c1,c2,c3,rfl⟩:=arX hc;obtain⟨x0,x1,x2,rfl⟩:=ap9 hl;obtain⟨f0,f1,f2⟩:=ali hf;clear hf hc hl h;simp only [afD,acP,aiG,List.drop_zero,Acc,Ab1,List.take_zero,Ab2,Ab3] at f0 f1 f2;obtain⟨d0,⟨e0,h0⟩,-,-⟩:=ae3 Tryz.underlying3 _ _ _ _ _ _ _ _ _ f0;obtain⟨d1,⟨e1,h1⟩,-,-⟩:=al9 _ _ _ _ _ _ _ _ _ f1;obtain⟨d2,⟨v2,e2,h2⟩,-,m2⟩:=an2 _ _ _ _ _ _ _ _ _ f2;cases e0;cases e1;cases e2;exact⟨⟨d0,d1,d2⟩,⟨_,rfl,h2,h0,h1⟩,rfl,by simp only [Rows.uptoBulk,Rows.uptoBulkAll,Aa3];omega⟩
theorem as7:Rd 49 8 acb an1:=by
 intro H enc w base spare held fuel cs x h;obtain⟨xs,n,-,rfl,hc,hl,hf⟩:=DataW.trod_struct Tryz.underlying49 h;rw [ajY] at hc;obtain⟨c0,c1,c2,c3,c4,c5,c6,c7,rfl⟩:=atY hc;obtain⟨x0,x1,x2,x3,x4,x5,rfl⟩:=as5 hl;obtain⟨f0,f1,f2,f3,f4,f5⟩:=arZ hf;clear hf hc hl h;simp only [afD,acP,aiF,List.drop_zero,Acc,Ab1,List.take_zero,Ab2,Ab3] at f0 f1 f2 f3 f4 f5;obtain⟨d0,⟨e0,h0⟩,-,-⟩:=ae3 Tryz.underlying3 _ _ _ _ _ _ _ _ _ f0;obtain⟨d1,⟨e1,h1⟩,-,-⟩:=ae3 Tryz.underlying3 _ _ _ _ _ _ _ _ _ f1;obtain⟨d2,⟨e2,h2⟩,-,-⟩:=al9 _ _ _ _ _ _ _ _ _ f2;obtain⟨d3,⟨e3,h3⟩,-,-⟩:=al9 _ _ _ _ _ _ _ _ _ f3;obtain⟨d4,⟨e4,h4⟩,-,-⟩:=ae3 Tryz.underlying3 _ _ _ _ _ _ _ _ _ f4;obtain⟨d5,⟨v5,e5,h5⟩,-,m5⟩:=an3 _ _ _ _ _ _ _ _ _ f5;cases e0;cases e1;cases e2;cases e3;cases e4;cases e5;exact⟨⟨d0,d1,d2,d3,d4,d5⟩,⟨_,rfl,h5,h0,h1,h2,h3,h4⟩,rfl,by simp only [an1,Rows.uptoBulk,Rows.uptoBulkAll,Aa3];omega⟩
theorem ar0:Rd 39 1 (rL 8 acb) (szL an1):=adZ Tryz.underlying39 ajY (by decide) as7
theorem as8:Rd 115 2 amd amY:=by
 intro H enc w base spare held fuel cs x h;obtain⟨xs,n,-,rfl,hc,hl,hf⟩:=DataW.trod_struct Tryz.underlying115 h;rw [ajZ] at hc;obtain⟨c0,c1,rfl⟩:=am3 hc;obtain⟨x0,x1,rfl⟩:=am3 hl;obtain⟨f0,f1⟩:=alh hf;clear hf hc hl h;simp only [aiF,acP,List.drop_zero,Acc,Ab1,List.take_zero,Ab2,Ab3] at f0 f1;obtain⟨d0,⟨e0,h0⟩,-,-⟩:=ae3 Tryz.underlying3 _ _ _ _ _ _ _ _ _ f0;obtain⟨d1,⟨v1,e1,h1⟩,-,m1⟩:=an3 _ _ _ _ _ _ _ _ _ f1;cases e0;cases e1;exact⟨⟨d0,d1⟩,⟨_,rfl,h1,h0⟩,rfl,by simp only [amY,Rows.uptoBulk,Rows.uptoBulkAll,Aa3];omega⟩
theorem ar1:Rd 38 1 (rL 2 amd) (szL amY):=adZ Tryz.underlying38 ajZ (by decide) as8
theorem aqa:Rd 46 6 aa0 adY:=by
 intro H enc w base spare held fuel cs x h;obtain⟨xs,n,-,rfl,hc,hl,hf⟩:=DataW.trod_struct Tryz.underlying46 h;rw [ahk] at hc;obtain⟨c0,c1,c2,c3,c4,c5,rfl⟩:=as5 hc;obtain⟨x0,x1,x2,rfl⟩:=ap9 hl;obtain⟨f0,f1,f2⟩:=ali hf;clear hf hc hl h;simp only [am1,am0,ajX,List.drop_zero,Acc,Ab1,List.take_zero,Ab2,Ab3] at f0 f1 f2;obtain⟨d0,⟨v0,e0,h0⟩,-,m0⟩:=ar1 _ _ _ _ _ _ _ _ _ f0;obtain⟨d1,⟨v1,e1,h1⟩,-,m1⟩:=ar0 _ _ _ _ _ _ _ _ _ f1;obtain⟨d2,h2,-,m2⟩:=as6 _ _ _ _ _ _ _ _ _ f2;cases e0;cases e1;exact⟨⟨d0,d1,d2⟩,⟨_,_,_,rfl,h0,h1,h2⟩,rfl,by dsimp only at m2;simp only [adY,Rows.uptoBulk,Rows.uptoBulkAll,Aa3];omega⟩
theorem an4:Rd 35 1 (rL 6 aa0) (szL adY):=adZ Tryz.underlying35 ahk (by decide) aqa
theorem ar2:Rd 37 4 abD afC:=by
 intro H enc w base spare held fuel cs x h;obtain⟨xs,n,-,rfl,hc,hl,hf⟩:=DataW.trod_struct Tryz.underlying37 h;rw [aiH] at hc;obtain⟨c0,c1,c2,c3,rfl⟩:=arX hc;obtain⟨x0,x1,x2,x3,rfl⟩:=arX hl;obtain⟨f0,f1,f2,f3⟩:=arY hf;clear hf hc hl h;simp only [ajW,acP,aj0,List.drop_zero,Acc,Ab1,List.take_zero,Ab2,Ab3] at f0 f1 f2 f3;obtain⟨d0,e0,-,m0⟩:=arB Tryz.underlying9 _ _ _ _ _ _ _ _ _ f0;obtain⟨d1,⟨e1,h1⟩,-,-⟩:=ae3 Tryz.underlying3 _ _ _ _ _ _ _ _ _ f1;obtain⟨d2,⟨e2,h2⟩,-,-⟩:=ae3 Tryz.underlying3 _ _ _ _ _ _ _ _ _ f2;obtain⟨d3,⟨v3,e3,h3⟩,-,m3⟩:=an4 _ _ _ _ _ _ _ _ _ f3;cases e0;cases e1;cases e2;cases e3;exact⟨⟨d0,d1,d2,d3⟩,⟨_,rfl,h3,h1,h2⟩,rfl,by dsimp only at m0;simp only [afC,Rows.uptoBulk,Rows.uptoBulkAll,Aa3];omega⟩
theorem aqb:Rd 23 1 (rL 4 abD) (szL afC):=adZ Tryz.underlying23 aiH (by decide) ar2
theorem an5:Rd 52 3 aaO aeO:=by
 intro H enc w base spare held fuel cs x h;obtain⟨xs,n,-,rfl,hc,hl,hf⟩:=DataW.trod_struct Tryz.underlying52 h;rw [agy] at hc;obtain⟨c0,c1,c2,rfl⟩:=ap9 hc;obtain⟨x0,x1,x2,rfl⟩:=ap9 hl;obtain⟨f0,f1,f2⟩:=ali hf;clear hf hc hl h;simp only [ajW,acP,aiG,List.drop_zero,Acc,Ab1,List.take_zero,Ab2,Ab3] at f0 f1 f2;obtain⟨d0,e0,-,m0⟩:=arB Tryz.underlying9 _ _ _ _ _ _ _ _ _ f0;obtain⟨d1,⟨e1,h1⟩,-,-⟩:=ae3 Tryz.underlying3 _ _ _ _ _ _ _ _ _ f1;obtain⟨d2,⟨v2,e2,h2⟩,-,m2⟩:=an2 _ _ _ _ _ _ _ _ _ f2;cases e0;cases e1;cases e2;exact⟨⟨d0,d1,d2⟩,⟨_,rfl,h2,h1⟩,rfl,by dsimp only at m0;simp only [aeO,Rows.uptoBulk,Rows.uptoBulkAll,Aa3];omega⟩
theorem am4:Rd 22 1 (rL 3 aaO) (szL aeO):=adZ Tryz.underlying22 agy (by decide) an5
theorem ar3:Rd 25 2 at3 ahh:=by
 intro H enc w base spare held fuel cs x h;obtain⟨xs,n,-,rfl,hc,hl,hf⟩:=DataW.trod_struct Tryz.underlying25 h;rw [am2] at hc;obtain⟨c0,c1,rfl⟩:=am3 hc;obtain⟨x0,x1,rfl⟩:=am3 hl;obtain⟨f0,f1⟩:=alh hf;clear hf hc hl h;simp only [ajk,alg,List.drop_zero,Acc,Ab1,List.take_zero,Ab2,Ab3] at f0 f1;obtain⟨d0,⟨v0,e0,h0⟩,-,m0⟩:=am4 _ _ _ _ _ _ _ _ _ f0;obtain⟨d1,⟨v1,e1,h1⟩,-,m1⟩:=aqb _ _ _ _ _ _ _ _ _ f1;cases e0;cases e1;exact⟨⟨d0,d1⟩,⟨_,_,rfl,h0,h1⟩,rfl,by simp only [ahh,Rows.uptoBulk,Rows.uptoBulkAll,Aa3];omega⟩
end
section
open Go.RowKit Go.ChangeShapes Go.WideShapes Go.ChangeAt Go.Deep
theorem own:ownKnob Tryz.prog.godebug=none:=by kernel_rfl
theorem ar4:laidOutB Tryz.prog=true:=by kernel_rfl
theorem aqc : Tryz.prog.globalNamed "turnery/code.ways" = some 0 := by kernel_rfl
theorem an6:(Tryz.prog.globals[0]?).map (·.type)=some 149:=by kernel_rfl
theorem as9:Tryz.prog.cellsOf 149=4:=by kernel_rfl
variable {W:World}
theorem ar5(h : laidMetH Tryz.prog [("turnery/code.ways", Rows.laid_turnery_code_ways)] W) : ae1 W := by
 have t : Lib.TabIs Tryz.prog W "turnery/code.ways" .i64 [0, 0, 1, 2] := Lib.tabIs_of_head (rest := []) aqc an6 Tryz.underlying149 Tryz.underlying3 acP as9 h
 exact⟨t.cell aqc 1 (by decide),t.cell aqc 2 (by decide),t.cell aqc 3 (by decide)⟩
def ahl(t:TypeId):Prop:=Tryz.prog.readableRec t=true∧t<Tryz.prog.types.size
theorem carried {t:TypeId}(h:(Tryz.prog.readableRec t&&decide (t<Tryz.prog.types.size))=true):ahl t:=by
 simp only [Abg,decide_eq_true_eq] at h;exact h
theorem aj1:ahl 25:=carried (by kernel_rfl)
variable {H:Type}
theorem aj2{enc:TypeId×Value->H}{W':World}{sp:Nat->Bool}(hb:Below W.heap.size W W'):∀(ts:List TypeId) (vs:List Value) (ds:List (DataW H)) (ps:List MemPlace),(∀t∈ts,ahl t) ->
 DataW.TrodAll enc Tryz.prog W 0 (fun _=>true) true ts vs ds ps->(∀p∈ps,p.block<W.heap.size)->(∀p∈ps,sp p.block=true)->DataW.TrodAll enc Tryz.prog W' 0 sp true ts vs ds ps
 | [],_,_,_,_,h,_,_=>by
   obtain⟨rfl,rfl,rfl⟩:=trodAll_nil h;exact trodAll_mk0
 | t :: ts,_,_,_,hc,h,ah,ak=>by
   obtain⟨v,vs,d,ds,p,q,rfl,rfl,rfl,h1,h2⟩:=trodAll_cons h;obtain⟨c1,c2⟩:=hc t (by simp)
   exact trodAll_cons_mk (WideElems.Trod_stays ar4 c1 c2 h1 (fun x hx => hb.same (ah x (by simp [hx]))) (fun x hx => ak x (by simp [hx])))
    (aj2 hb ts vs ds q (fun t ht=>hc t (by simp [ht])) h2 (fun x hx=>ah x (by simp [hx])) (fun x hx=>ak x (by simp [hx])))
theorem ahm{enc : TypeId × Value -> H}  {sp : Nat -> Bool} {hd : Bool} {b : Nat} : ∀ (ts : List TypeId) (vs : List Value) (ds : List (DataW H)) (ps : List MemPlace), DataW.TrodAll enc Tryz.prog W b sp hd ts vs ds ps -> ds.length = ts.length
 | [],_,_,_,h=>by
   obtain⟨rfl,rfl,rfl⟩:=trodAll_nil h;rfl
 | t :: ts,_,_,_,h=>by
   obtain⟨v,vs,d,ds,p,q,rfl,rfl,rfl,h1,h2⟩:=trodAll_cons h;simp [ahm ts vs ds q h2]
theorem aqd{enc : TypeId × Value -> H} {f : Func} {s : ChangeSpec} {W W' : World} {args : Array Value} {ds gs : List (DataW H)} {before : List MemPlace}
 (hv:s.vars=[]) (hr:f.resultTypes=#[4]) (ar:∀ds:List (DataW H),ds.length=f.params.toList.length->s.fn H ds={ results:=[.lit (.bool true)],args:=ds }) (ax:∀t∈f.params.toList,ahl t)
 (hW:DataW.Whole enc Tryz.prog f.params.toList s.vars false W args.toList ds gs before) (hb:Below W.heap.size W W'):s.post enc Tryz.prog f false true false false W args (.bool true) W':=by
 have ah:∀p∈before,p.block<W.heap.size:=fun p hp=>hW.lt p hp;have hold:∀p∈before,(fun b=>decide (b<W.heap.size)) p.block=true:=fun p hp=>by simpa using ah p hp
 have ao:=hW;obtain⟨p,q,hA,hV,rfl,hz,hn⟩:=hW;rw [hv] at hV;obtain⟨rfl,rfl⟩:=trodVars_none hV;have an:DataW.TrodAll enc Tryz.prog W 0 (fun _=>true) true f.params.toList args.toList ds p:=hA;rw [Ab4] at ah hold hz ao;have e1:s.fn H (ds++[])={ results:=[.lit (.bool true)],args:=ds }:=by rw [Ab4];exact ar ds (ahm _ _ _ _ an)
 have aj:∀(b:Nat) (sp:Nat->Bool) (hd:Bool),DataW.TrodAll enc Tryz.prog W' b sp hd f.resultTypes.toList ((Value.bool true).resultList f.resultTypes.size) (s.fn H (ds++[])).results []:=by
  intro b sp hd;rw [e1,hr];exact trodAll_cons_mk (shut_bool Tryz.underlying4 _) trodAll_mk0
 have ag:∀sp:Nat->Bool,(∀x∈p,sp x.block=true)->DataW.TrodAll enc Tryz.prog W' 0 sp true f.params.toList args.toList (s.fn H (ds++[])).args p:=by
  intro sp ak;rw [e1];exact aj2 hb _ _ _ _ ax an ah ak
 have af:∀sp:Nat->Bool,DataW.TrodVars enc Tryz.prog W' sp s.vars (s.fn H (ds++[])).vars []:=by
  intro sp;rw [e1,hv];exact rfl
 refine⟨ds,[],p,[],p,[],by simpa using ao,aj _ _ _,ag _ hold,af _,World.keptBut_mono (fun x hx=>⟨hx,by simpa using hx⟩) (hb.frame (·∈p)),fun _=>?_⟩;refine⟨?_,_,_,([]++p)++[],⟨[]++p,[],trodAll_append (ag _ (fun _ _=>rfl)) (aj _ _ _),af _,rfl,?_,fun h=>by cases h⟩,fun x hx _=>by simpa using hx⟩
 . exact ok_one hr rfl (okWide_bool_mk Tryz.underlying4 _)
 . intro b off hx
   have aq:MemPlace.cell b off∈p:=by simpa using hx
   rw [hb.frozen (ah _ aq)];exact hz b off aq
theorem an7{d:DataW H}{l:List (DataW H)}(h:d∈l):Rows.uptoBulk d<=Rows.uptoBulkAll l:=by
 induction l with
 | nil=>cases h
 | cons x r ih =>
   simp only [Rows.uptoBulkAll];rcases Aam.1 h with e | e
   . subst e;omega
   . have:=ih e;omega
theorem am5{l:List (DataW H)}(hk:Rows.uptoSmall H l=true):Rows.uptoBulkAll l<=1048576:=by
 have h:=of_decide_eq_true hk;exact h
structure ait (gs:List aaF)(fs:List aaz):Prop where
 size:ahh ⟨gs,fs⟩<=1048576
theorem aj3(x:aaF):1<=aeO x:=by have:=ahi alf x.init;unfold aeO;omega
theorem am6(x:aaz):1<=afC x:=by have:=ahi adY x.blocks;unfold afC;omega
theorem alj(x:DBlock):1<=adY x:=by have:=ahi amY x.phis;unfold adY;omega
theorem an8(x:acn):1<=amY x:=ahi _ _
theorem an9(x:aaJ):1<=an1 x:=ahi _ _
theorem ar6(l:List DBlock):aa6 l<=(l.map adY).sum:=by
 unfold aa6
 induction l with
 | nil=>exact Aac _
 | cons b l ih =>
   have h1:=ahj an8 b.phis;have h2:=ahj an9 b.list;simp only [Aa3,List.sum_cons];unfold adY at *;omega
variable {gs:List aaF}{fs:List aaz}
theorem ait.globals(h:ait gs fs):gs.length<=1048576:=by
 have h1:=h.size;have h2:=ahj aj3 gs;unfold ahh at h1;dsimp only at h1;omega
theorem ait.funcs(h:ait gs fs):fs.length<=1048576:=by
 have h1:=h.size;have h2:=ahj am6 fs;unfold ahh at h1;dsimp only at h1;omega
theorem ait.func(h:ait gs fs){k:Nat}{f:aaz}(hf:fs[k]?=some f):afC f<=1048576:=by
 have h1:=h.size;have h2:=arW (f:=afC) (Aae hf);unfold ahh at h1;dsimp only at h1;omega
theorem ait.many(h:ait gs fs):∀(k:Nat) (f:aaz),fs[k]?=some f->aa6 f.blocks<=1048576∧f.blocks.length<=1048576:=by
 intro k f hf;have h1:=h.func hf;have h2:=ar6 f.blocks;have h3:=ahj alj f.blocks;unfold afC szL at h1;unfold szL at h3;omega
theorem aqe{enc:TypeId×Value->H}{base:Nat}{v:Value}{d:DataW H}{p:List MemPlace}(hv:Value.okWide Tryz.prog W .any base 25 v)(h:DataW.Trod enc Tryz.prog W 0 (fun _=>true) true 25 v d p) :
 ∃ga gc fa fc gs fs,v = .agg #[.slice ga gs.length gc,.slice fa fs.length fc]∧SlAt (fun b=>b<W.heap.size) W 3 aaO (.slice ga gs.length gc) gs∧SlAt (fun b=>b<W.heap.size) W 4 abD (.slice fa fs.length fc) fs∧ahh ⟨gs,fs⟩<=Rows.uptoBulk d:=by
 obtain⟨cs,rfl,-⟩:=okWide_struct Tryz.underlying25 hv;obtain⟨fuel,h⟩:=h;obtain⟨u,⟨g,f,e,hg,hf⟩,-,hm⟩:=ar3 _ _ _ _ _ _ _ _ _ h;have e':cs.toList=[g,f]:=e;obtain⟨ga,gc,eg,-⟩:=id hg;obtain⟨fa,fc,ef,-⟩:=id hf;subst eg ef;refine⟨ga,gc,fa,fc,u.globals,u.funcs,?_,hg,hf,hm⟩;obtain⟨l⟩:=cs;have e2:l=_:=e';rw [e2]
noncomputable def ahn (os:Os):World :=
 { World.holding Tryz.prog os ⟨#[], #[], []⟩ with heap := (World.holding Tryz.prog os ⟨#[], #[], []⟩).heap.modify 0 fun
  | .cells _ t frozen => .cells #[.int .i64 0, .int .i64 0, .int .i64 1, .int .i64 2] t frozen
  | o => o }
end
section
open Go.RowKit Go.ChangeShapes Go.WideShapes Go.ChangeAt Go.Deep
end
end Go.Proofs.YtpeejlpcikefcaaGreatDoor
