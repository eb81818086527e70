import Derived.ProofKit
import Derived.OpenShut
import Derived.Deep.Slices
import Derived.Test.YtpeejlpcikefcaaGreatDoorPWrite
import Derived.Test.YtpeejlpcikefcaaGreatDoorCards
import Derived.Test.YtpeejlpcikefcaaGreatDoorTie
import Derived.Deep.DeepHandedRow
import Derived.Lib.LaidTab
/- From what a row reads to the plain structures: each argument as a plain datum that memory holds, its size within the bulk. What every law of this seat shares around its walk: the arguments read behind the call as before; what the listed variable gives; what the bound gives. A list of lists of numbers that comes as an argument. -/
set_option maxRecDepth 100000
namespace Go.Proofs.YtpeejlpcikefcaaGreatDoor
section
open Go.RowKit Go.ChangeShapes Go.WideShapes Go.Deep
def alh(_:Int):Nat:=1
def anX(_:aaA):Nat:=1
def szL {α:Type}(f:α->Nat)(l:List α):Nat:=(l.map f).sum+1
def anY(x:aaK):Nat:=szL anX x.args
def amW(x:acr):Nat:=szL anX x.src
def adY(x:DBlock):Nat:=szL amW x.phis+szL anY x.list+szL alh x.fin.to
def afD(x:aav):Nat:=szL adY x.blocks+x.name.size
def aeP(x:aaG):Nat:=szL alh x.init+x.name.size
def ahg(x:adz):Nat:=szL aeP x.globals+szL afD x.funcs
variable {α:Type}
theorem ahh(f:α->Nat)(l:List α):1<=szL f l:=by unfold szL;omega
theorem ahi{f:α->Nat}(h:∀x,1<=f x)(l:List α):l.length<=szL f l:=by
 unfold szL
 induction l with
 | nil=>simp
 | cons a l ih=>have:=h a;simp only [Aa8,Aa1,Abj];omega
theorem ar6{f:α->Nat}{l:List α}{x:α}(h:x∈l):f x<=szL f l:=by
 unfold szL
 induction l with
 | nil=>cases h
 | cons a l ih =>
   simp only [Aa1,Abj];rcases Aam.1 h with rfl | h
   . omega
   . have:=ih h;omega
def rL {α:Type}(sz:Nat)(r:Rp α):Rp (List α):=fun S w cs l=>∃v,cs=[v]∧SlAt S w sz r v l
def Rd {α:Type}(t:TypeId)(sz:Nat)(r:Rp α)(mu:α->Nat):Prop :=
 ∀(H:Type) (enc:TypeId×Value->H) (w:World) (base:Nat) (spare:Nat->Bool) (held:Bool) (fuel:Nat) (cs:List Value) (x:DataW H×List MemPlace),
   DataW.trod enc Tryz.prog w base spare held fuel t cs=some x->∃d:α,r (fun b=>b<w.heap.size) w cs d∧cs.length=sz∧mu d<=Rows.uptoBulk x.1
variable {t:TypeId}
theorem ae5(ht:Tryz.prog.underlying t=some (.int .i64)):Rd t 1 acz alh:=by
 intro H enc w base spare held fuel cs x h;obtain⟨n,rfl,rfl,hw⟩:=DataW.trod_int ht h;have b:=bounds_i64 hw;exact⟨n,⟨rfl,b.1,b.2⟩,rfl,by simp [alh,Rows.uptoBulk]⟩
theorem arL(ht:Tryz.prog.underlying t=some .string):Rd t 1 arN (fun s=>s.size):=by
 intro H enc w base spare held fuel cs x h;obtain⟨s,rfl,rfl,hw⟩:=DataW.trod_string ht h;exact⟨s,rfl,rfl,by simp [Rows.uptoBulk]⟩
theorem gather{n:Nat}{p:Nat->α->Prop}{mu:α->Nat}{f:Nat->Nat}(h:∀i,i<n->∃d,p i d∧mu d<=f i) :
 ∃l:List α,l.length=n∧(∀(i:Nat) x,l[i]?=some x->p i x)∧(l.map mu).sum<=((List.range n).map f).sum:=by
 induction n with
 | zero=>exact⟨[],rfl,fun i x h=>by simp at h,Aac _⟩
 | succ n ih =>
   obtain⟨l,h1,h2,h3⟩:=ih (fun i hi=>h i (by omega));obtain⟨d,h4,h5⟩:=h n (by omega);refine⟨l++[d],by simp [h1],fun i x hx=>?_,?_⟩
   . rcases Abn i l.length with hi | hi
     . rw [Abl hi] at hx;exact h2 i x hx
     . rw [Aby hi] at hx
       have ax:i - l.length=0:=by
        rcases Nat.eq_zero_or_pos (i - l.length) with h | h
        . exact h
        . rw [Aap (by simp;omega)] at hx;cases hx
       rw [ax] at hx;cases hx;rw [show i=n by omega];exact h4
   . rw [List.range_succ,Aa9,Aa9,List.sum_append,List.sum_append]
     simp;omega
theorem aqd {H:Type}(D:Nat->DataW H)(n:Nat):Rows.uptoBulkAll ((List.range n).map D)=((List.range n).map fun i=>Rows.uptoBulk (D i)).sum:=by
 have key:∀l:List Nat,Rows.uptoBulkAll (l.map D)=(l.map fun i=>Rows.uptoBulk (D i)).sum:=by
  intro l
  induction l with
  | nil=>simp [Rows.uptoBulkAll]
  | cons a l ih=>simp only [Aa1,Rows.uptoBulkAll,Abj,ih]
 exact key _
theorem adZ{e:TypeId}{sz:Nat}{r:Rp α}{mu:α->Nat}(ht:Tryz.prog.underlying t=some (.slice e))(hc:Tryz.prog.cellsOf e=sz)(h0:0<sz)(he:Rd e sz r mu):Rd t 1 (rL sz r) (szL mu):=by
 intro H enc w base spare held fuel cs x h;rcases open_slice ht h with⟨rfl,rfl⟩ | ⟨a,len,cap,m,n,D,Pl,rfl,hb,hl,hm,hmm,rfl,hx⟩
 . exact⟨[],⟨_,rfl,none,0,rfl,Aac _,by decide,fun h=>absurd rfl h⟩,rfl,by simp [szL,Rows.uptoBulk]⟩
 . rw [hc] at hx
   have ay:len<=m:=by rw [hmm];split <;> omega
   obtain ⟨l, h1, h2, h3⟩ := gather (n := len) (p := fun i d => ∃ ad, w.cells? base (a.add (i * sz)) sz = some ad ∧ r (fun b => b < w.heap.size) w ad d ∧ ad.length = sz) (mu := mu) (f := fun i => Rows.uptoBulk (D i)) (fun i hi => by
    obtain ⟨ad, h1, h2⟩ := hx i (by omega)
    obtain ⟨d, h3, h4, h5⟩ := he H enc w base spare held n ad _ h2
    exact ⟨d, ⟨ad, h1, h3, h4⟩, h5⟩)
   subst h1;unfold maxLen at hm;refine⟨l,⟨_,rfl,some a,cap,rfl,hl,by omega,fun ar=>?_⟩,rfl,?_⟩
   . have ao:0<l.length:=List.length_pos_iff.2 ar
     obtain⟨b,off,spot⟩:=a;have aj:spot=none:=by
      obtain⟨ad,q1,-,q3⟩:=h2 0 l[0] (Aaa ao);obtain⟨-,-,q4⟩:=World.cells?_some q1;have q5:=q4 0 h0;rw [Aaa (by omega)] at q5;simpa [Addr.add] using World.cell?_spot q5
     subst aj;have ae:∀i x,l[i]?=some x->∃cs,r (fun b=>b<w.heap.size) w cs x∧cs.length=sz∧aal w b (off+i * sz) cs:=by
      intro i x hx;obtain⟨ad,q1,q2,q3⟩:=h2 i x hx;obtain⟨-,-,q4⟩:=World.cells?_some q1;refine⟨ad,q2,q3,fun j v hj=>?_⟩;have au:j<sz:=by rw [<-q3];exact (Aad.1 hj).1
      have q5:=q4 j au;rw [hj,add_plain,add_plain] at q5;exact q5
     refine⟨b,off,rfl,?_,ae⟩;obtain⟨ad,q1,q2,q3⟩:=ae 0 l[0] (Aaa ao);have q4:=q3 0 ad[0] (Aaa (by omega));exact aac q4
   . simp only [szL,Rows.uptoBulk,aqd];omega
theorem acO:Tryz.prog.cellsOf 3=1:=by kernel_rfl
theorem amX:Tryz.prog.cellsOf 4=1:=by kernel_rfl
theorem ajV:Tryz.prog.cellsOf 9=1:=by kernel_rfl
theorem afE:Tryz.prog.cellsOf 41=2:=by kernel_rfl
theorem aiA:Tryz.prog.cellsOf 47=1:=by kernel_rfl
theorem aiB:Tryz.prog.cellsOf 42=1:=by kernel_rfl
theorem ajW:Tryz.prog.cellsOf 44=4:=by kernel_rfl
theorem ajX:Tryz.prog.cellsOf 49=8:=by kernel_rfl
theorem amY:Tryz.prog.cellsOf 39=1:=by kernel_rfl
theorem ajY:Tryz.prog.cellsOf 115=2:=by kernel_rfl
theorem amZ:Tryz.prog.cellsOf 38=1:=by kernel_rfl
theorem ahj:Tryz.prog.cellsOf 46=6:=by kernel_rfl
theorem ajZ:Tryz.prog.cellsOf 35=1:=by kernel_rfl
theorem aiC:Tryz.prog.cellsOf 37=4:=by kernel_rfl
theorem ali:Tryz.prog.cellsOf 23=1:=by kernel_rfl
theorem agA:Tryz.prog.cellsOf 52=3:=by kernel_rfl
theorem aje:Tryz.prog.cellsOf 22=1:=by kernel_rfl
theorem am0:Tryz.prog.cellsOf 25=2:=by kernel_rfl
theorem at3{l:List α}(h:l.length=1):∃a,l=[a]:=by
 match l,h with
 | [a],_=>exact⟨a,rfl⟩
theorem am1{l:List α}(h:l.length=2):∃a b,l=[a,b]:=by
 match l,h with
 | [a,b],_=>exact⟨a,b,rfl⟩
theorem aqe{l:List α}(h:l.length=3):∃a b c,l=[a,b,c]:=by
 match l,h with
 | [a,b,c],_=>exact⟨a,b,c,rfl⟩
theorem ar7{l:List α}(h:l.length=4):∃a b c d,l=[a,b,c,d]:=by
 match l,h with
 | [a,b,c,d],_=>exact⟨a,b,c,d,rfl⟩
theorem atd{l:List α}(h:l.length=6):∃a b c d e f,l=[a,b,c,d,e,f]:=by
 match l,h with
 | [a,b,c,d,e,f],_=>exact⟨a,b,c,d,e,f,rfl⟩
theorem at4{l:List α}(h:l.length=8):∃a b c d e f g i,l=[a,b,c,d,e,f,g,i]:=by
 match l,h with
 | [a,b,c,d,e,f,g,i],_=>exact⟨a,b,c,d,e,f,g,i,rfl⟩
variable {f0 f1:Field}{p:Nat->Field->Prop}
theorem alj(h:∀(i:Nat) (f:Field),#[f0,f1][i]?=some f->p i f):p 0 f0∧p 1 f1:=⟨h 0 _ rfl,h 1 _ rfl⟩
variable {f2:Field}
theorem alk(h:∀(i:Nat) (f:Field),#[f0,f1,f2][i]?=some f->p i f):p 0 f0∧p 1 f1∧p 2 f2:=⟨h 0 _ rfl,h 1 _ rfl,h 2 _ rfl⟩
theorem ar8{f3:Field}(h:∀(i:Nat) (f:Field),#[f0,f1,f2,f3][i]?=some f->p i f):p 0 f0∧p 1 f1∧p 2 f2∧p 3 f3:=⟨h 0 _ rfl,h 1 _ rfl,h 2 _ rfl,h 3 _ rfl⟩
theorem ar9{f3 f4 f5:Field}(h:∀(i:Nat) (f:Field),#[f0,f1,f2,f3,f4,f5][i]?=some f->p i f):p 0 f0∧p 1 f1∧p 2 f2∧p 3 f3∧p 4 f4∧p 5 f5:=⟨h 0 _ rfl,h 1 _ rfl,h 2 _ rfl,h 3 _ rfl,h 4 _ rfl,h 5 _ rfl⟩
theorem al8:Rd 41 2 agi anX:=by
 intro H enc w base spare held fuel cs x h;obtain⟨xs,n,-,rfl,hc,hl,hf⟩:=DataW.trod_struct Tryz.underlying41 h;rw [afE] at hc;obtain⟨c0,c1,rfl⟩:=am1 hc;obtain⟨x0,x1,rfl⟩:=am1 hl;obtain⟨f0,f1⟩:=alj hf;clear hf hc hl h;simp only [amX,acO,List.drop_zero,Acf,Ab2,List.take_zero,Ab3,Ab4] at f0 f1;obtain⟨b,e0,-⟩:=DataW.trod_bool Tryz.underlying4 f0;obtain⟨d,⟨e1,h1⟩,-,-⟩:=ae5 Tryz.underlying3 _ _ _ _ _ _ _ _ _ f1;cases e0;cases e1;exact⟨⟨b,d⟩,⟨rfl,h1⟩,rfl,by simp [anX,Rows.uptoBulk]⟩
theorem anZ:Rd 42 1 (rL 1 acz) (szL alh):=adZ Tryz.underlying42 acO (by decide) (ae5 Tryz.underlying3)
theorem an0:Rd 47 1 (rL 2 agi) (szL anX):=adZ Tryz.underlying47 afE (by decide) al8
theorem ate:Rd 44 4 at6 (fun e=>szL alh e.to):=by
 intro H enc w base spare held fuel cs x h;obtain⟨xs,n,-,rfl,hc,hl,hf⟩:=DataW.trod_struct Tryz.underlying44 h;rw [ajW] at hc;obtain⟨c0,c1,c2,c3,rfl⟩:=ar7 hc;obtain⟨x0,x1,x2,rfl⟩:=aqe hl;obtain⟨f0,f1,f2⟩:=alk hf;clear hf hc hl h;simp only [afE,acO,aiB,List.drop_zero,Acf,Ab2,List.take_zero,Ab3,Ab4] at f0 f1 f2;obtain⟨d0,⟨e0,h0⟩,-,-⟩:=ae5 Tryz.underlying3 _ _ _ _ _ _ _ _ _ f0;obtain⟨d1,⟨e1,h1⟩,-,-⟩:=al8 _ _ _ _ _ _ _ _ _ f1;obtain⟨d2,⟨v2,e2,h2⟩,-,m2⟩:=anZ _ _ _ _ _ _ _ _ _ f2;cases e0;cases e1;cases e2;exact⟨⟨d0,d1,d2⟩,⟨_,rfl,h2,h0,h1⟩,rfl,by simp only [Rows.uptoBulk,Rows.uptoBulkAll,Aa1];omega⟩
theorem atf:Rd 49 8 acs anY:=by
 intro H enc w base spare held fuel cs x h;obtain⟨xs,n,-,rfl,hc,hl,hf⟩:=DataW.trod_struct Tryz.underlying49 h;rw [ajX] at hc;obtain⟨c0,c1,c2,c3,c4,c5,c6,c7,rfl⟩:=at4 hc;obtain⟨x0,x1,x2,x3,x4,x5,rfl⟩:=atd hl;obtain⟨f0,f1,f2,f3,f4,f5⟩:=ar9 hf;clear hf hc hl h;simp only [afE,acO,aiA,List.drop_zero,Acf,Ab2,List.take_zero,Ab3,Ab4] at f0 f1 f2 f3 f4 f5;obtain⟨d0,⟨e0,h0⟩,-,-⟩:=ae5 Tryz.underlying3 _ _ _ _ _ _ _ _ _ f0;obtain⟨d1,⟨e1,h1⟩,-,-⟩:=ae5 Tryz.underlying3 _ _ _ _ _ _ _ _ _ f1;obtain⟨d2,⟨e2,h2⟩,-,-⟩:=al8 _ _ _ _ _ _ _ _ _ f2;obtain⟨d3,⟨e3,h3⟩,-,-⟩:=al8 _ _ _ _ _ _ _ _ _ f3;obtain⟨d4,⟨e4,h4⟩,-,-⟩:=ae5 Tryz.underlying3 _ _ _ _ _ _ _ _ _ f4;obtain⟨d5,⟨v5,e5,h5⟩,-,m5⟩:=an0 _ _ _ _ _ _ _ _ _ f5;cases e0;cases e1;cases e2;cases e3;cases e4;cases e5;exact⟨⟨d0,d1,d2,d3,d4,d5⟩,⟨_,rfl,h5,h0,h1,h2,h3,h4⟩,rfl,by simp only [anY,Rows.uptoBulk,Rows.uptoBulkAll,Aa1];omega⟩
theorem asa:Rd 39 1 (rL 8 acs) (szL anY):=adZ Tryz.underlying39 ajX (by decide) atf
theorem atg:Rd 115 2 amb amW:=by
 intro H enc w base spare held fuel cs x h;obtain⟨xs,n,-,rfl,hc,hl,hf⟩:=DataW.trod_struct Tryz.underlying115 h;rw [ajY] at hc;obtain⟨c0,c1,rfl⟩:=am1 hc;obtain⟨x0,x1,rfl⟩:=am1 hl;obtain⟨f0,f1⟩:=alj hf;clear hf hc hl h;simp only [aiA,acO,List.drop_zero,Acf,Ab2,List.take_zero,Ab3,Ab4] at f0 f1;obtain⟨d0,⟨e0,h0⟩,-,-⟩:=ae5 Tryz.underlying3 _ _ _ _ _ _ _ _ _ f0;obtain⟨d1,⟨v1,e1,h1⟩,-,m1⟩:=an0 _ _ _ _ _ _ _ _ _ f1;cases e0;cases e1;exact⟨⟨d0,d1⟩,⟨_,rfl,h1,h0⟩,rfl,by simp only [amW,Rows.uptoBulk,Rows.uptoBulkAll,Aa1];omega⟩
theorem asb:Rd 38 1 (rL 2 amb) (szL amW):=adZ Tryz.underlying38 ajY (by decide) atg
theorem aqf:Rd 46 6 aa2 adY:=by
 intro H enc w base spare held fuel cs x h;obtain⟨xs,n,-,rfl,hc,hl,hf⟩:=DataW.trod_struct Tryz.underlying46 h;rw [ahj] at hc;obtain⟨c0,c1,c2,c3,c4,c5,rfl⟩:=atd hc;obtain⟨x0,x1,x2,rfl⟩:=aqe hl;obtain⟨f0,f1,f2⟩:=alk hf;clear hf hc hl h;simp only [amZ,amY,ajW,List.drop_zero,Acf,Ab2,List.take_zero,Ab3,Ab4] at f0 f1 f2;obtain⟨d0,⟨v0,e0,h0⟩,-,m0⟩:=asb _ _ _ _ _ _ _ _ _ f0;obtain⟨d1,⟨v1,e1,h1⟩,-,m1⟩:=asa _ _ _ _ _ _ _ _ _ f1;obtain⟨d2,h2,-,m2⟩:=ate _ _ _ _ _ _ _ _ _ f2;cases e0;cases e1;exact⟨⟨d0,d1,d2⟩,⟨_,_,_,rfl,h0,h1,h2⟩,rfl,by dsimp only at m2;simp only [adY,Rows.uptoBulk,Rows.uptoBulkAll,Aa1];omega⟩
theorem an1:Rd 35 1 (rL 6 aa2) (szL adY):=adZ Tryz.underlying35 ahj (by decide) aqf
theorem asc:Rd 37 4 abC afD:=by
 intro H enc w base spare held fuel cs x h;obtain⟨xs,n,-,rfl,hc,hl,hf⟩:=DataW.trod_struct Tryz.underlying37 h;rw [aiC] at hc;obtain⟨c0,c1,c2,c3,rfl⟩:=ar7 hc;obtain⟨x0,x1,x2,x3,rfl⟩:=ar7 hl;obtain⟨f0,f1,f2,f3⟩:=ar8 hf;clear hf hc hl h;simp only [ajV,acO,ajZ,List.drop_zero,Acf,Ab2,List.take_zero,Ab3,Ab4] at f0 f1 f2 f3;obtain⟨d0,e0,-,m0⟩:=arL Tryz.underlying9 _ _ _ _ _ _ _ _ _ f0;obtain⟨d1,⟨e1,h1⟩,-,-⟩:=ae5 Tryz.underlying3 _ _ _ _ _ _ _ _ _ f1;obtain⟨d2,⟨e2,h2⟩,-,-⟩:=ae5 Tryz.underlying3 _ _ _ _ _ _ _ _ _ f2;obtain⟨d3,⟨v3,e3,h3⟩,-,m3⟩:=an1 _ _ _ _ _ _ _ _ _ f3;cases e0;cases e1;cases e2;cases e3;exact⟨⟨d0,d1,d2,d3⟩,⟨_,rfl,h3,h1,h2⟩,rfl,by dsimp only at m0;simp only [afD,Rows.uptoBulk,Rows.uptoBulkAll,Aa1];omega⟩
theorem aqg:Rd 23 1 (rL 4 abC) (szL afD):=adZ Tryz.underlying23 aiC (by decide) asc
theorem an2:Rd 52 3 aaO aeP:=by
 intro H enc w base spare held fuel cs x h;obtain⟨xs,n,-,rfl,hc,hl,hf⟩:=DataW.trod_struct Tryz.underlying52 h;rw [agA] at hc;obtain⟨c0,c1,c2,rfl⟩:=aqe hc;obtain⟨x0,x1,x2,rfl⟩:=aqe hl;obtain⟨f0,f1,f2⟩:=alk hf;clear hf hc hl h;simp only [ajV,acO,aiB,List.drop_zero,Acf,Ab2,List.take_zero,Ab3,Ab4] at f0 f1 f2;obtain⟨d0,e0,-,m0⟩:=arL Tryz.underlying9 _ _ _ _ _ _ _ _ _ f0;obtain⟨d1,⟨e1,h1⟩,-,-⟩:=ae5 Tryz.underlying3 _ _ _ _ _ _ _ _ _ f1;obtain⟨d2,⟨v2,e2,h2⟩,-,m2⟩:=anZ _ _ _ _ _ _ _ _ _ f2;cases e0;cases e1;cases e2;exact⟨⟨d0,d1,d2⟩,⟨_,rfl,h2,h1⟩,rfl,by dsimp only at m0;simp only [aeP,Rows.uptoBulk,Rows.uptoBulkAll,Aa1];omega⟩
theorem am2:Rd 22 1 (rL 3 aaO) (szL aeP):=adZ Tryz.underlying22 agA (by decide) an2
theorem asd:Rd 25 2 at7 ahg:=by
 intro H enc w base spare held fuel cs x h;obtain⟨xs,n,-,rfl,hc,hl,hf⟩:=DataW.trod_struct Tryz.underlying25 h;rw [am0] at hc;obtain⟨c0,c1,rfl⟩:=am1 hc;obtain⟨x0,x1,rfl⟩:=am1 hl;obtain⟨f0,f1⟩:=alj hf;clear hf hc hl h;simp only [aje,ali,List.drop_zero,Acf,Ab2,List.take_zero,Ab3,Ab4] at f0 f1;obtain⟨d0,⟨v0,e0,h0⟩,-,m0⟩:=am2 _ _ _ _ _ _ _ _ _ f0;obtain⟨d1,⟨v1,e1,h1⟩,-,m1⟩:=aqg _ _ _ _ _ _ _ _ _ f1;cases e0;cases e1;exact⟨⟨d0,d1⟩,⟨_,_,rfl,h0,h1⟩,rfl,by simp only [ahg,Rows.uptoBulk,Rows.uptoBulkAll,Aa1];omega⟩
end
section
open Go.RowKit Go.ChangeShapes Go.WideShapes Go.ChangeAt Go.Deep
theorem own:ownKnob Tryz.prog.godebug=none:=by kernel_rfl
theorem ase:laidOutB Tryz.prog=true:=by kernel_rfl
theorem aqh : Tryz.prog.globalNamed "turnery/code.ways" = some 0 := by kernel_rfl
theorem an3:(Tryz.prog.globals[0]?).map (·.type)=some 149:=by kernel_rfl
theorem ath:Tryz.prog.cellsOf 149=4:=by kernel_rfl
variable {W:World}
theorem asf(h : laidMetH Tryz.prog [("turnery/code.ways", Rows.laid_turnery_code_ways)] W) : ae2 W := by
 have t : Lib.TabIs Tryz.prog W "turnery/code.ways" .i64 [0, 0, 1, 2] := Lib.tabIs_of_head (rest := []) aqh an3 Tryz.underlying149 Tryz.underlying3 acO ath h
 exact⟨t.cell aqh 1 (by decide),t.cell aqh 2 (by decide),t.cell aqh 3 (by decide)⟩
def ahk(t:TypeId):Prop:=Tryz.prog.readableRec t=true∧t<Tryz.prog.types.size
theorem carried {t:TypeId}(h:(Tryz.prog.readableRec t&&decide (t<Tryz.prog.types.size))=true):ahk t:=by
 simp only [Ab0,decide_eq_true_eq] at h;exact h
theorem aj0:ahk 25:=carried (by kernel_rfl)
variable {H:Type}
theorem aj1{enc:TypeId×Value->H}{W':World}{sp:Nat->Bool}(hb:Below W.heap.size W W'):∀(ts:List TypeId) (vs:List Value) (ds:List (DataW H)) (ps:List MemPlace),(∀t∈ts,ahk t) ->
 DataW.TrodAll enc Tryz.prog W 0 (fun _=>true) true ts vs ds ps->(∀p∈ps,p.block<W.heap.size)->(∀p∈ps,sp p.block=true)->DataW.TrodAll enc Tryz.prog W' 0 sp true ts vs ds ps
 | [],_,_,_,_,h,_,_=>by
   obtain⟨rfl,rfl,rfl⟩:=trodAll_nil h;exact trodAll_mk0
 | t :: ts,_,_,_,hc,h,ah,ak=>by
   obtain⟨v,vs,d,ds,p,q,rfl,rfl,rfl,h1,h2⟩:=trodAll_cons h;obtain⟨c1,c2⟩:=hc t (by simp)
   exact trodAll_cons_mk (WideElems.Trod_stays ase c1 c2 h1 (fun x hx => hb.same (ah x (by simp [hx]))) (fun x hx => ak x (by simp [hx])))
    (aj1 hb ts vs ds q (fun t ht=>hc t (by simp [ht])) h2 (fun x hx=>ah x (by simp [hx])) (fun x hx=>ak x (by simp [hx])))
theorem ahl{enc : TypeId × Value -> H}  {sp : Nat -> Bool} {hd : Bool} {b : Nat} : ∀ (ts : List TypeId) (vs : List Value) (ds : List (DataW H)) (ps : List MemPlace), DataW.TrodAll enc Tryz.prog W b sp hd ts vs ds ps -> ds.length = ts.length
 | [],_,_,_,h=>by
   obtain⟨rfl,rfl,rfl⟩:=trodAll_nil h;rfl
 | t :: ts,_,_,_,h=>by
   obtain⟨v,vs,d,ds,p,q,rfl,rfl,rfl,h1,h2⟩:=trodAll_cons h;simp [ahl ts vs ds q h2]
theorem aqi{enc : TypeId × Value -> H} {f : Func} {s : ChangeSpec} {W W' : World} {args : Array Value} {ds gs : List (DataW H)} {before : List MemPlace}
 (hv:s.vars=[]) (hr:f.resultTypes=#[4]) (av:∀ds:List (DataW H),ds.length=f.params.toList.length->s.fn H ds={ results:=[.lit (.bool true)],args:=ds }) (aw:∀t∈f.params.toList,ahk t)
 (hW:DataW.Whole enc Tryz.prog f.params.toList s.vars false W args.toList ds gs before) (hb:Below W.heap.size W W'):s.post enc Tryz.prog f false true false false W args (.bool true) W':=by
 have ah:∀p∈before,p.block<W.heap.size:=fun p hp=>hW.lt p hp;have hold:∀p∈before,(fun b=>decide (b<W.heap.size)) p.block=true:=fun p hp=>by simpa using ah p hp
 have al:=hW;obtain⟨p,q,hA,hV,rfl,hz,hn⟩:=hW;rw [hv] at hV;obtain⟨rfl,rfl⟩:=trodVars_none hV;have an:DataW.TrodAll enc Tryz.prog W 0 (fun _=>true) true f.params.toList args.toList ds p:=hA;rw [Ab5] at ah hold hz al;have e1:s.fn H (ds++[])={ results:=[.lit (.bool true)],args:=ds }:=by rw [Ab5];exact av ds (ahl _ _ _ _ an)
 have ai:∀(b:Nat) (sp:Nat->Bool) (hd:Bool),DataW.TrodAll enc Tryz.prog W' b sp hd f.resultTypes.toList ((Value.bool true).resultList f.resultTypes.size) (s.fn H (ds++[])).results []:=by
  intro b sp hd;rw [e1,hr];exact trodAll_cons_mk (shut_bool Tryz.underlying4 _) trodAll_mk0
 have af:∀sp:Nat->Bool,(∀x∈p,sp x.block=true)->DataW.TrodAll enc Tryz.prog W' 0 sp true f.params.toList args.toList (s.fn H (ds++[])).args p:=by
  intro sp ak;rw [e1];exact aj1 hb _ _ _ _ aw an ah ak
 have ag:∀sp:Nat->Bool,DataW.TrodVars enc Tryz.prog W' sp s.vars (s.fn H (ds++[])).vars []:=by
  intro sp;rw [e1,hv];exact rfl
 refine⟨ds,[],p,[],p,[],by simpa using al,ai _ _ _,af _ hold,ag _,World.keptBut_mono (fun x hx=>⟨hx,by simpa using hx⟩) (hb.frame (·∈p)),fun _=>?_⟩;refine⟨?_,_,_,([]++p)++[],⟨[]++p,[],trodAll_append (af _ (fun _ _=>rfl)) (ai _ _ _),ag _,rfl,?_,fun h=>by cases h⟩,fun x hx _=>by simpa using hx⟩
 . exact ok_one hr rfl (okWide_bool_mk Tryz.underlying4 _)
 . intro b off hx
   have aq:MemPlace.cell b off∈p:=by simpa using hx
   rw [hb.frozen (ah _ aq)];exact hz b off aq
theorem an4{d:DataW H}{l:List (DataW H)}(h:d∈l):Rows.uptoBulk d<=Rows.uptoBulkAll l:=by
 induction l with
 | nil=>cases h
 | cons x r ih =>
   simp only [Rows.uptoBulkAll];rcases Aam.1 h with e | e
   . subst e;omega
   . have:=ih e;omega
theorem am3{l:List (DataW H)}(hk:Rows.uptoSmall H l=true):Rows.uptoBulkAll l<=1048576:=by
 have h:=of_decide_eq_true hk;exact h
structure aip (gs:List aaG)(fs:List aav):Prop where
 size:ahg ⟨gs,fs⟩<=1048576
theorem aj2(x:aaG):1<=aeP x:=by have:=ahh alh x.init;unfold aeP;omega
theorem am4(x:aav):1<=afD x:=by have:=ahh adY x.blocks;unfold afD;omega
theorem alm(x:DBlock):1<=adY x:=by have:=ahh amW x.phis;unfold adY;omega
theorem an5(x:acr):1<=amW x:=ahh _ _
theorem an6(x:aaK):1<=anY x:=ahh _ _
theorem asg(l:List DBlock):aa5 l<=(l.map adY).sum:=by
 unfold aa5
 induction l with
 | nil=>exact Aac _
 | cons b l ih =>
   have h1:=ahi an5 b.phis;have h2:=ahi an6 b.list;simp only [Aa1,Abj];unfold adY at *;omega
variable {gs:List aaG}{fs:List aav}
theorem aip.globals(h:aip gs fs):gs.length<=1048576:=by
 have h1:=h.size;have h2:=ahi aj2 gs;unfold ahg at h1;dsimp only at h1;omega
theorem aip.funcs(h:aip gs fs):fs.length<=1048576:=by
 have h1:=h.size;have h2:=ahi am4 fs;unfold ahg at h1;dsimp only at h1;omega
theorem aip.func(h:aip gs fs){k:Nat}{f:aav}(hf:fs[k]?=some f):afD f<=1048576:=by
 have h1:=h.size;have h2:=ar6 (f:=afD) (Aae hf);unfold ahg at h1;dsimp only at h1;omega
theorem aip.many(h:aip gs fs):∀(k:Nat) (f:aav),fs[k]?=some f->aa5 f.blocks<=1048576∧f.blocks.length<=1048576:=by
 intro k f hf;have h1:=h.func hf;have h2:=asg f.blocks;have h3:=ahi alm f.blocks;unfold afD szL at h1;unfold szL at h3;omega
theorem aqj{enc:TypeId×Value->H}{base:Nat}{v:Value}{d:DataW H}{p:List MemPlace}(hv:Value.okWide Tryz.prog W .any base 25 v)(h:DataW.Trod enc Tryz.prog W 0 (fun _=>true) true 25 v d p) :
 ∃ga gc fa fc gs fs,v = .agg #[.slice ga gs.length gc,.slice fa fs.length fc]∧SlAt (fun b=>b<W.heap.size) W 3 aaO (.slice ga gs.length gc) gs∧SlAt (fun b=>b<W.heap.size) W 4 abC (.slice fa fs.length fc) fs∧ahg ⟨gs,fs⟩<=Rows.uptoBulk d:=by
 obtain⟨cs,rfl,-⟩:=okWide_struct Tryz.underlying25 hv;obtain⟨fuel,h⟩:=h;obtain⟨u,⟨g,f,e,hg,hf⟩,-,hm⟩:=asd _ _ _ _ _ _ _ _ _ h;have e':cs.toList=[g,f]:=e;obtain⟨ga,gc,eg,-⟩:=id hg;obtain⟨fa,fc,ef,-⟩:=id hf;subst eg ef;refine⟨ga,gc,fa,fc,u.globals,u.funcs,?_,hg,hf,hm⟩;obtain⟨l⟩:=cs;have e2:l=_:=e';rw [e2]
noncomputable def ahm (os:Os):World :=
 { World.holding Tryz.prog os ⟨#[], #[], []⟩ with heap := (World.holding Tryz.prog os ⟨#[], #[], []⟩).heap.modify 0 fun
  | .cells _ t frozen => .cells #[.int .i64 0, .int .i64 0, .int .i64 1, .int .i64 2] t frozen
  | o => o }
end
section
open Go.RowKit Go.ChangeShapes Go.WideShapes Go.ChangeAt Go.Deep
end
end Go.Proofs.YtpeejlpcikefcaaGreatDoor
