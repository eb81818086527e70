import Derived.Test.YtnkfdeiigplhoaaGreatDoorRows
import Derived.Test.YtnkfdeiigplhoaaGreatDoorPChk3
import Derived.ProofKit
import Derived.OpenShut
import Derived.Deep.Slices
/- From what a row reads to the plain structures: each argument as a plain datum that memory holds, its size within the bulk. Pairs of numbers in memory. -/
namespace Go.Proofs.YtnkfdeiigplhoaaGreatDoor
section
open Go.RowKit Go.ChangeShapes Go.WideShapes Go.Deep
def ahF(_:Int):Nat:=1
def ams(_:DVal):Nat:=1
def szL {α:Type}(f:α->Nat)(l:List α):Nat:=(l.map f).sum+1
def amn(x:ad8):Nat:=szL ams x.args
def ak0(x:afu):Nat:=szL ams x.src
def ada(x:aad):Nat:=szL ak0 x.phis+szL amn x.list+szL ahF x.fin.to
def aeK(x:aao):Nat:=szL ada x.blocks+x.name.size
def adP(x:aas):Nat:=szL ahF x.init+x.name.size
def agp(x:aaC):Nat:=szL adP x.globals+szL aeK x.funcs
variable {α:Type}
theorem ago(f:α->Nat)(l:List α):1<=szL f l:=by unfold szL;omega
theorem ae4{f:α->Nat}(h:∀x,1<=f x)(l:List α):l.length<=szL f l:=by
 unfold szL
 induction l with
 | nil=>simp
 | cons a l ih=>have:=h a;simp only [Aao,Aa9,List.sum_cons];omega
theorem ao3{f:α->Nat}{l:List α}{x:α}(h:x∈l):f x<=szL f l:=by
 unfold szL
 induction l with
 | nil=>cases h
 | cons a l ih =>
   simp only [Aa9,List.sum_cons];rcases Aaw.1 h with rfl | h
   . omega
   . have:=ih h;omega
def rL {α:Type}(sz:Nat)(r:Rp α):Rp (List α):=fun S w cs l=>∃v,cs=[v]∧SlAt S w sz r v l
def Rd {α:Type}(t:TypeId)(sz:Nat)(r:Rp α)(mu:α->Nat):Prop :=
 ∀(H:Type) (enc:TypeId×Value->H) (w:World) (base:Nat) (spare:Nat->Bool) (held:Bool) (fuel:Nat) (cs:List Value) (x:DataW H×List MemPlace),
   DataW.trod enc Tryz.prog w base spare held fuel t cs=some x->∃d:α,r (fun b=>b<w.heap.size) w cs d∧cs.length=sz∧mu d<=Rows.uptoBulk x.1
variable {t:TypeId}
theorem ad3(ht:Tryz.prog.underlying t=some (.int .i64)):Rd t 1 aaO ahF:=by
 intro H enc w base spare held fuel cs x h;obtain⟨n,rfl,rfl,hw⟩:=DataW.trod_int ht h;have b:=bounds_i64 hw;exact⟨n,⟨rfl,b.1,b.2⟩,rfl,by simp [ahF,Rows.uptoBulk]⟩
theorem aog(ht:Tryz.prog.underlying t=some .string):Rd t 1 aof (fun s=>s.size):=by
 intro H enc w base spare held fuel cs x h;obtain⟨s,rfl,rfl,hw⟩:=DataW.trod_string ht h;exact⟨s,rfl,rfl,by simp [Rows.uptoBulk]⟩
theorem gather{n:Nat}{p:Nat->α->Prop}{mu:α->Nat}{f:Nat->Nat}(h:∀i,i<n->∃d,p i d∧mu d<=f i) :
 ∃l:List α,l.length=n∧(∀(i:Nat) x,l[i]?=some x->p i x)∧(l.map mu).sum<=((List.range n).map f).sum:=by
 induction n with
 | zero=>exact⟨[],rfl,fun i x h=>by simp at h,Aad _⟩
 | succ n ih =>
   obtain⟨l,h1,h2,h3⟩:=ih (fun i hi=>h i (by omega));obtain⟨d,h4,h5⟩:=h n (by omega);refine⟨l++[d],by simp [h1],fun i x hx=>?_,?_⟩
   . rcases Nat.lt_or_ge i l.length with hi | hi
     . rw [Abi hi] at hx;exact h2 i x hx
     . rw [Ab1 hi] at hx
       have ai:i - l.length=0:=by
        rcases Nat.eq_zero_or_pos (i - l.length) with h | h
        . exact h
        . rw [Aa8 (by simp;omega)] at hx;cases hx
       rw [ai] at hx;cases hx;rw [show i=n by omega];exact h4
   . rw [Abo,Aav,Aav,List.sum_append,List.sum_append]
     simp;omega
theorem am0 {H:Type}(D:Nat->DataW H)(n:Nat):Rows.uptoBulkAll ((List.range n).map D)=((List.range n).map fun i=>Rows.uptoBulk (D i)).sum:=by
 have key:∀l:List Nat,Rows.uptoBulkAll (l.map D)=(l.map fun i=>Rows.uptoBulk (D i)).sum:=by
  intro l
  induction l with
  | nil=>simp [Rows.uptoBulkAll]
  | cons a l ih=>simp only [Aa9,Rows.uptoBulkAll,List.sum_cons,ih]
 exact key _
theorem ac9{e:TypeId}{sz:Nat}{r:Rp α}{mu:α->Nat}(ht:Tryz.prog.underlying t=some (.slice e))(hc:Tryz.prog.cellsOf e=sz)(h0:0<sz)(he:Rd e sz r mu):Rd t 1 (rL sz r) (szL mu):=by
 intro H enc w base spare held fuel cs x h;rcases open_slice ht h with⟨rfl,rfl⟩ | ⟨a,len,cap,m,n,D,Pl,rfl,hb,hl,hm,hmm,rfl,hx⟩
 . exact⟨[],⟨_,rfl,none,0,rfl,Aad _,by decide,fun h=>absurd rfl h⟩,rfl,by simp [szL,Rows.uptoBulk]⟩
 . rw [hc] at hx
   have al:len<=m:=by rw [hmm];split <;> omega
   obtain ⟨l, h1, h2, h3⟩ := gather (n := len) (p := fun i d => ∃ ad, w.cells? base (a.add (i * sz)) sz = some ad ∧ r (fun b => b < w.heap.size) w ad d ∧ ad.length = sz) (mu := mu) (f := fun i => Rows.uptoBulk (D i)) (fun i hi => by
    obtain ⟨ad, h1, h2⟩ := hx i (by omega)
    obtain ⟨d, h3, h4, h5⟩ := he H enc w base spare held n ad _ h2
    exact ⟨d, ⟨ad, h1, h3, h4⟩, h5⟩)
   subst h1;unfold maxLen at hm;refine⟨l,⟨_,rfl,some a,cap,rfl,hl,by omega,fun ak=>?_⟩,rfl,?_⟩
   . have ag:0<l.length:=List.length_pos_iff.2 ak
     obtain⟨b,off,spot⟩:=a;have af:spot=none:=by
      obtain⟨ad,q1,-,q3⟩:=h2 0 l[0] (Aaa ag);obtain⟨-,-,q4⟩:=World.cells?_some q1;have q5:=q4 0 h0;rw [Aaa (by omega)] at q5;simpa [Addr.add] using World.cell?_spot q5
     subst af;have ae:∀i x,l[i]?=some x->∃cs,r (fun b=>b<w.heap.size) w cs x∧cs.length=sz∧aaj w b (off+i * sz) cs:=by
      intro i x hx;obtain⟨ad,q1,q2,q3⟩:=h2 i x hx;obtain⟨-,-,q4⟩:=World.cells?_some q1;refine⟨ad,q2,q3,fun j v hj=>?_⟩;have aj:j<sz:=by rw [<-q3];exact (Aae.1 hj).1
      have q5:=q4 j aj;rw [hj,add_plain,add_plain] at q5;exact q5
     refine⟨b,off,rfl,?_,ae⟩;obtain⟨ad,q1,q2,q3⟩:=ae 0 l[0] (Aaa ag);have q4:=q3 0 ad[0] (Aaa (by omega));exact aac q4
   . simp only [szL,Rows.uptoBulk,am0];omega
theorem abY:Tryz.prog.cellsOf 3=1:=by kernel_rfl
theorem akn:Tryz.prog.cellsOf 4=1:=by kernel_rfl
theorem ah0:Tryz.prog.cellsOf 9=1:=by kernel_rfl
theorem aen:Tryz.prog.cellsOf 55=2:=by kernel_rfl
theorem agL:Tryz.prog.cellsOf 60=1:=by kernel_rfl
theorem agK:Tryz.prog.cellsOf 26=1:=by kernel_rfl
theorem ahX:Tryz.prog.cellsOf 57=4:=by kernel_rfl
theorem ahY:Tryz.prog.cellsOf 62=8:=by kernel_rfl
theorem ako:Tryz.prog.cellsOf 53=1:=by kernel_rfl
theorem ahZ:Tryz.prog.cellsOf 114=2:=by kernel_rfl
theorem akp:Tryz.prog.cellsOf 52=1:=by kernel_rfl
theorem afR:Tryz.prog.cellsOf 59=6:=by kernel_rfl
theorem ahW:Tryz.prog.cellsOf 48=1:=by kernel_rfl
theorem agJ:Tryz.prog.cellsOf 50=4:=by kernel_rfl
theorem aiP:Tryz.prog.cellsOf 23=1:=by kernel_rfl
theorem afa:Tryz.prog.cellsOf 68=3:=by kernel_rfl
theorem ahi:Tryz.prog.cellsOf 22=1:=by kernel_rfl
theorem akq:Tryz.prog.cellsOf 25=2:=by kernel_rfl
theorem akI{l:List α}(h:l.length=2):∃a b,l=[a,b]:=by
 match l,h with
 | [a,b],_=>exact⟨a,b,rfl⟩
theorem al2{l:List α}(h:l.length=3):∃a b c,l=[a,b,c]:=by
 match l,h with
 | [a,b,c],_=>exact⟨a,b,c,rfl⟩
theorem aoJ{l:List α}(h:l.length=4):∃a b c d,l=[a,b,c,d]:=by
 match l,h with
 | [a,b,c,d],_=>exact⟨a,b,c,d,rfl⟩
theorem apM{l:List α}(h:l.length=6):∃a b c d e f,l=[a,b,c,d,e,f]:=by
 match l,h with
 | [a,b,c,d,e,f],_=>exact⟨a,b,c,d,e,f,rfl⟩
theorem aqa{l:List α}(h:l.length=8):∃a b c d e f g i,l=[a,b,c,d,e,f,g,i]:=by
 match l,h with
 | [a,b,c,d,e,f,g,i],_=>exact⟨a,b,c,d,e,f,g,i,rfl⟩
variable {f0 f1:Field}{p:Nat->Field->Prop}
theorem ai1(h:∀(i:Nat) (f:Field),#[f0,f1][i]?=some f->p i f):p 0 f0∧p 1 f1:=⟨h 0 _ rfl,h 1 _ rfl⟩
variable {f2:Field}
theorem ai2(h:∀(i:Nat) (f:Field),#[f0,f1,f2][i]?=some f->p i f):p 0 f0∧p 1 f1∧p 2 f2:=⟨h 0 _ rfl,h 1 _ rfl,h 2 _ rfl⟩
theorem aoz{f3:Field}(h:∀(i:Nat) (f:Field),#[f0,f1,f2,f3][i]?=some f->p i f):p 0 f0∧p 1 f1∧p 2 f2∧p 3 f3:=⟨h 0 _ rfl,h 1 _ rfl,h 2 _ rfl,h 3 _ rfl⟩
theorem aoA{f3 f4 f5:Field}(h:∀(i:Nat) (f:Field),#[f0,f1,f2,f3,f4,f5][i]?=some f->p i f):p 0 f0∧p 1 f1∧p 2 f2∧p 3 f3∧p 4 f4∧p 5 f5:=⟨h 0 _ rfl,h 1 _ rfl,h 2 _ rfl,h 3 _ rfl,h 4 _ rfl,h 5 _ rfl⟩
theorem ajZ:Rd 55 2 ady ams:=by
 intro H enc w base spare held fuel cs x h;obtain⟨xs,n,-,rfl,hc,hl,hf⟩:=DataW.trod_struct Tryz.underlying55 h;rw [aen] at hc;obtain⟨c0,c1,rfl⟩:=akI hc;obtain⟨x0,x1,rfl⟩:=akI hl;obtain⟨f0,f1⟩:=ai1 hf;clear hf hc hl h;simp only [akn,abY,List.drop_zero,List.drop_succ_cons,Abw,List.take_zero,Abu,Abv] at f0 f1;obtain⟨b,e0,-⟩:=DataW.trod_bool Tryz.underlying4 f0;obtain⟨d,⟨e1,h1⟩,-,-⟩:=ad3 Tryz.underlying3 _ _ _ _ _ _ _ _ _ f1;cases e0;cases e1;exact⟨⟨b,d⟩,⟨rfl,h1⟩,rfl,by simp [ams,Rows.uptoBulk]⟩
theorem ajj:Rd 26 1 (rL 1 aaO) (szL ahF):=ac9 Tryz.underlying26 abY (by decide) (ad3 Tryz.underlying3)
theorem ame:Rd 60 1 (rL 2 ady) (szL ams):=ac9 Tryz.underlying60 aen (by decide) ajZ
theorem apS:Rd 57 4 aqb (fun e=>szL ahF e.to):=by
 intro H enc w base spare held fuel cs x h;obtain⟨xs,n,-,rfl,hc,hl,hf⟩:=DataW.trod_struct Tryz.underlying57 h;rw [ahX] at hc;obtain⟨c0,c1,c2,c3,rfl⟩:=aoJ hc;obtain⟨x0,x1,x2,rfl⟩:=al2 hl;obtain⟨f0,f1,f2⟩:=ai2 hf;clear hf hc hl h;simp only [aen,abY,agK,List.drop_zero,List.drop_succ_cons,Abw,List.take_zero,Abu,Abv] at f0 f1 f2;obtain⟨d0,⟨e0,h0⟩,-,-⟩:=ad3 Tryz.underlying3 _ _ _ _ _ _ _ _ _ f0;obtain⟨d1,⟨e1,h1⟩,-,-⟩:=ajZ _ _ _ _ _ _ _ _ _ f1;obtain⟨d2,⟨v2,e2,h2⟩,-,m2⟩:=ajj _ _ _ _ _ _ _ _ _ f2;cases e0;cases e1;cases e2;exact⟨⟨d0,d1,d2⟩,⟨_,rfl,h2,h0,h1⟩,rfl,by simp only [Rows.uptoBulk,Rows.uptoBulkAll,Aa9];omega⟩
theorem apT:Rd 62 8 ajY amn:=by
 intro H enc w base spare held fuel cs x h;obtain⟨xs,n,-,rfl,hc,hl,hf⟩:=DataW.trod_struct Tryz.underlying62 h;rw [ahY] at hc;obtain⟨c0,c1,c2,c3,c4,c5,c6,c7,rfl⟩:=aqa hc;obtain⟨x0,x1,x2,x3,x4,x5,rfl⟩:=apM hl;obtain⟨f0,f1,f2,f3,f4,f5⟩:=aoA hf;clear hf hc hl h;simp only [aen,abY,agL,List.drop_zero,List.drop_succ_cons,Abw,List.take_zero,Abu,Abv] at f0 f1 f2 f3 f4 f5;obtain⟨d0,⟨e0,h0⟩,-,-⟩:=ad3 Tryz.underlying3 _ _ _ _ _ _ _ _ _ f0;obtain⟨d1,⟨e1,h1⟩,-,-⟩:=ad3 Tryz.underlying3 _ _ _ _ _ _ _ _ _ f1;obtain⟨d2,⟨e2,h2⟩,-,-⟩:=ajZ _ _ _ _ _ _ _ _ _ f2;obtain⟨d3,⟨e3,h3⟩,-,-⟩:=ajZ _ _ _ _ _ _ _ _ _ f3;obtain⟨d4,⟨e4,h4⟩,-,-⟩:=ad3 Tryz.underlying3 _ _ _ _ _ _ _ _ _ f4;obtain⟨d5,⟨v5,e5,h5⟩,-,m5⟩:=ame _ _ _ _ _ _ _ _ _ f5;cases e0;cases e1;cases e2;cases e3;cases e4;cases e5;exact⟨⟨d0,d1,d2,d3,d4,d5⟩,⟨_,rfl,h5,h0,h1,h2,h3,h4⟩,rfl,by simp only [amn,Rows.uptoBulk,Rows.uptoBulkAll,Aa9];omega⟩
theorem aoP:Rd 53 1 (rL 8 ajY) (szL amn):=ac9 Tryz.underlying53 ahY (by decide) apT
theorem apU:Rd 114 2 ag4 ak0:=by
 intro H enc w base spare held fuel cs x h;obtain⟨xs,n,-,rfl,hc,hl,hf⟩:=DataW.trod_struct Tryz.underlying114 h;rw [ahZ] at hc;obtain⟨c0,c1,rfl⟩:=akI hc;obtain⟨x0,x1,rfl⟩:=akI hl;obtain⟨f0,f1⟩:=ai1 hf;clear hf hc hl h;simp only [agL,abY,List.drop_zero,List.drop_succ_cons,Abw,List.take_zero,Abu,Abv] at f0 f1;obtain⟨d0,⟨e0,h0⟩,-,-⟩:=ad3 Tryz.underlying3 _ _ _ _ _ _ _ _ _ f0;obtain⟨d1,⟨v1,e1,h1⟩,-,m1⟩:=ame _ _ _ _ _ _ _ _ _ f1;cases e0;cases e1;exact⟨⟨d0,d1⟩,⟨_,rfl,h1,h0⟩,rfl,by simp only [ak0,Rows.uptoBulk,Rows.uptoBulkAll,Aa9];omega⟩
theorem aoQ:Rd 52 1 (rL 2 ag4) (szL ak0):=ac9 Tryz.underlying52 ahZ (by decide) apU
theorem anC:Rd 59 6 aaJ ada:=by
 intro H enc w base spare held fuel cs x h;obtain⟨xs,n,-,rfl,hc,hl,hf⟩:=DataW.trod_struct Tryz.underlying59 h;rw [afR] at hc;obtain⟨c0,c1,c2,c3,c4,c5,rfl⟩:=apM hc;obtain⟨x0,x1,x2,rfl⟩:=al2 hl;obtain⟨f0,f1,f2⟩:=ai2 hf;clear hf hc hl h;simp only [akp,ako,ahX,List.drop_zero,List.drop_succ_cons,Abw,List.take_zero,Abu,Abv] at f0 f1 f2;obtain⟨d0,⟨v0,e0,h0⟩,-,m0⟩:=aoQ _ _ _ _ _ _ _ _ _ f0;obtain⟨d1,⟨v1,e1,h1⟩,-,m1⟩:=aoP _ _ _ _ _ _ _ _ _ f1;obtain⟨d2,h2,-,m2⟩:=apS _ _ _ _ _ _ _ _ _ f2;cases e0;cases e1;exact⟨⟨d0,d1,d2⟩,⟨_,_,_,rfl,h0,h1,h2⟩,rfl,by dsimp only at m2;simp only [ada,Rows.uptoBulk,Rows.uptoBulkAll,Aa9];omega⟩
theorem amc:Rd 48 1 (rL 6 aaJ) (szL ada):=ac9 Tryz.underlying48 afR (by decide) anC
theorem aoO:Rd 50 4 aaZ aeK:=by
 intro H enc w base spare held fuel cs x h;obtain⟨xs,n,-,rfl,hc,hl,hf⟩:=DataW.trod_struct Tryz.underlying50 h;rw [agJ] at hc;obtain⟨c0,c1,c2,c3,rfl⟩:=aoJ hc;obtain⟨x0,x1,x2,x3,rfl⟩:=aoJ hl;obtain⟨f0,f1,f2,f3⟩:=aoz hf;clear hf hc hl h;simp only [ah0,abY,ahW,List.drop_zero,List.drop_succ_cons,Abw,List.take_zero,Abu,Abv] at f0 f1 f2 f3;obtain⟨d0,e0,-,m0⟩:=aog Tryz.underlying9 _ _ _ _ _ _ _ _ _ f0;obtain⟨d1,⟨e1,h1⟩,-,-⟩:=ad3 Tryz.underlying3 _ _ _ _ _ _ _ _ _ f1;obtain⟨d2,⟨e2,h2⟩,-,-⟩:=ad3 Tryz.underlying3 _ _ _ _ _ _ _ _ _ f2;obtain⟨d3,⟨v3,e3,h3⟩,-,m3⟩:=amc _ _ _ _ _ _ _ _ _ f3;cases e0;cases e1;cases e2;cases e3;exact⟨⟨d0,d1,d2,d3⟩,⟨_,rfl,h3,h1,h2⟩,rfl,by dsimp only at m0;simp only [aeK,Rows.uptoBulk,Rows.uptoBulkAll,Aa9];omega⟩
theorem anD:Rd 23 1 (rL 4 aaZ) (szL aeK):=ac9 Tryz.underlying23 agJ (by decide) aoO
theorem amd:Rd 68 3 aaE adP:=by
 intro H enc w base spare held fuel cs x h;obtain⟨xs,n,-,rfl,hc,hl,hf⟩:=DataW.trod_struct Tryz.underlying68 h;rw [afa] at hc;obtain⟨c0,c1,c2,rfl⟩:=al2 hc;obtain⟨x0,x1,x2,rfl⟩:=al2 hl;obtain⟨f0,f1,f2⟩:=ai2 hf;clear hf hc hl h;simp only [ah0,abY,agK,List.drop_zero,List.drop_succ_cons,Abw,List.take_zero,Abu,Abv] at f0 f1 f2;obtain⟨d0,e0,-,m0⟩:=aog Tryz.underlying9 _ _ _ _ _ _ _ _ _ f0;obtain⟨d1,⟨e1,h1⟩,-,-⟩:=ad3 Tryz.underlying3 _ _ _ _ _ _ _ _ _ f1;obtain⟨d2,⟨v2,e2,h2⟩,-,m2⟩:=ajj _ _ _ _ _ _ _ _ _ f2;cases e0;cases e1;cases e2;exact⟨⟨d0,d1,d2⟩,⟨_,rfl,h2,h1⟩,rfl,by dsimp only at m0;simp only [adP,Rows.uptoBulk,Rows.uptoBulkAll,Aa9];omega⟩
theorem akS:Rd 22 1 (rL 3 aaE) (szL adP):=ac9 Tryz.underlying22 afa (by decide) amd
theorem aoR:Rd 25 2 aqc agp:=by
 intro H enc w base spare held fuel cs x h;obtain⟨xs,n,-,rfl,hc,hl,hf⟩:=DataW.trod_struct Tryz.underlying25 h;rw [akq] at hc;obtain⟨c0,c1,rfl⟩:=akI hc;obtain⟨x0,x1,rfl⟩:=akI hl;obtain⟨f0,f1⟩:=ai1 hf;clear hf hc hl h;simp only [ahi,aiP,List.drop_zero,List.drop_succ_cons,Abw,List.take_zero,Abu,Abv] at f0 f1;obtain⟨d0,⟨v0,e0,h0⟩,-,m0⟩:=akS _ _ _ _ _ _ _ _ _ f0;obtain⟨d1,⟨v1,e1,h1⟩,-,m1⟩:=anD _ _ _ _ _ _ _ _ _ f1;cases e0;cases e1;exact⟨⟨d0,d1⟩,⟨_,_,rfl,h0,h1⟩,rfl,by simp only [agp,Rows.uptoBulk,Rows.uptoBulkAll,Aa9];omega⟩
end
section
open Go.RowKit
def aix:Rp (Int×Int):=fun _ _ cs x=>cs=[.int .i64 x.1,.int .i64 x.2]
theorem abE:aix.Mono:=⟨fun _ _ _ _ _ _ _ _ h=>h⟩
theorem ang:(Tryz.prog.info? 188).map (fun i=>(i.zero,i.size,i.bytes))=some (some (.agg #[.int .i64 0,.int .i64 0]),2,16):=by kernel_rfl
end
end Go.Proofs.YtnkfdeiigplhoaaGreatDoor
