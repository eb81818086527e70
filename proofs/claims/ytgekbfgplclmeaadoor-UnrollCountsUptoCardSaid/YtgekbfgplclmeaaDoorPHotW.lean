import Derived.ProofKit
import Derived.OpenShut
import Derived.Deep.Slices
import Derived.Test.YtgekbfgplclmeaaDoorPSameU
import Derived.Test.YtgekbfgplclmeaaDoorCards
import Derived.Test.YtgekbfgplclmeaaDoorTie
import Derived.Deep.DeepHandedRow
import Derived.Lib.LaidTab
/- From what a row reads to the plain structures: each argument as a plain datum that memory holds, its size within the bulk. What every law of this seat shares around its walk: the arguments read behind the call as before; what the listed variable gives; what the bound gives. The law WeighOnce: its walk. The law WeighHot: its walk. -/
set_option maxRecDepth 100000
namespace Go.Proofs.YtgekbfgplclmeaaDoor
section
open Go.RowKit Go.ChangeShapes Go.WideShapes Go.Deep
def af3(_:Int):Nat:=1
def ajz(_:ab3):Nat:=1
def szL {α:Type}(f:α->Nat)(l:List α):Nat:=(l.map f).sum+1
def ajv(x:abo):Nat:=szL ajz x.args
def ail(x:adO):Nat:=szL ajz x.src
def acz(x:aad):Nat:=szL ail x.phis+szL ajv x.list+szL af3 x.fin.to
def adI(x:aal):Nat:=szL acz x.blocks+x.name.size
def ac2(x:aat):Nat:=szL af3 x.init+x.name.size
def aeS(x:aax):Nat:=szL ac2 x.globals+szL adI x.funcs
variable {α:Type}
theorem aeR(f:α->Nat)(l:List α):1<=szL f l:=by unfold szL;omega
theorem adY{f:α->Nat}(h:∀x,1<=f x)(l:List α):l.length<=szL f l:=by
 unfold szL
 induction l with
 | nil=>simp
 | cons a l ih=>have:=h a;simp only [Aaq,Aa2,List.sum_cons];omega
theorem alB{f:α->Nat}{l:List α}{x:α}(h:x∈l):f x<=szL f l:=by
 unfold szL
 induction l with
 | nil=>cases h
 | cons a l ih =>
   simp only [Aa2,List.sum_cons];rcases Aax.1 h with rfl | h
   . omega
   . have:=ih h;omega
def rL {α:Type}(sz:Nat)(r:Rp α):Rp (List α):=fun S w cs l=>∃v,cs=[v]∧SlAt S w sz r v l
def Rd {α:Type}(t:TypeId)(sz:Nat)(r:Rp α)(mu:α->Nat):Prop :=
 ∀(H:Type) (enc:TypeId×Value->H) (w:World) (base:Nat) (spare:Nat->Bool) (held:Bool) (fuel:Nat) (cs:List Value) (x:DataW H×List MemPlace),
   DataW.trod enc Tryd.prog w base spare held fuel t cs=some x->∃d:α,r (fun b=>b<w.heap.size) w cs d∧cs.length=sz∧mu d<=Rows.uptoBulk x.1
variable {t:TypeId}
theorem ac8(ht:Tryd.prog.underlying t=some (.int .i64)):Rd t 1 abe af3:=by
 intro H enc w base spare held fuel cs x h;obtain⟨n,rfl,rfl,hw⟩:=DataW.trod_int ht h;have b:=bounds_i64 hw;exact⟨n,⟨rfl,b.1,b.2⟩,rfl,by simp [af3,Rows.uptoBulk]⟩
theorem akP(ht:Tryd.prog.underlying t=some .string):Rd t 1 akO (fun s=>s.size):=by
 intro H enc w base spare held fuel cs x h;obtain⟨s,rfl,rfl,hw⟩:=DataW.trod_string ht h;exact⟨s,rfl,rfl,by simp [Rows.uptoBulk]⟩
theorem gather{n:Nat}{p:Nat->α->Prop}{mu:α->Nat}{f:Nat->Nat}(h:∀i,i<n->∃d,p i d∧mu d<=f i) :
 ∃l:List α,l.length=n∧(∀(i:Nat) x,l[i]?=some x->p i x)∧(l.map mu).sum<=((List.range n).map f).sum:=by
 induction n with
 | zero=>exact⟨[],rfl,fun i x h=>by simp at h,Aad _⟩
 | succ n ih =>
   obtain⟨l,h1,h2,h3⟩:=ih (fun i hi=>h i (by omega));obtain⟨d,h4,h5⟩:=h n (by omega);refine⟨l++[d],by simp [h1],fun i x hx=>?_,?_⟩
   . rcases Nat.lt_or_ge i l.length with hi | hi
     . rw [Abh hi] at hx;exact h2 i x hx
     . rw [List.getElem?_append_right hi] at hx
       have av:i - l.length=0:=by
        rcases Nat.eq_zero_or_pos (i - l.length) with h | h
        . exact h
        . rw [List.getElem?_eq_none (by simp;omega)] at hx;cases hx
       rw [av] at hx;cases hx;rw [show i=n by omega];exact h4
   . rw [List.range_succ,Aat,Aat,List.sum_append,List.sum_append]
     simp;omega
theorem aj2 {H:Type}(D:Nat->DataW H)(n:Nat):Rows.uptoBulkAll ((List.range n).map D)=((List.range n).map fun i=>Rows.uptoBulk (D i)).sum:=by
 have key:∀l:List Nat,Rows.uptoBulkAll (l.map D)=(l.map fun i=>Rows.uptoBulk (D i)).sum:=by
  intro l
  induction l with
  | nil=>simp [Rows.uptoBulkAll]
  | cons a l ih=>simp only [Aa2,Rows.uptoBulkAll,List.sum_cons,ih]
 exact key _
theorem acy{e:TypeId}{sz:Nat}{r:Rp α}{mu:α->Nat}(ht:Tryd.prog.underlying t=some (.slice e))(hc:Tryd.prog.cellsOf e=sz)(h0:0<sz)(he:Rd e sz r mu):Rd t 1 (rL sz r) (szL mu):=by
 intro H enc w base spare held fuel cs x h;rcases open_slice ht h with⟨rfl,rfl⟩ | ⟨a,len,cap,m,n,D,Pl,rfl,hb,hl,hm,hmm,rfl,hx⟩
 . exact⟨[],⟨_,rfl,none,0,rfl,Aad _,by decide,fun h=>absurd rfl h⟩,rfl,by simp [szL,Rows.uptoBulk]⟩
 . rw [hc] at hx
   have az:len<=m:=by rw [hmm];split <;> omega
   obtain ⟨l, h1, h2, h3⟩ := gather (n := len) (p := fun i d => ∃ ad, w.cells? base (a.add (i * sz)) sz = some ad ∧ r (fun b => b < w.heap.size) w ad d ∧ ad.length = sz) (mu := mu) (f := fun i => Rows.uptoBulk (D i)) (fun i hi => by
    obtain ⟨ad, h1, h2⟩ := hx i (by omega)
    obtain ⟨d, h3, h4, h5⟩ := he H enc w base spare held n ad _ h2
    exact ⟨d, ⟨ad, h1, h3, h4⟩, h5⟩)
   subst h1;unfold maxLen at hm;refine⟨l,⟨_,rfl,some a,cap,rfl,hl,by omega,fun ax=>?_⟩,rfl,?_⟩
   . have ar:0<l.length:=List.length_pos_iff.2 ax
     obtain⟨b,off,spot⟩:=a;have ak:spot=none:=by
      obtain⟨ad,q1,-,q3⟩:=h2 0 l[0] (Aaa ar);obtain⟨-,-,q4⟩:=World.cells?_some q1;have q5:=q4 0 h0;rw [Aaa (by omega)] at q5;simpa [Addr.add] using World.cell?_spot q5
     subst ak;have af:∀i x,l[i]?=some x->∃cs,r (fun b=>b<w.heap.size) w cs x∧cs.length=sz∧aaj w b (off+i * sz) cs:=by
      intro i x hx;obtain⟨ad,q1,q2,q3⟩:=h2 i x hx;obtain⟨-,-,q4⟩:=World.cells?_some q1;refine⟨ad,q2,q3,fun j v hj=>?_⟩;have aw:j<sz:=by rw [<-q3];exact (Aae.1 hj).1
      have q5:=q4 j aw;rw [hj,add_plain,add_plain] at q5;exact q5
     refine⟨b,off,rfl,?_,af⟩;obtain⟨ad,q1,q2,q3⟩:=af 0 l[0] (Aaa ar);have q4:=q3 0 ad[0] (Aaa (by omega));exact aac q4
   . simp only [szL,Rows.uptoBulk,aj2];omega
theorem abz:Tryd.prog.cellsOf 3=1:=by kernel_rfl
theorem ahW:Tryd.prog.cellsOf 4=1:=by kernel_rfl
theorem agn:Tryd.prog.cellsOf 9=1:=by kernel_rfl
theorem adt:Tryd.prog.cellsOf 42=2:=by kernel_rfl
theorem afe:Tryd.prog.cellsOf 61=1:=by kernel_rfl
theorem afd:Tryd.prog.cellsOf 26=1:=by kernel_rfl
theorem agk:Tryd.prog.cellsOf 44=4:=by kernel_rfl
theorem agl:Tryd.prog.cellsOf 63=8:=by kernel_rfl
theorem ahX:Tryd.prog.cellsOf 46=1:=by kernel_rfl
theorem agm:Tryd.prog.cellsOf 93=2:=by kernel_rfl
theorem ahY:Tryd.prog.cellsOf 45=1:=by kernel_rfl
theorem aes:Tryd.prog.cellsOf 48=6:=by kernel_rfl
theorem agj:Tryd.prog.cellsOf 38=1:=by kernel_rfl
theorem afc:Tryd.prog.cellsOf 40=4:=by kernel_rfl
theorem agS:Tryd.prog.cellsOf 23=1:=by kernel_rfl
theorem ad4:Tryd.prog.cellsOf 82=3:=by kernel_rfl
theorem afD:Tryd.prog.cellsOf 22=1:=by kernel_rfl
theorem ahZ:Tryd.prog.cellsOf 25=2:=by kernel_rfl
theorem ah6{l:List α}(h:l.length=2):∃a b,l=[a,b]:=by
 match l,h with
 | [a,b],_=>exact⟨a,b,rfl⟩
theorem akd{l:List α}(h:l.length=3):∃a b c,l=[a,b,c]:=by
 match l,h with
 | [a,b,c],_=>exact⟨a,b,c,rfl⟩
theorem alh{l:List α}(h:l.length=4):∃a b c d,l=[a,b,c,d]:=by
 match l,h with
 | [a,b,c,d],_=>exact⟨a,b,c,d,rfl⟩
theorem amg{l:List α}(h:l.length=6):∃a b c d e f,l=[a,b,c,d,e,f]:=by
 match l,h with
 | [a,b,c,d,e,f],_=>exact⟨a,b,c,d,e,f,rfl⟩
theorem amE{l:List α}(h:l.length=8):∃a b c d e f g i,l=[a,b,c,d,e,f,g,i]:=by
 match l,h with
 | [a,b,c,d,e,f,g,i],_=>exact⟨a,b,c,d,e,f,g,i,rfl⟩
variable {f0 f1:Field}{p:Nat->Field->Prop}
theorem agX(h:∀(i:Nat) (f:Field),#[f0,f1][i]?=some f->p i f):p 0 f0∧p 1 f1:=⟨h 0 _ rfl,h 1 _ rfl⟩
variable {f2:Field}
theorem agY(h:∀(i:Nat) (f:Field),#[f0,f1,f2][i]?=some f->p i f):p 0 f0∧p 1 f1∧p 2 f2:=⟨h 0 _ rfl,h 1 _ rfl,h 2 _ rfl⟩
theorem ak1{f3:Field}(h:∀(i:Nat) (f:Field),#[f0,f1,f2,f3][i]?=some f->p i f):p 0 f0∧p 1 f1∧p 2 f2∧p 3 f3:=⟨h 0 _ rfl,h 1 _ rfl,h 2 _ rfl,h 3 _ rfl⟩
theorem ak2{f3 f4 f5:Field}(h:∀(i:Nat) (f:Field),#[f0,f1,f2,f3,f4,f5][i]?=some f->p i f):p 0 f0∧p 1 f1∧p 2 f2∧p 3 f3∧p 4 f4∧p 5 f5:=⟨h 0 _ rfl,h 1 _ rfl,h 2 _ rfl,h 3 _ rfl,h 4 _ rfl,h 5 _ rfl⟩
theorem ahH:Rd 42 2 aeL ajz:=by
 intro H enc w base spare held fuel cs x h;obtain⟨xs,n,-,rfl,hc,hl,hf⟩:=DataW.trod_struct Tryd.underlying42 h;rw [adt] at hc;obtain⟨c0,c1,rfl⟩:=ah6 hc;obtain⟨x0,x1,rfl⟩:=ah6 hl;obtain⟨f0,f1⟩:=agX hf;clear hf hc hl h;simp only [ahW,abz,List.drop_zero,List.drop_succ_cons,Abi,List.take_zero,Abf,Abc] at f0 f1;obtain⟨b,e0,-⟩:=DataW.trod_bool Tryd.underlying4 f0;obtain⟨d,⟨e1,h1⟩,-,-⟩:=ac8 Tryd.underlying3 _ _ _ _ _ _ _ _ _ f1;cases e0;cases e1;exact⟨⟨b,d⟩,⟨rfl,h1⟩,rfl,by simp [ajz,Rows.uptoBulk]⟩
theorem ahc:Rd 26 1 (rL 1 abe) (szL af3):=acy Tryd.underlying26 abz (by decide) (ac8 Tryd.underlying3)
theorem ajm:Rd 61 1 (rL 2 aeL) (szL ajz):=acy Tryd.underlying61 adt (by decide) ahH
theorem amo:Rd 44 4 amF (fun e=>szL af3 e.to):=by
 intro H enc w base spare held fuel cs x h;obtain⟨xs,n,-,rfl,hc,hl,hf⟩:=DataW.trod_struct Tryd.underlying44 h;rw [agk] at hc;obtain⟨c0,c1,c2,c3,rfl⟩:=alh hc;obtain⟨x0,x1,x2,rfl⟩:=akd hl;obtain⟨f0,f1,f2⟩:=agY hf;clear hf hc hl h;simp only [adt,abz,afd,List.drop_zero,List.drop_succ_cons,Abi,List.take_zero,Abf,Abc] at f0 f1 f2;obtain⟨d0,⟨e0,h0⟩,-,-⟩:=ac8 Tryd.underlying3 _ _ _ _ _ _ _ _ _ f0;obtain⟨d1,⟨e1,h1⟩,-,-⟩:=ahH _ _ _ _ _ _ _ _ _ f1;obtain⟨d2,⟨v2,e2,h2⟩,-,m2⟩:=ahc _ _ _ _ _ _ _ _ _ f2;cases e0;cases e1;cases e2;exact⟨⟨d0,d1,d2⟩,⟨_,rfl,h2,h0,h1⟩,rfl,by simp only [Rows.uptoBulk,Rows.uptoBulkAll,Aa2];omega⟩
theorem amq:Rd 63 8 akn ajv:=by
 intro H enc w base spare held fuel cs x h;obtain⟨xs,n,-,rfl,hc,hl,hf⟩:=DataW.trod_struct Tryd.underlying63 h;rw [agl] at hc;obtain⟨c0,c1,c2,c3,c4,c5,c6,c7,rfl⟩:=amE hc;obtain⟨x0,x1,x2,x3,x4,x5,rfl⟩:=amg hl;obtain⟨f0,f1,f2,f3,f4,f5⟩:=ak2 hf;clear hf hc hl h;simp only [adt,abz,afe,List.drop_zero,List.drop_succ_cons,Abi,List.take_zero,Abf,Abc] at f0 f1 f2 f3 f4 f5;obtain⟨d0,⟨e0,h0⟩,-,-⟩:=ac8 Tryd.underlying3 _ _ _ _ _ _ _ _ _ f0;obtain⟨d1,⟨e1,h1⟩,-,-⟩:=ac8 Tryd.underlying3 _ _ _ _ _ _ _ _ _ f1;obtain⟨d2,⟨e2,h2⟩,-,-⟩:=ahH _ _ _ _ _ _ _ _ _ f2;obtain⟨d3,⟨e3,h3⟩,-,-⟩:=ahH _ _ _ _ _ _ _ _ _ f3;obtain⟨d4,⟨e4,h4⟩,-,-⟩:=ac8 Tryd.underlying3 _ _ _ _ _ _ _ _ _ f4;obtain⟨d5,⟨v5,e5,h5⟩,-,m5⟩:=ajm _ _ _ _ _ _ _ _ _ f5;cases e0;cases e1;cases e2;cases e3;cases e4;cases e5;exact⟨⟨d0,d1,d2,d3,d4,d5⟩,⟨_,rfl,h5,h0,h1,h2,h3,h4⟩,rfl,by simp only [ajv,Rows.uptoBulk,Rows.uptoBulkAll,Aa2];omega⟩
theorem aln:Rd 46 1 (rL 8 akn) (szL ajv):=acy Tryd.underlying46 agl (by decide) amq
theorem amr:Rd 93 2 aie ail:=by
 intro H enc w base spare held fuel cs x h;obtain⟨xs,n,-,rfl,hc,hl,hf⟩:=DataW.trod_struct Tryd.underlying93 h;rw [agm] at hc;obtain⟨c0,c1,rfl⟩:=ah6 hc;obtain⟨x0,x1,rfl⟩:=ah6 hl;obtain⟨f0,f1⟩:=agX hf;clear hf hc hl h;simp only [afe,abz,List.drop_zero,List.drop_succ_cons,Abi,List.take_zero,Abf,Abc] at f0 f1;obtain⟨d0,⟨e0,h0⟩,-,-⟩:=ac8 Tryd.underlying3 _ _ _ _ _ _ _ _ _ f0;obtain⟨d1,⟨v1,e1,h1⟩,-,m1⟩:=ajm _ _ _ _ _ _ _ _ _ f1;cases e0;cases e1;exact⟨⟨d0,d1⟩,⟨_,rfl,h1,h0⟩,rfl,by simp only [ail,Rows.uptoBulk,Rows.uptoBulkAll,Aa2];omega⟩
theorem alo:Rd 45 1 (rL 2 aie) (szL ail):=acy Tryd.underlying45 agm (by decide) amr
theorem akp:Rd 48 6 aa2 acz:=by
 intro H enc w base spare held fuel cs x h;obtain⟨xs,n,-,rfl,hc,hl,hf⟩:=DataW.trod_struct Tryd.underlying48 h;rw [aes] at hc;obtain⟨c0,c1,c2,c3,c4,c5,rfl⟩:=amg hc;obtain⟨x0,x1,x2,rfl⟩:=akd hl;obtain⟨f0,f1,f2⟩:=agY hf;clear hf hc hl h;simp only [ahY,ahX,agk,List.drop_zero,List.drop_succ_cons,Abi,List.take_zero,Abf,Abc] at f0 f1 f2;obtain⟨d0,⟨v0,e0,h0⟩,-,m0⟩:=alo _ _ _ _ _ _ _ _ _ f0;obtain⟨d1,⟨v1,e1,h1⟩,-,m1⟩:=aln _ _ _ _ _ _ _ _ _ f1;obtain⟨d2,h2,-,m2⟩:=amo _ _ _ _ _ _ _ _ _ f2;cases e0;cases e1;exact⟨⟨d0,d1,d2⟩,⟨_,_,_,rfl,h0,h1,h2⟩,rfl,by dsimp only at m2;simp only [acz,Rows.uptoBulk,Rows.uptoBulkAll,Aa2];omega⟩
theorem ajk:Rd 38 1 (rL 6 aa2) (szL acz):=acy Tryd.underlying38 aes (by decide) akp
theorem alm:Rd 40 4 abT adI:=by
 intro H enc w base spare held fuel cs x h;obtain⟨xs,n,-,rfl,hc,hl,hf⟩:=DataW.trod_struct Tryd.underlying40 h;rw [afc] at hc;obtain⟨c0,c1,c2,c3,rfl⟩:=alh hc;obtain⟨x0,x1,x2,x3,rfl⟩:=alh hl;obtain⟨f0,f1,f2,f3⟩:=ak1 hf;clear hf hc hl h;simp only [agn,abz,agj,List.drop_zero,List.drop_succ_cons,Abi,List.take_zero,Abf,Abc] at f0 f1 f2 f3;obtain⟨d0,e0,-,m0⟩:=akP Tryd.underlying9 _ _ _ _ _ _ _ _ _ f0;obtain⟨d1,⟨e1,h1⟩,-,-⟩:=ac8 Tryd.underlying3 _ _ _ _ _ _ _ _ _ f1;obtain⟨d2,⟨e2,h2⟩,-,-⟩:=ac8 Tryd.underlying3 _ _ _ _ _ _ _ _ _ f2;obtain⟨d3,⟨v3,e3,h3⟩,-,m3⟩:=ajk _ _ _ _ _ _ _ _ _ f3;cases e0;cases e1;cases e2;cases e3;exact⟨⟨d0,d1,d2,d3⟩,⟨_,rfl,h3,h1,h2⟩,rfl,by dsimp only at m0;simp only [adI,Rows.uptoBulk,Rows.uptoBulkAll,Aa2];omega⟩
theorem akq:Rd 23 1 (rL 4 abT) (szL adI):=acy Tryd.underlying23 afc (by decide) alm
theorem ajl:Rd 82 3 abd ac2:=by
 intro H enc w base spare held fuel cs x h;obtain⟨xs,n,-,rfl,hc,hl,hf⟩:=DataW.trod_struct Tryd.underlying82 h;rw [ad4] at hc;obtain⟨c0,c1,c2,rfl⟩:=akd hc;obtain⟨x0,x1,x2,rfl⟩:=akd hl;obtain⟨f0,f1,f2⟩:=agY hf;clear hf hc hl h;simp only [agn,abz,afd,List.drop_zero,List.drop_succ_cons,Abi,List.take_zero,Abf,Abc] at f0 f1 f2;obtain⟨d0,e0,-,m0⟩:=akP Tryd.underlying9 _ _ _ _ _ _ _ _ _ f0;obtain⟨d1,⟨e1,h1⟩,-,-⟩:=ac8 Tryd.underlying3 _ _ _ _ _ _ _ _ _ f1;obtain⟨d2,⟨v2,e2,h2⟩,-,m2⟩:=ahc _ _ _ _ _ _ _ _ _ f2;cases e0;cases e1;cases e2;exact⟨⟨d0,d1,d2⟩,⟨_,rfl,h2,h1⟩,rfl,by dsimp only at m0;simp only [ac2,Rows.uptoBulk,Rows.uptoBulkAll,Aa2];omega⟩
theorem aif:Rd 22 1 (rL 3 abd) (szL ac2):=acy Tryd.underlying22 ad4 (by decide) ajl
theorem alp:Rd 25 2 amG aeS:=by
 intro H enc w base spare held fuel cs x h;obtain⟨xs,n,-,rfl,hc,hl,hf⟩:=DataW.trod_struct Tryd.underlying25 h;rw [ahZ] at hc;obtain⟨c0,c1,rfl⟩:=ah6 hc;obtain⟨x0,x1,rfl⟩:=ah6 hl;obtain⟨f0,f1⟩:=agX hf;clear hf hc hl h;simp only [afD,agS,List.drop_zero,List.drop_succ_cons,Abi,List.take_zero,Abf,Abc] at f0 f1;obtain⟨d0,⟨v0,e0,h0⟩,-,m0⟩:=aif _ _ _ _ _ _ _ _ _ f0;obtain⟨d1,⟨v1,e1,h1⟩,-,m1⟩:=akq _ _ _ _ _ _ _ _ _ f1;cases e0;cases e1;exact⟨⟨d0,d1⟩,⟨_,_,rfl,h0,h1⟩,rfl,by simp only [aeS,Rows.uptoBulk,Rows.uptoBulkAll,Aa2];omega⟩
end
section
open Go.RowKit Go.ChangeShapes Go.WideShapes Go.ChangeAt Go.Deep
theorem own:ownKnob Tryd.prog.godebug=none:=by kernel_rfl
theorem alg:laidOutB Tryd.prog=true:=by kernel_rfl
theorem aj5 : Tryd.prog.globalNamed "turnery/code.ways" = some 0 := by kernel_rfl
theorem aiQ:(Tryd.prog.globals[0]?).map (·.type)=some 167:=by kernel_rfl
theorem al7:Tryd.prog.cellsOf 167=4:=by kernel_rfl
variable {W:World}
theorem alN(h : laidMetH Tryd.prog [("turnery/code.ways", Rows.laid_turnery_code_ways)] W) : ab5 W := by
 have t : Lib.TabIs Tryd.prog W "turnery/code.ways" .i64 [0, 0, 1, 2] := Lib.tabIs_of_head (rest := []) aj5 aiQ Tryd.underlying167 Tryd.underlying3 abz al7 h
 exact⟨t.cell aj5 1 (by decide),t.cell aj5 2 (by decide),t.cell aj5 3 (by decide)⟩
def adb(t:TypeId):Prop:=Tryd.prog.readableRec t=true∧t<Tryd.prog.types.size
theorem carried {t:TypeId}(h:(Tryd.prog.readableRec t&&decide (t<Tryd.prog.types.size))=true):adb t:=by
 simp only [Bool.and_eq_true,decide_eq_true_eq] at h;exact h
theorem agi:adb 25:=carried (by kernel_rfl)
theorem adg:adb 3:=carried (by kernel_rfl)
theorem agh:adb 26:=carried (by kernel_rfl)
variable {H:Type}
theorem age{enc:TypeId×Value->H}{W':World}{sp:Nat->Bool}(hb:Below W.heap.size W W'):∀(ts:List TypeId) (vs:List Value) (ds:List (DataW H)) (ps:List MemPlace),(∀t∈ts,adb t) ->
 DataW.TrodAll enc Tryd.prog W 0 (fun _=>true) true ts vs ds ps->(∀p∈ps,p.block<W.heap.size)->(∀p∈ps,sp p.block=true)->DataW.TrodAll enc Tryd.prog W' 0 sp true ts vs ds ps
 | [],_,_,_,_,h,_,_=>by
   obtain⟨rfl,rfl,rfl⟩:=trodAll_nil h;exact trodAll_mk0
 | t :: ts,_,_,_,hc,h,ai,al=>by
   obtain⟨v,vs,d,ds,p,q,rfl,rfl,rfl,h1,h2⟩:=trodAll_cons h;obtain⟨c1,c2⟩:=hc t (by simp)
   exact trodAll_cons_mk (WideElems.Trod_stays alg c1 c2 h1 (fun x hx => hb.same (ai x (by simp [hx]))) (fun x hx => al x (by simp [hx])))
    (age hb ts vs ds q (fun t ht=>hc t (by simp [ht])) h2 (fun x hx=>ai x (by simp [hx])) (fun x hx=>al x (by simp [hx])))
theorem aeV{enc : TypeId × Value -> H}  {sp : Nat -> Bool} {hd : Bool} {b : Nat} : ∀ (ts : List TypeId) (vs : List Value) (ds : List (DataW H)) (ps : List MemPlace), DataW.TrodAll enc Tryd.prog W b sp hd ts vs ds ps -> ds.length = ts.length
 | [],_,_,_,h=>by
   obtain⟨rfl,rfl,rfl⟩:=trodAll_nil h;rfl
 | t :: ts,_,_,_,h=>by
   obtain⟨v,vs,d,ds,p,q,rfl,rfl,rfl,h1,h2⟩:=trodAll_cons h;simp [aeV ts vs ds q h2]
theorem akc{enc : TypeId × Value -> H} {f : Func} {s : ChangeSpec} {W W' : World} {args : Array Value} {ds gs : List (DataW H)} {before : List MemPlace}
 (hv:s.vars=[]) (hr:f.resultTypes=#[4]) (au:∀ds:List (DataW H),ds.length=f.params.toList.length->s.fn H ds={ results:=[.lit (.bool true)],args:=ds }) (ay:∀t∈f.params.toList,adb t)
 (hW:DataW.Whole enc Tryd.prog f.params.toList s.vars false W args.toList ds gs before) (hb:Below W.heap.size W W'):s.post enc Tryd.prog f false true false false W args (.bool true) W':=by
 have ai:∀p∈before,p.block<W.heap.size:=fun p hp=>hW.lt p hp;have hold:∀p∈before,(fun b=>decide (b<W.heap.size)) p.block=true:=fun p hp=>by simpa using ai p hp
 have ao:=hW;obtain⟨p,q,hA,hV,rfl,hz,hn⟩:=hW;rw [hv] at hV;obtain⟨rfl,rfl⟩:=trodVars_none hV;have an:DataW.TrodAll enc Tryd.prog W 0 (fun _=>true) true f.params.toList args.toList ds p:=hA;rw [List.append_nil] at ai hold hz ao;have e1:s.fn H (ds++[])={ results:=[.lit (.bool true)],args:=ds }:=by rw [List.append_nil];exact au ds (aeV _ _ _ _ an)
 have aj:∀(b:Nat) (sp:Nat->Bool) (hd:Bool),DataW.TrodAll enc Tryd.prog W' b sp hd f.resultTypes.toList ((Value.bool true).resultList f.resultTypes.size) (s.fn H (ds++[])).results []:=by
  intro b sp hd;rw [e1,hr];exact trodAll_cons_mk (shut_bool Tryd.underlying4 _) trodAll_mk0
 have ae:∀sp:Nat->Bool,(∀x∈p,sp x.block=true)->DataW.TrodAll enc Tryd.prog W' 0 sp true f.params.toList args.toList (s.fn H (ds++[])).args p:=by
  intro sp al;rw [e1];exact age hb _ _ _ _ ay an ai al
 have ag:∀sp:Nat->Bool,DataW.TrodVars enc Tryd.prog W' sp s.vars (s.fn H (ds++[])).vars []:=by
  intro sp;rw [e1,hv];exact rfl
 refine⟨ds,[],p,[],p,[],by simpa using ao,aj _ _ _,ae _ hold,ag _,World.keptBut_mono (fun x hx=>⟨hx,by simpa using hx⟩) (hb.frame (·∈p)),fun _=>?_⟩;refine⟨?_,_,_,([]++p)++[],⟨[]++p,[],trodAll_append (ae _ (fun _ _=>rfl)) (aj _ _ _),ag _,rfl,?_,fun h=>by cases h⟩,fun x hx _=>by simpa using hx⟩
 . exact ok_one hr rfl (okWide_bool_mk Tryd.underlying4 _)
 . intro b off hx
   have aq:MemPlace.cell b off∈p:=by simpa using hx
   rw [hb.frozen (ai _ aq)];exact hz b off aq
theorem acI{d:DataW H}{l:List (DataW H)}(h:d∈l):Rows.uptoBulk d<=Rows.uptoBulkAll l:=by
 induction l with
 | nil=>cases h
 | cons x r ih =>
   simp only [Rows.uptoBulkAll];rcases Aax.1 h with e | e
   . subst e;omega
   . have:=ih e;omega
theorem ahV{l:List (DataW H)}(hk:Rows.uptoSmall H l=true):Rows.uptoBulkAll l<=1048576:=by
 have h:=of_decide_eq_true hk;exact h
structure afB (gs:List aat)(fs:List aal):Prop where
 size:aeS ⟨gs,fs⟩<=1048576
theorem agM(x:aat):1<=ac2 x:=by have:=aeR af3 x.init;unfold ac2;omega
theorem aik(x:aal):1<=adI x:=by have:=aeR acz x.blocks;unfold adI;omega
theorem ahl(x:aad):1<=acz x:=by have:=aeR ail x.phis;unfold acz;omega
theorem ajy(x:adO):1<=ail x:=aeR _ _
theorem ajw(x:abo):1<=ajv x:=aeR _ _
theorem ajx(x:Int):1<=af3 x:=Aad _
theorem ali(l:List aad):aa1 l<=(l.map acz).sum:=by
 unfold aa1
 induction l with
 | nil=>exact Aad _
 | cons b l ih =>
   have h1:=adY ajy b.phis;have h2:=adY ajw b.list;simp only [Aa2,List.sum_cons];unfold acz at *;omega
variable {gs:List aat}{fs:List aal}
theorem afB.globals(h:afB gs fs):gs.length<=1048576:=by
 have h1:=h.size;have h2:=adY agM gs;unfold aeS at h1;dsimp only at h1;omega
theorem afB.funcs(h:afB gs fs):fs.length<=1048576:=by
 have h1:=h.size;have h2:=adY aik fs;unfold aeS at h1;dsimp only at h1;omega
theorem afB.func(h:afB gs fs){k:Nat}{f:aal}(hf:fs[k]?=some f):adI f<=1048576:=by
 have h1:=h.size;have h2:=alB (f:=adI) (Aah hf);unfold aeS at h1;dsimp only at h1;omega
theorem afB.many(h:afB gs fs):∀(k:Nat) (f:aal),fs[k]?=some f->aa1 f.blocks<=1048576∧f.blocks.length<=1048576:=by
 intro k f hf;have h1:=h.func hf;have h2:=ali f.blocks;have h3:=adY ahl f.blocks;unfold adI szL at h1;unfold szL at h3;omega
theorem aj0{enc:TypeId×Value->H}{base:Nat}{v:Value}{d:DataW H}{p:List MemPlace}(hv:Value.okWide Tryd.prog W .any base 25 v)(h:DataW.Trod enc Tryd.prog W 0 (fun _=>true) true 25 v d p) :
 ∃ga gc fa fc gs fs,v = .agg #[.slice ga gs.length gc,.slice fa fs.length fc]∧SlAt (fun b=>b<W.heap.size) W 3 abd (.slice ga gs.length gc) gs∧SlAt (fun b=>b<W.heap.size) W 4 abT (.slice fa fs.length fc) fs∧aeS ⟨gs,fs⟩<=Rows.uptoBulk d:=by
 obtain⟨cs,rfl,-⟩:=okWide_struct Tryd.underlying25 hv;obtain⟨fuel,h⟩:=h;obtain⟨u,⟨g,f,e,hg,hf⟩,-,hm⟩:=alp _ _ _ _ _ _ _ _ _ h;have e':cs.toList=[g,f]:=e;obtain⟨ga,gc,eg,-⟩:=id hg;obtain⟨fa,fc,ef,-⟩:=id hf;subst eg ef;refine⟨ga,gc,fa,fc,u.globals,u.funcs,?_,hg,hf,hm⟩;obtain⟨l⟩:=cs;have e2:l=_:=e';rw [e2]
theorem ajZ{enc:TypeId×Value->H}{base:Nat}{v:Value}{d:DataW H}{p:List MemPlace}(hv:Value.okWide Tryd.prog W .any base 26 v)(h:DataW.Trod enc Tryd.prog W 0 (fun _=>true) true 26 v d p) :
 ∃ca cc C,v = .slice ca C.length cc∧SlAt (fun b=>b<W.heap.size) W 1 abe (.slice ca C.length cc) C∧szL af3 C<=Rows.uptoBulk d:=by
 obtain⟨a,len,cap,rfl⟩:=okWide_slice Tryd.underlying26 hv;obtain⟨fuel,h⟩:=h;obtain⟨C,⟨v',e,hC⟩,-,hm⟩:=ahc _ _ _ _ _ _ _ _ _ h;have e':[Value.slice a len cap]=[v']:=e;cases e';obtain⟨ca,cc,ec,-⟩:=id hC;cases ec;exact⟨_,_,_,rfl,hC,hm⟩
noncomputable def aeE (os:Os):World :=
 { World.holding Tryd.prog os ⟨#[], #[], []⟩ with heap := (World.holding Tryd.prog os ⟨#[], #[], []⟩).heap.modify 0 fun
  | .cells _ t frozen => .cells #[.int .i64 0, .int .i64 0, .int .i64 1, .int .i64 2] t frozen
  | o => o }
end
section
open Go.RowKit
theorem agU {u:aax}(h:(aak u).1=0):aak u=(0,0):=by
 have h0:=h;unfold aak at h ⊢
 by_cases h1:10<u.globals.length∨10<u.funcs.length
 . rw [if_pos h1] at h;simp at h
 rw [if_neg h1] at h ⊢
 by_cases h2:acd (acp u.globals) u.globals.length<u.globals.length
 . rw [if_pos h2] at h;exact absurd h (abP h2)
 rw [if_neg h2] at h ⊢
 by_cases h3:acd (abp u.globals u.funcs) u.funcs.length<u.funcs.length
 . rw [if_pos h3] at h;exact absurd h (abP h3)
 rw [if_neg h3] at h ⊢
 by_cases h4:acd (aa7 u.funcs) u.funcs.length<u.funcs.length
 . rw [if_pos h4] at h;exact absurd h (abP h4)
 rw [if_neg h4] at h ⊢;unfold agx at h ⊢
 by_cases h5:aaF u.funcs<0
 . rw [if_pos h5] at h;simp at h
 rw [if_neg h5] at h ⊢
 by_cases h6:0<(u.funcs.getD (aaF u.funcs).toNat ⟨ByteArray.empty,0,0,[]⟩).params
 . rw [if_pos h6] at h;simp at h
 rw [if_neg h6]
theorem amt {α:Type}{r:Rp α}{S:Nat->Prop}{w:World}{sz:Nat}{v:Value}{l:List α}(h:SlAt S w sz r v l):∃a c,v = .slice a l.length c:=by
 obtain⟨a,c,hv,_⟩:=h;exact⟨a,c,hv⟩
end
section
open Go.RowKit
end
end Go.Proofs.YtgekbfgplclmeaaDoor
