import Derived.Test.YtpeejlpcikefcaaGreatDoorPTid0
/- The sources of a merge, counted by the document, are those of the program: plain lists. A function with its blocks in an order, laid once more by the same counts: it stays; and it is in its form. Plain. weigh.By, plainly: what it answers. What code.Check leaves: small units, functions whose blocks may be laid. A row of structs that is written one by one. WeighRest, plainly: laid twice it lies as laid once. ssa.Check, in plain Lean; and what code.Check says of a function, gathered. -/
namespace Go.Proofs.YtpeejlpcikefcaaGreatDoor
section
open Go.RowKit
theorem apz {tz:List Int}{t i:Nat}(h:(t:Int) ∉ tz):ae8 tz t i=[]:=by
 unfold ae8;rw [List.map_eq_nil_iff,List.filter_eq_nil_iff];intro x hx;simp;rintro rfl;exact h hx
theorem arc {tz:List Int}{t i:Nat}(hn:tz.Nodup)(h:(t:Int)∈tz):ae8 tz t i=[(i:Int)]:=by
 unfold ae8
 induction tz with
 | nil=>cases h
 | cons a l ih =>
   rw [List.nodup_cons] at hn
   by_cases ha:a=(t:Int)
   . subst ha
     have e:l.filter (fun x:Int=>decide (x=(t:Int)))=[]:=by
      rw [List.filter_eq_nil_iff];intro x hx;simp;rintro rfl;exact hn.1 hx
     simp [e]
   . rcases Aam.1 h with h | h
     . exact absurd h.symm ha
     . have:=ih hn.2 h
       simpa [List.filter_cons,ha] using this
end
section
open Go.RowKit
theorem acK {t:Nat}:∀(l:List DBlock) (s:Nat),(∀x∈l,x.fin.to.Nodup)->(aaf l s t).Pairwise (·<·)∧∀a∈aaf l s t,(s:Int)<=a:=by
 intro l
 induction l with
 | nil=>intro s _;simp [aaf]
 | cons b l ih =>
   intro s h;obtain⟨h1,h2⟩:=ih (s+1) (fun x hx=>h x (by simp [hx]));rw [aaf]
   by_cases hm:(t:Int)∈b.fin.to
   . rw [arc (h b (by simp)) hm]
     refine⟨?_,?_⟩
     . rw [List.singleton_append,List.pairwise_cons]
       exact⟨fun a ha=>by have:=h2 a ha;omega,h1⟩
     . intro a ha
       simp at ha;rcases ha with rfl | ha
       . exact Int.le_refl _
       . have:=h2 a ha;omega
   . rw [apz hm,Abc]
     exact⟨h1,fun a ha=>by have:=h2 a ha;omega⟩
variable {regs:Int}
theorem ag9{n:Nat}{e:asX}:afz n regs e=0↔(1<=e.kind∧e.kind<=3)∧(e.to.length:Int)=e.kind - 1∧(∀t∈e.to,1<=t∧t<=(n:Int) - 1)∧¬((e.kind=3∧e.to.getD 0 0=e.to.getD 1 0)∨(e.kind=2∧e.on≠⟨false,0⟩))∧aco regs e.on=0:=by
 unfold afz
 by_cases h1:1<=e.kind∧e.kind<=3
 case neg=>rw [if_pos h1];constructor;(intro h;omega);(intro h;exact absurd h.1 h1)
 rw [if_neg (by simpa using h1)]
 by_cases h2:(e.to.length:Int)=e.kind - 1
 case neg=>rw [if_pos h2];constructor;(intro h;omega);(intro h;exact absurd h.2.1 h2)
 rw [if_neg (by simpa using h2)]
 by_cases h3:e.to.any (ae0 n)=true
 . rw [if_pos h3]
   constructor
   . intro h;omega
   . intro h
     obtain⟨t,ht,hb⟩:=List.any_eq_true.1 h3;have:=h.2.2.1 t ht;simp only [ae0,Bool.not_eq_true',decide_eq_false_iff_not] at hb;exact absurd this hb
 rw [if_neg h3];have ai:∀t∈e.to,1<=t∧t<=(n:Int) - 1:=fun t ht=>by
  have:ae0 n t≠true:=fun hb=>h3 (List.any_eq_true.2 ⟨t,ht,hb⟩);simpa [ae0] using this
 by_cases h4:(e.kind=3∧e.to.getD 0 0=e.to.getD 1 0)∨(e.kind=2∧e.on≠⟨false,0⟩)
 . rw [if_pos h4];constructor;(intro h;omega);(intro h;exact absurd h4 h.2.2.2.1)
 rw [if_neg h4];exact⟨fun h=>⟨h1,h2,ai,h4,h⟩,fun h=>h.2.2.2.2⟩
theorem aeV {fs:List aaz}{f:aaz}:ady fs f=0↔(∀j,j<f.blocks.length->agb f.regs f.blocks j=0)∧∀j,j<f.blocks.length->aeh fs f.regs f.blocks j=0:=by
 unfold ady;constructor
 . intro h
   by_cases h1:ab5 (agb f.regs f.blocks) f.blocks.length=0
   . rw [if_neg (by simpa using h1)] at h
     exact⟨aeQ h1,aeQ h⟩
   . rw [if_pos h1] at h;exact absurd h h1
 . rintro⟨h1,h2⟩
   rw [if_neg (by simpa using abz h1)];exact abz h2
theorem aeb{fs:List aaz}{bs:List DBlock}{k:Nat}{b:DBlock}(hb:bs[k]?=some b):aeh fs regs bs k=0↔(∀p∈b.phis,ajG regs k (aheadF bs) p=0)∧∀x∈b.list,aga fs regs x=0:=by
 unfold aeh;rw [hb];dsimp only;have e1:(∀j,j<b.phis.length->agP regs bs k b j=0)↔∀p∈b.phis,ajG regs k (aheadF bs) p=0:=by
  constructor
  . intro h p hp
    obtain⟨j,hj,rfl⟩:=Aav hp;have:=h j hj;unfold agP at this
    rwa [Aaa hj] at this
  . intro h j hj
    unfold agP;rw [Aaa hj];exact h _ (Aaq hj)
 have e2:(∀j,j<b.list.length->ajm fs regs b j=0)↔∀x∈b.list,aga fs regs x=0:=by
  constructor
  . intro h p hp
    obtain⟨j,hj,rfl⟩:=Aav hp;have:=h j hj;unfold ajm at this
    rwa [Aaa hj] at this
  . intro h j hj
    unfold ajm;rw [Aaa hj];exact h _ (Aaq hj)
 rw [<-e1,<-e2];constructor
 . intro h
   by_cases h1:ab5 (agP regs bs k b) b.phis.length=0
   . rw [if_neg (by simpa using h1)] at h
     exact⟨aeQ h1,aeQ h⟩
   . rw [if_pos h1] at h;exact absurd h h1
 . rintro⟨h1,h2⟩
   rw [if_neg (by simpa using abz h1)];exact abz h2
theorem acF {bs:List DBlock}{k:Nat}(hk:k<bs.length):(aheadF bs).getD k []=aaf bs 0 k:=by
 unfold aheadF;rw [Aaf,Aak,Ab8 hk];rfl
theorem adT{l:List aay}:ah4 regs l=0↔∀v∈l,aco regs v=0:=by
 unfold ah4
 by_cases h:l.any (fun v=>decide (aco regs v≠0))=true
 . rw [if_pos h]
   obtain⟨v,hv,hb⟩:=List.any_eq_true.1 h;constructor
   . intro h;omega
   . intro h2;exact absurd (h2 v hv) (by simpa using hb)
 . rw [if_neg h]
   refine⟨fun _ v hv=>?_,fun _=>rfl⟩
   by_cases hz:aco regs v=0
   . exact hz
   . exact absurd (List.any_eq_true.2 ⟨v,hv,by simpa using hz⟩) h
theorem afX{block:Nat}{ahead:List (List Int)}{p:acn}:ajG regs block ahead p=0↔block≠0∧agY regs p.dst=0∧p.src.length=(ahead.getD block []).length∧ah4 regs p.src=0:=by
 unfold ajG
 by_cases h1:block=0
 . rw [if_pos h1];constructor;(intro h;omega);(intro h;exact absurd h1 h.1)
 rw [if_neg h1]
 by_cases h2:agY regs p.dst≠0
 . rw [if_pos h2];constructor;(intro h;omega);(intro h;exact absurd h.2.1 h2)
 rw [if_neg h2]
 by_cases h3:p.src.length≠(ahead.getD block []).length
 . rw [if_pos h3];constructor;(intro h;omega);(intro h;exact absurd h.2.2.1 h3)
 rw [if_neg h3];exact⟨fun h=>⟨h1,by simpa using h2,by simpa using h3,h⟩,fun h=>h.2.2.2⟩
structure apA (fs ah:List aaz):Prop where
 len:ah.length=fs.length
 at_:∀(k:Nat) (f:aaz),fs[k]?=some f->∃f',ah[k]?=some f'∧f'.name=f.name∧f'.params=f.params
end
section
open Go.RowKit
end
section
open Go.RowKit
theorem ai9 {u:adL}(h:aav u=(0,0)):0<u.funcs.length:=by
 rcases Nat.eq_zero_or_pos u.funcs.length with h0 | h0
 . exfalso
   obtain⟨h1,h2,h3,h4,h5⟩:=acm (u:=u) (by rw [h]);unfold aav at h;rw [if_neg (by omega),abU (fun j _=>h3 j),abU (fun j _=>h4 j),abU (fun j _=>h5 j)] at h;simp only [Abp,if_false] at h;have h6:u.funcs=[]:=Acd.1 h0;rw [h6] at h;unfold aiv abw at h;simp at h
 . exact h0
theorem adU {u:adL}(h:aav u=(0,0)){k:Nat}{f:aaz}(hf:u.funcs[k]?=some f) :
 aet (ac2 u.globals u.funcs k) f=0∧ady u.funcs f=0:=by
 obtain⟨-,-,-,h2,h3⟩:=acm (u:=u) (by rw [h]);have g2:=h2 k;have g3:=h3 k;unfold ab6 at g2;unfold abH at g3;rw [hf] at g2 g3;exact⟨g2,g3⟩
theorem agq {l:List DBlock}{x:DBlock}(h:x∈l):x.phis.length+x.list.length<=aa6 l:=by
 unfold aa6
 induction l with
 | nil=>cases h
 | cons a l ih =>
   rw [Aa3,List.sum_cons];rcases Aam.1 h with rfl | h
   . omega
   . have:=ih h;omega
theorem akV {fs:List aaz}{regs:Int}{x:aaJ}(h:aga fs regs x=0):x.args.length=0∨∃f∈fs,(x.args.length:Int)=f.params:=by
 unfold aga at h
 by_cases h1:¬(1<=x.op∧x.op<=22)
 . rw [if_pos h1] at h;omega
 rw [if_neg h1] at h
 by_cases h2:acv x=true
 . rw [if_pos h2] at h;omega
 rw [if_neg h2] at h
 by_cases h3:(shpD x.op=true∧¬(x.op=20∧x.dst = -1))∧agY regs x.dst≠0
 . rw [if_pos h3] at h;omega
 rw [if_neg h3] at h
 by_cases hop:x.op=20
 . right
   unfold ada at h
   by_cases a1:aco regs x.a≠0
   . rw [if_pos a1] at h;exact absurd h a1
   rw [if_neg a1] at h
   by_cases a2:aco regs x.b≠0
   . rw [if_pos a2] at h;exact absurd h a2
   rw [if_neg a2] at h;unfold adl at h;rw [if_neg (by simpa using hop)] at h
   by_cases b1:¬(0<=x.fn∧x.fn<=(fs.length:Int) - 1)
   . rw [if_pos b1] at h;omega
   rw [if_neg b1] at h
   by_cases b2:(x.args.length:Int)≠(fs.getD x.fn.toNat ⟨ByteArray.empty,0,0,[]⟩).params
   . rw [if_pos b2] at h;omega
   have hk:x.fn.toNat<fs.length:=by omega
   rw [Aaf,Aaa hk,Option.getD_some] at b2;exact⟨_,Aaq hk,by omega⟩
 . left
   unfold acv at h2;simp only [Bool.or_eq_true,Abg,decide_eq_true_eq,not_or,not_and] at h2;have:=(h2.2 hop).2;omega
theorem ab9 {u:adL}(h:aav u=(0,0)):(∀g∈u.globals,g.init.length<=1048576)∧∀f∈u.funcs,arE f:=by
 obtain⟨-,-,h1,-,-⟩:=acm (u:=u) (by rw [h]);have af:∀f∈u.funcs,f.params<=6:=fun f hf=>by
  obtain⟨i,hi,rfl⟩:=Aav hf;exact (adp (adU h (Aaa hi)).1).2.2.2.1
 refine⟨fun g hg=>?_,fun f hf=>?_⟩
 . obtain⟨i,hi,rfl⟩:=Aav hg
   have g1:=h1 i;unfold ad1 at g1;rw [Aaa hi] at g1;have:=agc g1;omega
 . obtain⟨i,hi,rfl⟩:=Aav hf
   obtain⟨hh,hb⟩:=adU h (Aaa hi);obtain⟨-,-,-,-,-,-,-,ar,hm⟩:=adp hh;refine⟨by omega,fun x hx=>?_⟩;have ao:=agq hx;obtain⟨j,hj,rfl⟩:=Aav hx;obtain⟨e1,e2⟩:=aeV.1 hb;have he:=e1 j hj;unfold agb at he;rw [Aaa hj] at he;have al:=ag9.1 he;obtain⟨aj,ak⟩:=(aeb (Aaa hj)).1 (e2 j hj);refine⟨by omega,by omega,by omega,fun p hp=>?_,fun x hx=>?_⟩
   . have h3:=afX.1 (aj p hp)
     rw [acF hj] at h3;rw [h3.2.2.1]
     have := afq j u.funcs[i].blocks 0 (fun x hx => by
      obtain ⟨j', ag, rfl⟩ := Aav hx
      have he := e1 j' ag
      unfold agb at he
      rw [Aaa ag] at he
      have := ag9.1 he
      omega)
     omega
   . rcases akV (ak x hx) with h4 | ⟨f,hf,h4⟩
     . omega
     . have:=af f hf;omega
end
section
open Go.RowKit
end
section
open Go.RowKit
def VOk(regs:Int)(v:aay):Prop:=v.reg=true->0<=v.n∧v.n<regs
theorem ah6 {regs:Int}{v:aay}(h:aco regs v=0):VOk regs v:=by
 intro hr;unfold aco at h
 by_cases h1:v.reg=true∧¬(0<=v.n∧v.n<=regs - 1)
 . rw [if_pos h1] at h;omega
 . have h2:¬¬(0<=v.n∧v.n<=regs - 1):=fun h3=>h1 ⟨hr,h3⟩
   omega
theorem ajL {regs n:Int}(h:agY regs n=0):0<=n∧n<regs:=by
 unfold agY at h
 by_cases h1:¬(0<=n∧n<=regs - 1)
 . rw [if_pos h1] at h;omega
 . omega
structure atD (regs:Int)(x:aaJ):Prop where
 op:1<=x.op∧x.op<=22
 dst : -1<=x.dst∧x.dst<regs
 low:x.op<=18->0<=x.dst
 a:VOk regs x.a
 b:VOk regs x.b
 offA:shpA x.op=false->x.a=⟨false,0⟩
 offB:shpB x.op=false->x.b=⟨false,0⟩
 args:∀v∈x.args,VOk regs v
theorem asH {fs:List aaz}{regs:Int}{x:aaJ}(hr:0<=regs)(h:aga fs regs x=0):atD regs x:=by
 unfold aga at h
 by_cases h1:¬(1<=x.op∧x.op<=22)
 . rw [if_pos h1] at h;omega
 rw [if_neg h1] at h
 by_cases h2:acv x=true
 . rw [if_pos h2] at h;omega
 rw [if_neg h2] at h
 by_cases h3:(shpD x.op=true∧¬(x.op=20∧x.dst = -1))∧agY regs x.dst≠0
 . rw [if_pos h3] at h;omega
 rw [if_neg h3] at h;have hf:ada (aco regs x.a) (aco regs x.b) (adl fs regs x)=0->aco regs x.a=0∧aco regs x.b=0∧adl fs regs x=0:=by
  unfold ada
  by_cases a1:aco regs x.a≠0
  . rw [if_pos a1];exact fun h=>absurd h a1
  rw [if_neg a1]
  by_cases a2:aco regs x.b≠0
  . rw [if_pos a2];exact fun h=>absurd h a2
  rw [if_neg a2];exact fun h=>⟨by omega,by omega,h⟩
 obtain⟨h4,h5,h6⟩:=hf h;unfold acv at h2;simp only [Bool.or_eq_true,Abg,Bool.not_eq_true',decide_eq_true_eq,not_or,not_and] at h2;obtain⟨⟨⟨g1,g2⟩,g3⟩,g4⟩:=h2;have ad : -1<=x.dst∧x.dst<regs∧(x.op<=18->0<=x.dst):=by
  cases hD:shpD x.op with
  | false =>
    have:=g1 hD;refine⟨by omega,by omega,fun an=>?_⟩;unfold shpD at hD;simp only [Bool.or_eq_false_iff,decide_eq_false_iff_not] at hD;omega
  | true =>
    by_cases h7:x.op=20∧x.dst = -1
    . exact⟨by omega,by omega,fun h=>by omega⟩
    . have h8:agY regs x.dst=0:=by
       by_cases h9:agY regs x.dst=0
       . exact h9
       . exact absurd ⟨⟨hD,h7⟩,h9⟩ h3
      have:=ajL h8;exact⟨by omega,by omega,fun _=>this.1⟩
 refine⟨by omega,⟨ad.1,ad.2.1⟩,ad.2.2,ah6 h4,ah6 h5,fun h=>by have:=g2 h;exact Classical.not_not.1 this,fun h=>by have:=g3 h;exact Classical.not_not.1 this,fun v hv=>?_⟩
 by_cases hop:x.op=20
 . unfold adl at h6
   rw [if_neg (by simpa using hop)] at h6
   by_cases b1:¬(0<=x.fn∧x.fn<=(fs.length:Int) - 1)
   . rw [if_pos b1] at h6;omega
   rw [if_neg b1] at h6
   by_cases b2:(x.args.length:Int)≠(fs.getD x.fn.toNat ⟨ByteArray.empty,0,0,[]⟩).params
   . rw [if_pos b2] at h6;omega
   rw [if_neg b2] at h6;exact ah6 (adT.1 h6 v hv)
 . have:=(g4 hop).2
   have:x.args.length=0:=by omega
   rw [Acd.1 this] at hv;cases hv
structure arR (f:aaz):Prop where
 len:1<=f.blocks.length∧f.blocks.length<=40
 pr:0<=f.params∧f.params<=6∧f.params<=f.regs∧f.regs<=100
 many:∀x∈f.blocks,x.phis.length<=300∧x.list.length<=300
 tgt:∀(k:Nat) (x:DBlock),f.blocks[k]?=some x->x.fin.to.length<=2∧∀t∈x.fin.to,0<=t∧t<(f.blocks.length:Int)
 kind:∀(k:Nat) (x:DBlock),f.blocks[k]?=some x->1<=x.fin.kind∧x.fin.kind<=3∧(x.fin.to.length:Int)=x.fin.kind - 1∧(∀t∈x.fin.to,1<=t)∧¬(x.fin.kind=3∧x.fin.to.getD 0 0=x.fin.to.getD 1 0)
 on:∀(k:Nat) (x:DBlock),f.blocks[k]?=some x->VOk f.regs x.fin.on
 phi:∀(k:Nat) (x:DBlock),f.blocks[k]?=some x->∀p∈x.phis,(0<=p.dst∧p.dst<f.regs)∧p.src.length=(aaf f.blocks 0 k).length∧∀v∈p.src,VOk f.regs v
 phi0:∀(k:Nat) (x:DBlock),f.blocks[k]?=some x->∀p∈x.phis,k≠0
 ins:∀(k:Nat) (x:DBlock),f.blocks[k]?=some x->∀y∈x.list,atD f.regs y
 args:∀(k:Nat) (x:DBlock),f.blocks[k]?=some x->∀y∈x.list,y.args.length<=1048576
theorem auh {u:adL}(h:aav u=(0,0)){k:Nat}{f:aaz}(hf:u.funcs[k]?=some f):arR f:=by
 obtain⟨hh,hb⟩:=adU h hf;obtain⟨-,-,p1,p2,p3,p4,l1,l2,hm⟩:=adp hh;obtain⟨e1,e2⟩:=aeV.1 hb;have aq:=(ab9 h).2 f (Aae hf);have he:∀(k:Nat) (x:DBlock),f.blocks[k]?=some x->afz f.blocks.length f.regs x.fin=0:=fun k x hx=>by
  have:=e1 k (Aad.1 hx).1;unfold agb at this;rw [hx] at this;exact this
 have ae:∀(k:Nat) (x:DBlock),f.blocks[k]?=some x->(∀p∈x.phis,ajG f.regs k (aheadF f.blocks) p=0)∧∀y∈x.list,aga u.funcs f.regs y=0:=fun k x hx =>
  (aeb hx).1 (e2 k (Aad.1 hx).1)
 refine⟨⟨l1,l2⟩,⟨p1,p2,p3,p4⟩,fun x hx=>by have:=agq hx;omega,fun k x hx=>?_,fun k x hx=>?_,fun k x hx=>?_,fun k x hx p hp=>?_,fun k x hx p hp=>?_,fun k x hx y hy=>?_,fun k x hx y hy=>?_⟩
 . have:=ahs (he k x hx)
   refine⟨by omega,fun t ht=>?_⟩;have:=this.2.2.2.1 t ht;omega
 . obtain⟨a1,a2,a3,a4,a5,-⟩:=ahs (he k x hx)
   exact⟨a1,a2,a3,fun t ht=>(a4 t ht).1,a5⟩
 . exact ah6 (ahs (he k x hx)).2.2.2.2.2
 . obtain⟨-,a2,a3,a4⟩:=afX.1 ((ae k x hx).1 p hp)
   rw [acF (Aad.1 hx).1] at a3;exact⟨ajL a2,a3,fun v hv=>ah6 (adT.1 a4 v hv)⟩
 . exact (afX.1 ((ae k x hx).1 p hp)).1
 . exact asH (by omega) ((ae k x hx).2 y hy)
 . rcases akV ((ae k x hx).2 y hy) with h4 | ⟨g,hg,h4⟩
   . omega
   . obtain⟨i,hi,rfl⟩:=Aav hg
     have:=(adp (adU h (Aaa hi)).1).2.2.2.1;omega
theorem arR.toOk {f:aaz}(h:arR f):aeX f.blocks:=⟨h.len.1,h.tgt⟩
abbrev WSt:=List (Int×Int)×Bool
def wrF(s:WSt)(r b a:Int):WSt:=if 0<=(s.1.getD r.toNat (-1,-1)).1 then (s.1,false) else (s.1.set r.toNat (b,a),s.2)
theorem ah7(s:WSt)(r b a:Int):(wrF s r b a).1.length=s.1.length:=by
 unfold wrF;split <;> simp
def ah8 : Nat -> WSt -> WSt
 | 0,s=>s
 | k+1,s=>wrF (ah8 k s) (k:Int) 0 (-1)
def apB:acn:=⟨0,[]⟩
def asI:aaJ:=⟨0,0,⟨false,0⟩,⟨false,0⟩,0,[]⟩
def agJ (i : Nat) (l : List acn) : Nat -> WSt -> WSt
 | 0,s=>s
 | k+1,s=>wrF (agJ i l k s) (l.getD k apB).dst i (-1)
def akW(i k:Nat)(x:aaJ)(s:WSt):WSt:=if x.dst<0 then s else wrF s x.dst i k
def afY (i : Nat) (l : List aaJ) : Nat -> WSt -> WSt
 | 0,s=>s
 | k+1,s=>akW i k (l.getD k asI) (afY i l k s)
def alT(i:Nat)(x:DBlock)(s:WSt):WSt:=afY i x.list x.list.length (agJ i x.phis x.phis.length s)
def acL (bs : List DBlock) : Nat -> WSt -> WSt
 | 0,s=>s
 | k+1,s=>alT k (bs.getD k ajs) (acL bs k s)
def acG(f:aaz):WSt:=acL f.blocks f.blocks.length (ah8 f.params.toNat (List.replicate f.regs.toNat (-1,-1),true))
theorem agr : ∀ k (s : WSt), (ah8 k s).1.length = s.1.length
 | 0,_=>rfl
 | k+1,s=>by rw [ah8,ah7,agr]
theorem aja (i : Nat) (l : List acn) : ∀ k (s : WSt), (agJ i l k s).1.length = s.1.length
 | 0,_=>rfl
 | k+1,s=>by rw [agJ,ah7,aja]
theorem apC(i k:Nat)(x:aaJ)(s:WSt):(akW i k x s).1.length=s.1.length:=by
 unfold akW;split
 . rfl
 . rw [ah7]
theorem ajb (i : Nat) (l : List aaJ) : ∀ k (s : WSt), (afY i l k s).1.length = s.1.length
 | 0,_=>rfl
 | k+1,s=>by rw [afY,apC,ajb]
theorem alU(i:Nat)(x:DBlock)(s:WSt):(alT i x s).1.length=s.1.length:=by rw [alT,ajb,aja]
theorem agK (bs : List DBlock) : ∀ k (s : WSt), (acL bs k s).1.length = s.1.length
 | 0,_=>rfl
 | k+1,s=>by rw [acL,alU,agK]
def adV(bs:List DBlock)(t:List (Int×Int))(v:aay)(blk at_:Int):Bool :=
 afL (agu bs) (psF bs) v.reg (t.getD v.n.toNat (-1,-1)).1 (t.getD v.n.toNat (-1,-1)).2 blk at_
def apD(bs:List DBlock)(a:Int):Int:=((bs.getD a.toNat ajs).list.length:Int)
def aeW(bs:List DBlock)(t:List (Int×Int))(l:List Int)(src:List aay)(j:Nat):Bool:=adV bs t (src.getD j ⟨false,0⟩) (l.getD j 0) (apD bs (l.getD j 0))
def adm(x:aaJ):List aay:=(if shpA x.op=true then [x.a] else [])++((if shpB x.op=true then [x.b] else [])++x.args)
def afZ(bs:List DBlock)(t:List (Int×Int))(i j:Nat)(x:aaJ):Bool:=(adm x).all fun v=>adV bs t v i j
def ajM(bs:List DBlock)(t:List (Int×Int))(i:Nat)(x:DBlock):Bool :=
 ((List.range x.phis.length).all fun k=>(List.range (x.phis.getD k apB).src.length).all fun j=>aeW bs t (aaf bs 0 i) (x.phis.getD k apB).src j) &&
 (((List.range x.list.length).all fun j=>afZ bs t i j (x.list.getD j asI))&&adV bs t x.fin.on i x.list.length)
def ajN(f:aaz)(t:List (Int×Int)):Bool:=(List.range f.blocks.length).all fun i=>ajM f.blocks t i (f.blocks.getD i ajs)
def af0(f:aaz):Int :=
 if (aaZ f.blocks).length<f.blocks.length then 5
 else if (acG f).2=false then 7
 else if ajN f (acG f).1=false then 6
 else 0
def alV(fs:List aaz)(k:Nat):Int:=match fs[k]? with | some f=>af0 f | none=>0
def agT(u:adL):Int×Int :=
 if aav u≠(0,0) then aav u
 else if ado (alV u.funcs) u.funcs.length<u.funcs.length then (alV u.funcs (ado (alV u.funcs) u.funcs.length),((ado (alV u.funcs) u.funcs.length:Nat):Int))
 else (0,0)
end
end Go.Proofs.YtpeejlpcikefcaaGreatDoor
