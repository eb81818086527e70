import Derived.Test.YtgekbfgplclmeaaDoorPMeet
import Derived.Test.YtgekbfgplclmeaaDoorPKnown
/- dom.TreeOf, in plain Lean: the order of a search in depth is fit for the tree; the rounds end, and what holds then. ssa.Check, in plain Lean; and what code.Check says of a function, gathered. Known bits, in plain Lean: what instructions make of them, and that it is monotone. No program in sight. -/
namespace Go.Proofs.YtgekbfgplclmeaaDoor
section
open Go.RowKit
variable {i:Nat}
theorem aj7{tg:List Int}{t:Nat}(h:(t:Int)∈tg):(i:Int)∈ae1 tg t i:=by
 unfold ae1;exact List.mem_map.2 ⟨_,List.mem_filter.2 ⟨h,by simp⟩,rfl⟩
theorem aeK {l:List aad}{t:Nat}:∀{s i:Nat} {x:aad},l[i]?=some x->(t:Int)∈x.fin.to->((s+i:Nat):Int)∈aag l s t:=by
 induction l with
 | nil=>intro s i x h;simp at h
 | cons b l ih =>
   intro s i x h ht;simp only [aag,Aaw];cases i with
   | zero =>
     rw [Abf] at h;cases h;exact .inl (aj7 ht)
   | succ i =>
     rw [Abc] at h;have:=ih (s:=s+1) h ht;rw [show s+1+i=s+(i+1) by omega] at this;exact .inr this
def agz(bs:List aad):List Int:=(aaL bs).reverse
def aaS(bs:List aad):List Nat:=(agz bs).map Int.toNat
def psF(bs:List aad):Nat->Nat:=atF (aaS bs) (aaS bs).length
def acY(bs:List aad)(x:Nat):List Nat:=(aag bs 0 x).map Int.toNat
structure ae2 (bs:List aad):Prop where
 pos:0<bs.length
 tgt:∀(k:Nat) (x:aad),bs[k]?=some x->x.fin.to.length<=2∧∀t∈x.fin.to,0<=t∧t<(bs.length:Int)
variable {bs:List aad}
theorem ae2.tos(h:ae2 bs):∀b,∀t∈adJ bs b,0<=t:=by
 intro b t ht;unfold adJ at ht;cases e:bs[b]? with
 | none=>rw [e] at ht;cases ht
 | some x=>rw [e] at ht;exact ((h.tgt b x e).2 t ht).1
theorem ace(h:ae2 bs):(∀x∈aaL bs,0<=x∧x<(bs.length:Int))∧(aaL bs).Nodup∧ade bs (aaL bs) [0]∧(∃A,aaL bs=A++[0]):=by
 have hp:=h.pos;obtain⟨A,h1,h2⟩:=air bs h.tos bs.length 0 (List.replicate bs.length false,[]) (by dsimp only;rw [List.getElem?_replicate,if_pos hp]) (by dsimp only;rw [List.count_replicate_self];exact Aad _);have e:aaL bs=A:=by
  unfold aaL;have:=h1.left;rw [Aa7] at this;exact this
 refine⟨fun x hx=>?_,by rw [e];exact h1.nodup,by rw [e];exact h2,?_⟩
 . rw [e] at hx
   have:=h1.fresh x hx;dsimp only at this;rw [Aar] at this;exact⟨this.1,this.2.1⟩
 . obtain⟨n,hn⟩:∃n,bs.length=n+1:=⟨bs.length - 1,by omega⟩
   unfold aaL;rw [hn,acA];exact⟨_,rfl⟩
variable {j:Nat}
theorem agy{α:Type}{l:List α}(h:l.Nodup)(hi:i<l.length)(hj:j<l.length)(e:l[i]=l[j]):i=j:=by
 have h2:=List.pairwise_iff_getElem.1 h;rcases Nat.lt_trichotomy i j with h3 | h3 | h3
 . exact absurd e (h2 i j hi hj h3)
 . exact h3
 . exact absurd e.symm (h2 j i hj hi h3)
theorem aki {α:Type}{l:List α}(h:∀i j (hi:i<l.length) (hj:j<l.length),l[i]=l[j]->i=j):l.Nodup :=
 List.pairwise_iff_getElem.2 fun i j hi hj al e=>by have:=h i j hi hj e;omega
theorem adA(hj:j<(aaS bs).length):∃h:(aaL bs).length - 1 - j<(aaL bs).length,(aaS bs)[j]=((aaL bs)[(aaL bs).length - 1 - j]).toNat:=by
 have e:(aaS bs).length=(aaL bs).length:=by unfold aaS agz;simp
 have h:(aaL bs).length - 1 - j<(aaL bs).length:=by omega
 refine⟨h,?_⟩;have h2:(aaS bs)[j]?=some ((aaL bs)[(aaL bs).length - 1 - j]).toNat:=by
  unfold aaS agz;rw [Aap,List.getElem?_reverse (by omega),Aaa h];rfl
 rw [Aaa hj] at h2;exact Option.some.inj h2
theorem ael(bs:List aad):(aaS bs).length=(aaL bs).length:=by unfold aaS agz;simp
theorem aek(h:ae2 bs)(hi:i<(aaS bs).length)(hj:j<(aaS bs).length)(e:(aaS bs)[i]=(aaS bs)[j]):i=j:=by
 obtain⟨h1,h2,-,-⟩:=ace h;obtain⟨a,ea⟩:=adA hi;obtain⟨b,eb⟩:=adA hj;rw [ea,eb] at e;have p1:=h1 _ (Aai a);have p2:=h1 _ (Aai b);have e2:(aaL bs)[(aaL bs).length - 1 - i]=(aaL bs)[(aaL bs).length - 1 - j]:=by omega
 have:=agy h2 _ _ e2;have:=ael bs;omega
theorem afP(h:ae2 bs){x:Nat}(hx:x∈aaS bs):x<bs.length:=by
 obtain⟨h1,-,-,-⟩:=ace h;unfold aaS agz at hx;obtain⟨y,hy,rfl⟩:=List.mem_map.1 hx;have:=h1 y (List.mem_reverse.1 hy);omega
theorem aja {n:Nat}:∀(l:List Nat),l.Nodup->(∀x∈l,x<n)->l.length<=n:=by
 intro l h1 h2;have:=List.Nodup.length_le_of_subset (l₁:=l) (l₂:=List.range n) h1 (fun x hx=>List.mem_range.2 (h2 x hx));simpa using this
theorem afO(h:ae2 bs):(aaS bs).length<=bs.length:=by
 refine aja _ (aki fun i j hi hj e=>aek h hi hj e) (fun x hx=>afP h hx)
theorem adB(h:ae2 bs):0<(aaS bs).length∧∀(k:0<(aaS bs).length),(aaS bs)[0]=0:=by
 obtain⟨-,-,-,A,hA⟩:=ace h;have e:(aaL bs).length=A.length+1:=by rw [hA];simp
 have hl:0<(aaS bs).length:=by rw [ael,e];omega
 refine⟨hl,fun k=>?_⟩;obtain⟨a,ea⟩:=adA k;rw [ea];have:(aaL bs)[(aaL bs).length - 1 - 0]?=some 0:=by rw [hA];simp
 rw [Aaa a] at this;injection this with this;rw [this];rfl
theorem akN(h:ae2 bs)(hj:j<(aaS bs).length):psF bs (aaS bs)[j]=j:=by
 have hm:(aaS bs)[j]∈aaS bs:=Aai _;have hl:(aaS bs).idxOf (aaS bs)[j]<(aaS bs).length:=List.idxOf_lt_length_iff.2 hm;unfold psF atF;rw [Aa0,if_pos (aj6.2 hm)];exact aek h hl hj (List.getElem_idxOf hl)
theorem ahF(h:ae2 bs):psF bs 0=0:=by
 obtain⟨h1,h2⟩:=adB h;have:=akN h h1;rw [h2 h1] at this;exact this
theorem alj(h:ae2 bs)(hj:j<(aaS bs).length)(h1:1<=j):∃y,y∈acY bs (aaS bs)[j]∧∃j',∃h':j'<(aaS bs).length,j'<j∧(aaS bs)[j']=y:=by
 obtain⟨p1,p2,p3,A,hA⟩:=ace h;have el:=ael bs;obtain⟨a,ea⟩:=adA hj;have e:(aaL bs).length=A.length+1:=by rw [hA];simp
 rcases p3 _ a with⟨k,hk,al,hto⟩ | h0
 . have ag:(aaL bs).length - 1 - k<(aaS bs).length:=by omega
   obtain⟨b,eb⟩:=adA ag;have aj:(aaL bs).length - 1 - ((aaL bs).length - 1 - k)=k:=by omega
   refine⟨_,?_,(aaL bs).length - 1 - k,ag,by omega,rfl⟩;rw [eb,ea];have q:=p1 _ (Aai a);have ad:(((aaL bs)[(aaL bs).length - 1 - j].toNat:Nat):Int)∈adJ bs ((aaL bs)[k]).toNat:=by
    rw [Int.toNat_of_nonneg q.1];exact hto
   unfold adJ at ad;cases e5:bs[((aaL bs)[k]).toNat]? with
   | none=>rw [e5] at ad;cases ad
   | some x =>
     rw [e5] at ad;have:=aeK (s:=0) e5 ad;unfold acY;refine List.mem_map.2 ⟨_,this,?_⟩;simp only [aj,Aac,Aag]
 . exfalso
   rw [Aau] at h0;have hl:(aaL bs)[(aaL bs).length - 1]?=some 0:=by rw [hA];simp
   have ak:(aaL bs).length - 1<(aaL bs).length:=by omega
   rw [Aaa ak] at hl;injection hl with hl;have:=agy p2 _ _ (h0.trans hl.symm);omega
open Classical in
noncomputable def fpF (bs:List aad) (x:Nat):Nat:=if h:∃y,y∈acY bs x∧∃j j',∃(h:j<(aaS bs).length) (h':j'<(aaS bs).length),(aaS bs)[j]=x∧j'<j∧(aaS bs)[j']=y then Classical.choose h else 0
theorem amd(h:ae2 bs)(hj:j<(aaS bs).length)(h1:1<=j):fpF bs (aaS bs)[j]∈acY bs (aaS bs)[j]∧∃j',∃h':j'<(aaS bs).length,j'<j∧(aaS bs)[j']=fpF bs (aaS bs)[j]:=by
 obtain⟨y,h2,j',h3,h4,h5⟩:=alj h hj h1;have hex:∃y,y∈acY bs (aaS bs)[j]∧∃j2 j',∃(h:j2<(aaS bs).length) (h':j'<(aaS bs).length),(aaS bs)[j2]=(aaS bs)[j]∧j'<j2∧(aaS bs)[j']=y:=⟨y,h2,j,j',hj,h3,rfl,h4,h5⟩
 have hc:=Classical.choose_spec hex;have e:fpF bs (aaS bs)[j]=Classical.choose hex:=by unfold fpF;rw [dif_pos hex]
 rw [e];obtain⟨c1,k,k',c2,c3,c4,c5,c6⟩:=hc;have:=aek h c2 hj c4;exact⟨c1,k',c3,by omega,c6⟩
theorem aen(h:ae2 bs):Rpo bs.length (aaS bs) (psF bs) (acY bs) (fpF bs) :=
 ⟨(adB h).1,afO h,fun _ hx=>afP h hx,fun _ hj=>akN h hj,(adB h).2,fun _ hj h1=>amd h hj h1⟩
section
variable {n : Nat} {ord : List Nat} {ps : Nat -> Nat} {ahd : Nat -> List Nat} {fp : Nat -> Nat}
theorem ajt {s:(Nat->Int)×Bool}{b:Nat}(h:∀x,-1<=s.1 x)(hb : -1<=aa9 ps s.1 (-1) (ahd b)):∀x,-1<=(acV ps ahd s b).1 x:=by
 intro x;unfold acV
 by_cases hne:s.1 b≠aa9 ps s.1 (-1) (ahd b)
 . rw [if_pos hne]
   dsimp only
   by_cases hx:x=b
   . rw [hx,aaR];exact hb
   . rw [aa3 _ _ hx];exact h x
 . rw [if_neg hne];exact h x
structure PSt (n:Nat)(ord:List Nat)(ps:Nat->Nat)(ahd:Nat->List Nat)(fp:Nat->Nat)(u0:Nat->Int)(i:Nat)(s:(Nat->Int)×Bool):Prop where
 d:DSt n ord ps ahd fp i s.1
 low:∀x,-1<=s.1 x
 le:muF n ps s.1<=muF n ps u0
 lt:s.2=true->muF n ps s.1<muF n ps u0
 same:s.2=false->s.1=u0∧∀j (h:j<ord.length),1<=j->j<i->u0 ord[j]=aa9 ps u0 (-1) (ahd ord[j])
theorem PSt.next(ho:Rpo n ord ps ahd fp){u0:Nat->Int}{i:Nat}{s:(Nat->Int)×Bool}(h:PSt n ord ps ahd fp u0 i s)(h1:1<=i)(hi:i<ord.length):PSt n ord ps ahd fp u0 (i+1) (acV ps ahd s ord[i]):=by
 obtain⟨g1,g2,g3⟩:=alA ho h.d h1 hi;obtain⟨ao,-,-,-⟩:=h.d.turn ho h1 hi;refine⟨g1,ajt h.low (by omega),Aaj g2 h.le,fun hs=>?_,fun hs=>?_⟩
 . by_cases hne:s.1 ord[i]≠aa9 ps s.1 (-1) (ahd ord[i])
   . exact Aba (g3 hne) h.le
   . unfold acV at hs ⊢
     rw [if_neg hne] at hs ⊢;exact h.lt hs
 . by_cases hne:s.1 ord[i]≠aa9 ps s.1 (-1) (ahd ord[i])
   . unfold acV at hs
     rw [if_pos hne] at hs;cases hs
   . have he:s.1 ord[i]=aa9 ps s.1 (-1) (ahd ord[i]):=Classical.not_not.1 hne
     unfold acV at hs ⊢;rw [if_neg hne] at hs ⊢;obtain⟨k1,k2⟩:=h.same hs;refine⟨k1,fun j hj h2 h3=>?_⟩
     by_cases hji:j=i
     . subst hji;rw [<-k1];exact he
     . exact k2 j hj h2 (by omega)
theorem alk(ho:Rpo n ord ps ahd fp){u0:Nat->Int}:∀(m i:Nat) (s:(Nat->Int)×Bool),PSt n ord ps ahd fp u0 i s->1<=i->i+m=ord.length->PSt n ord ps ahd fp u0 ord.length (aeJ ps ahd (ord.drop i) s):=by
 intro m
 induction m with
 | zero =>
   intro i s h h1 he;rw [List.drop_of_length_le (by omega),show ord.length=i by omega];exact h
 | succ m ih =>
   intro i s h h1 he;rw [List.drop_eq_getElem_cons (by omega)];exact ih (i+1) _ (h.next ho h1 (by omega)) (by omega) (by omega)
structure Rest (n:Nat)(ord:List Nat)(ps:Nat->Nat)(ahd:Nat->List Nat)(fp:Nat->Nat)(up:Nat->Int):Prop where
 d:DSt n ord ps ahd fp 1 up
 low:∀x,-1<=up x
 fix:∀j (h:j<ord.length),1<=j->up ord[j]=aa9 ps up (-1) (ahd ord[j])
theorem PSt.zero {up:Nat->Int}(h:DSt n ord ps ahd fp 1 up)(hl:∀x,-1<=up x):PSt n ord ps ahd fp up 1 (up,false) :=
 ⟨h,hl,Aad _,fun h=>(by cases h),fun _=>⟨rfl,fun j hj h1 h2=>by omega⟩⟩
theorem aio(ho:Rpo n ord ps ahd fp):∀(f:Nat) (up:Nat->Int),DSt n ord ps ahd fp 1 up->(∀x,-1<=up x)->muF n ps up<f->Rest n ord ps ahd fp (ain ps ahd ord.tail f up):=by
 intro f
 induction f with
 | zero=>intro up _ _ h;omega
 | succ f ih =>
   intro up hd hl hf;have hp:=alk ho (ord.length - 1) 1 (up,false) (PSt.zero hd hl) (Aad _) (by have:=ho.pos;omega);rw [List.drop_one] at hp;rw [ain]
   by_cases hc:(aeJ ps ahd ord.tail (up,false)).2=true
   . rw [if_pos hc]
     exact ih _ (hp.d.again ho) hp.low (by have:=hp.lt hc;omega)
   . rw [if_neg hc]
     have ai:(aeJ ps ahd ord.tail (up,false)).2=false:=by simpa using hc
     obtain⟨k1,k2⟩:=hp.same ai;rw [k1];exact⟨hd,hl,fun j hj h1=>k2 j hj h1 hj⟩
end
def agE(bs:List aad):Nat->Int:=ain (psF bs) (acY bs) (aaS bs).tail (muF bs.length (psF bs) up0+1) up0
theorem ajo {bs:List aad}(h:ae2 bs):Rest bs.length (aaS bs) (psF bs) (acY bs) (fpF bs) (agE bs) :=
 aio (aen h) _ _ (DSt.start (aen h) (ahF h)) (fun x=>by unfold up0;split <;> omega) (Aa8 _)
def adZ(bs:List aad):List Int:=(List.range bs.length).map (adK (agE bs) 0 (-1))
theorem aeU(bs:List aad):(adZ bs).length=bs.length:=by unfold adZ;simp
theorem akA {bs:List aad}{k:Nat}(hk:k<bs.length):(adZ bs).getD k 0=if k=0 then -1 else agE bs k:=by
 unfold adZ;rw [Aab,Aap,Abg hk];rfl
theorem akB {bs:List aad}(h:ae2 bs):aiC (adZ bs) (psF bs):=by
 have hr:=ajo h;refine⟨fun k hk=>?_⟩;rw [aeU] at hk ⊢;rw [akA hk]
 by_cases h0:k=0
 . rw [if_pos h0];exact .inl rfl
 . rw [if_neg h0]
   by_cases hn:agE bs k<0
   . have:=hr.low k;exact .inl (by omega)
   . refine .inr ⟨(agE bs k).toNat,by omega,?_,?_⟩
     . exact hr.d.tree.lt _ (hr.d.tree.next k (by omega))
     . exact hr.d.tree.less k (by omega) h0
end
section
open Go.RowKit
def VOk(regs:Int)(v:ab3):Prop:=v.reg=true->0<=v.n∧v.n<regs
theorem aeX {regs:Int}{v:ab3}(h:abr regs v=0):VOk regs v:=by
 intro hr;unfold abr at h
 by_cases h1:v.reg=true∧¬(0<=v.n∧v.n<=regs - 1)
 . rw [if_pos h1] at h;omega
 . have h2:¬¬(0<=v.n∧v.n<=regs - 1):=fun h3=>h1 ⟨hr,h3⟩
   omega
theorem aiJ {regs n:Int}(h:ae3 regs n=0):0<=n∧n<regs:=by
 unfold ae3 at h
 by_cases h1:¬(0<=n∧n<=regs - 1)
 . rw [if_pos h1] at h;omega
 . omega
structure alY (regs:Int)(x:abo):Prop where
 op:1<=x.op∧x.op<=22
 dst : -1<=x.dst∧x.dst<regs
 low:x.op<=18->0<=x.dst
 a:VOk regs x.a
 b:VOk regs x.b
 offA:shpA x.op=false->x.a=⟨false,0⟩
 offB:shpB x.op=false->x.b=⟨false,0⟩
 args:∀v∈x.args,VOk regs v
theorem ak9 {fs:List aal}{regs:Int}{x:abo}(hr:0<=regs)(h:aed fs regs x=0):alY regs x:=by
 unfold aed at h
 by_cases h1:¬(1<=x.op∧x.op<=22)
 . rw [if_pos h1] at h;omega
 rw [if_neg h1] at h
 by_cases h2:aco x=true
 . rw [if_pos h2] at h;omega
 rw [if_neg h2] at h
 by_cases h3:(shpD x.op=true∧¬(x.op=20∧x.dst = -1))∧ae3 regs x.dst≠0
 . rw [if_pos h3] at h;omega
 rw [if_neg h3] at h;have hf:abW (abr regs x.a) (abr regs x.b) (abS fs regs x)=0->abr regs x.a=0∧abr regs x.b=0∧abS fs regs x=0:=by
  unfold abW
  by_cases a1:abr regs x.a≠0
  . rw [if_pos a1];exact fun h=>absurd h a1
  rw [if_neg a1]
  by_cases a2:abr regs x.b≠0
  . rw [if_pos a2];exact fun h=>absurd h a2
  rw [if_neg a2];exact fun h=>⟨by omega,by omega,h⟩
 obtain⟨h4,h5,h6⟩:=hf h;unfold aco at h2;simp only [Bool.or_eq_true,Bool.and_eq_true,Bool.not_eq_true',decide_eq_true_eq,not_or,not_and] at h2;obtain⟨⟨⟨g1,g2⟩,g3⟩,g4⟩:=h2;have ae : -1<=x.dst∧x.dst<regs∧(x.op<=18->0<=x.dst):=by
  cases hD:shpD x.op with
  | false =>
    have:=g1 hD;refine⟨by omega,by omega,fun an=>?_⟩;unfold shpD at hD;simp only [Bool.or_eq_false_iff,decide_eq_false_iff_not] at hD;omega
  | true =>
    by_cases h7:x.op=20∧x.dst = -1
    . exact⟨by omega,by omega,fun h=>by omega⟩
    . have h8:ae3 regs x.dst=0:=by
       by_cases h9:ae3 regs x.dst=0
       . exact h9
       . exact absurd ⟨⟨hD,h7⟩,h9⟩ h3
      have:=aiJ h8;exact⟨by omega,by omega,fun _=>this.1⟩
 refine⟨by omega,⟨ae.1,ae.2.1⟩,ae.2.2,aeX h4,aeX h5,fun h=>by have:=g2 h;exact Classical.not_not.1 this,fun h=>by have:=g3 h;exact Classical.not_not.1 this,fun v hv=>?_⟩
 by_cases hop:x.op=20
 . unfold abS at h6
   rw [if_neg (by simpa using hop)] at h6
   by_cases b1:¬(0<=x.fn∧x.fn<=(fs.length:Int) - 1)
   . rw [if_pos b1] at h6;omega
   rw [if_neg b1] at h6
   by_cases b2:(x.args.length:Int)≠(fs.getD x.fn.toNat ⟨ByteArray.empty,0,0,[]⟩).params
   . rw [if_pos b2] at h6;omega
   rw [if_neg b2] at h6;exact aeX (agd.1 h6 v hv)
 . have:=(g4 hop).2
   have:x.args.length=0:=by omega
   rw [Abk.1 this] at hv;cases hv
structure agQ (f:aal):Prop where
 len:1<=f.blocks.length∧f.blocks.length<=40
 pr:0<=f.params∧f.params<=6∧f.params<=f.regs∧f.regs<=100
 many:∀x∈f.blocks,x.phis.length<=300∧x.list.length<=300
 tgt:∀(k:Nat) (x:aad),f.blocks[k]?=some x->x.fin.to.length<=2∧∀t∈x.fin.to,0<=t∧t<(f.blocks.length:Int)
 kind:∀(k:Nat) (x:aad),f.blocks[k]?=some x->1<=x.fin.kind∧x.fin.kind<=3∧(x.fin.to.length:Int)=x.fin.kind - 1∧(∀t∈x.fin.to,1<=t)∧¬(x.fin.kind=3∧x.fin.to.getD 0 0=x.fin.to.getD 1 0)
 on:∀(k:Nat) (x:aad),f.blocks[k]?=some x->VOk f.regs x.fin.on
 phi:∀(k:Nat) (x:aad),f.blocks[k]?=some x->∀p∈x.phis,(0<=p.dst∧p.dst<f.regs)∧p.src.length=(aag f.blocks 0 k).length∧∀v∈p.src,VOk f.regs v
 phi0:∀(k:Nat) (x:aad),f.blocks[k]?=some x->∀p∈x.phis,k≠0
 ins:∀(k:Nat) (x:aad),f.blocks[k]?=some x->∀y∈x.list,alY f.regs y
 args:∀(k:Nat) (x:aad),f.blocks[k]?=some x->∀y∈x.list,y.args.length<=1048576
theorem afF {u:aax}(h:aak u=(0,0)){k:Nat}{f:aal}(hf:u.funcs[k]?=some f):agQ f:=by
 obtain⟨hh,hb⟩:=acJ h hf;obtain⟨-,-,p1,p2,p3,p4,l1,l2,hm⟩:=acZ hh;obtain⟨e1,e2⟩:=adP.1 hb;have aq:=(ago h).2 f (Aah hf);have he:∀(k:Nat) (x:aad),f.blocks[k]?=some x->adp f.blocks.length f.regs x.fin=0:=fun k x hx=>by
  have:=e1 k (Aae.1 hx).1;unfold adS at this;rw [hx] at this;exact this
 have af:∀(k:Nat) (x:aad),f.blocks[k]?=some x->(∀p∈x.phis,afQ f.regs k (aheadF f.blocks) p=0)∧∀y∈x.list,aed u.funcs f.regs y=0:=fun k x hx =>
  (adf hx).1 (e2 k (Aae.1 hx).1)
 refine⟨⟨l1,l2⟩,⟨p1,p2,p3,p4⟩,fun x hx=>by have:=afk hx;omega,fun k x hx=>?_,fun k x hx=>?_,fun k x hx=>?_,fun k x hx p hp=>?_,fun k x hx p hp=>?_,fun k x hx y hy=>?_,fun k x hx y hy=>?_⟩
 . have:=adR (he k x hx)
   refine⟨by omega,fun t ht=>?_⟩;have:=this.2.2.2.1 t ht;omega
 . obtain⟨a1,a2,a3,a4,a5,-⟩:=adR (he k x hx)
   exact⟨a1,a2,a3,fun t ht=>(a4 t ht).1,a5⟩
 . exact aeX (adR (he k x hx)).2.2.2.2.2
 . obtain⟨-,a2,a3,a4⟩:=afR.1 ((af k x hx).1 p hp)
   rw [abJ (Aae.1 hx).1] at a3;exact⟨aiJ a2,a3,fun v hv=>aeX (agd.1 a4 v hv)⟩
 . exact (afR.1 ((af k x hx).1 p hp)).1
 . exact ak9 (by omega) ((af k x hx).2 y hy)
 . rcases agv ((af k x hx).2 y hy) with h4 | ⟨g,hg,h4⟩
   . omega
   . obtain⟨i,hi,rfl⟩:=Aav hg
     have:=(acZ (acJ h (Aaa hi)).1).2.2.2.1;omega
theorem agQ.toOk {f:aal}(h:agQ f):ae2 f.blocks:=⟨h.len.1,h.tgt⟩
abbrev WSt:=List (Int×Int)×Bool
def wrF(s:WSt)(r b a:Int):WSt:=if 0<=(s.1.getD r.toNat (-1,-1)).1 then (s.1,false) else (s.1.set r.toNat (b,a),s.2)
theorem ad1(s:WSt)(r b a:Int):(wrF s r b a).1.length=s.1.length:=by
 unfold wrF;split <;> simp
def adN : Nat -> WSt -> WSt
 | 0,s=>s
 | k+1,s=>wrF (adN k s) (k:Int) 0 (-1)
def acQ:adO:=⟨0,[]⟩
def ab1:abo:=⟨0,0,⟨false,0⟩,⟨false,0⟩,0,[]⟩
def abh (i : Nat) (l : List adO) : Nat -> WSt -> WSt
 | 0,s=>s
 | k+1,s=>wrF (abh i l k s) (l.getD k acQ).dst i (-1)
def adM(i k:Nat)(x:abo)(s:WSt):WSt:=if x.dst<0 then s else wrF s x.dst i k
def aa4 (i : Nat) (l : List abo) : Nat -> WSt -> WSt
 | 0,s=>s
 | k+1,s=>adM i k (l.getD k ab1) (aa4 i l k s)
def ad0(i:Nat)(x:aad)(s:WSt):WSt:=aa4 i x.list x.list.length (abh i x.phis x.phis.length s)
def aaO (bs : List aad) : Nat -> WSt -> WSt
 | 0,s=>s
 | k+1,s=>ad0 k (bs.getD k adU) (aaO bs k s)
def aaW(f:aal):WSt:=aaO f.blocks f.blocks.length (adN f.params.toNat (List.replicate f.regs.toNat (-1,-1),true))
theorem acj : ∀ k (s : WSt), (adN k s).1.length = s.1.length
 | 0,_=>rfl
 | k+1,s=>by rw [adN,ad1,acj]
theorem ack (i : Nat) (l : List adO) : ∀ k (s : WSt), (abh i l k s).1.length = s.1.length
 | 0,_=>rfl
 | k+1,s=>by rw [abh,ad1,ack]
theorem ajO(i k:Nat)(x:abo)(s:WSt):(adM i k x s).1.length=s.1.length:=by
 unfold adM;split
 . rfl
 . rw [ad1]
theorem afz (i : Nat) (l : List abo) : ∀ k (s : WSt), (aa4 i l k s).1.length = s.1.length
 | 0,_=>rfl
 | k+1,s=>by rw [aa4,ajO,afz]
theorem ahn(i:Nat)(x:aad)(s:WSt):(ad0 i x s).1.length=s.1.length:=by rw [ad0,afz,ack]
theorem abY (bs : List aad) : ∀ k (s : WSt), (aaO bs k s).1.length = s.1.length
 | 0,_=>rfl
 | k+1,s=>by rw [aaO,ahn,abY]
def acb(bs:List aad)(t:List (Int×Int))(v:ab3)(blk at_:Int):Bool :=
 adz (adZ bs) (psF bs) v.reg (t.getD v.n.toNat (-1,-1)).1 (t.getD v.n.toNat (-1,-1)).2 blk at_
def ai6(bs:List aad)(a:Int):Int:=((bs.getD a.toNat adU).list.length:Int)
def ac0(bs:List aad)(t:List (Int×Int))(l:List Int)(src:List ab3)(j:Nat):Bool:=acb bs t (src.getD j ⟨false,0⟩) (l.getD j 0) (ai6 bs (l.getD j 0))
def abU(x:abo):List ab3:=(if shpA x.op=true then [x.a] else [])++((if shpB x.op=true then [x.b] else [])++x.args)
def adw(bs:List aad)(t:List (Int×Int))(i j:Nat)(x:abo):Bool:=(abU x).all fun v=>acb bs t v i j
def af4(bs:List aad)(t:List (Int×Int))(i:Nat)(x:aad):Bool :=
 ((List.range x.phis.length).all fun k=>(List.range (x.phis.getD k acQ).src.length).all fun j=>ac0 bs t (aag bs 0 i) (x.phis.getD k acQ).src j) &&
 (((List.range x.list.length).all fun j=>adw bs t i j (x.list.getD j ab1))&&acb bs t x.fin.on i x.list.length)
def af5(f:aal)(t:List (Int×Int)):Bool:=(List.range f.blocks.length).all fun i=>af4 f.blocks t i (f.blocks.getD i adU)
def acG(f:aal):Int :=
 if (aaL f.blocks).length<f.blocks.length then 5
 else if (aaW f).2=false then 7
 else if af5 f (aaW f).1=false then 6
 else 0
def aiy(fs:List aal)(k:Nat):Int:=match fs[k]? with | some f=>acG f | none=>0
def adk(u:aax):Int×Int :=
 if aak u≠(0,0) then aak u
 else if acd (aiy u.funcs) u.funcs.length<u.funcs.length then (aiy u.funcs (acd (aiy u.funcs) u.funcs.length),((acd (aiy u.funcs) u.funcs.length:Nat):Int))
 else (0,0)
end
section
namespace Kn
end Kn
end
end Go.Proofs.YtgekbfgplclmeaaDoor
