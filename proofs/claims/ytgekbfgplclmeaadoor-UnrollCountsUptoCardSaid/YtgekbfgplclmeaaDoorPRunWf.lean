import Derived.Test.YtgekbfgplclmeaaDoorPRun0
/- A run of a checked unit, in plain Lean: what stays true of it, and what a step may be. No program in sight. A run of a checked unit at its start, in plain Lean. A run of a checked unit at its end, in plain Lean. -/
namespace Go.Proofs.YtgekbfgplclmeaaDoor
section
theorem acS {l:List aad}:∀{s t:Nat} {v:Int},v∈aag l s t↔∃i y,l[i]?=some y∧(t:Int)∈y.fin.to∧v=((s+i:Nat):Int):=by
 induction l with
 | nil=>intro s t v;simp [aag]
 | cons b l ih =>
   intro s t v;rw [aag,Aaw,ih];constructor
   . rintro (h | ⟨i,y,h1,h2,h3⟩)
     . unfold ae1 at h
       obtain⟨z,hz,rfl⟩:=List.mem_map.1 h;rw [List.mem_filter] at hz;have e:(t:Int)=z:=(of_decide_eq_true hz.2).symm;exact⟨0,b,rfl,by rw [e];exact hz.1,by simp⟩
     . exact⟨i+1,y,h1,h2,by rw [h3];omega⟩
   . rintro⟨i,y,h1,h2,h3⟩
     cases i with
     | zero =>
       left;have e:b=y:=by simpa using h1
       subst e;unfold ae1;refine List.mem_map.2 ⟨(t:Int),List.mem_filter.2 ⟨h2,by simp⟩,by rw [h3];simp⟩
     | succ i=>exact .inr ⟨i,y,h1,h2,by rw [h3];omega⟩
structure FrW (u:aax)(t:RnF)(f:aal)(x:aad):Prop where
 fn:u.funcs[t.fn]?=some f
 blk:f.blocks[t.blk]?=some x
 pos:t.pos<=x.list.length
 regs:t.regs.length=f.regs.toNat
 num:∀v∈t.regs,I64 v
 low : -1<=t.dst
variable {u:aax}{f:aal}{x:aad}
theorem FrW.blkR{t:RnF}(h:FrW u t f x):aiI u t.fn t.blk=x:=by
 unfold Go.Proofs.YtgekbfgplclmeaaDoor.aiI aez;rw [Aab,Aab,h.fn];show (f.blocks[t.blk]?).getD _=x;rw [h.blk];rfl
theorem FrW.funcR{t:RnF}(h:FrW u t f x):aez u t.fn=f:=by
 unfold Go.Proofs.YtgekbfgplclmeaaDoor.aez;rw [Aab,h.fn];rfl
def ad3 : List RnF -> Prop
 | t :: c :: r=>t.dst<(c.regs.length:Int)∧ad3 (c :: r)
 | _=>True
def ajQ(u:aax)(n:Nat)(c:List (List Int)):Prop:=c.length=u.funcs.length∧∀(k:Nat) (f:aal),u.funcs[k]?=some f->∃r:List Int,c[k]?=some r∧r.length=f.blocks.length∧∀v∈r,0<=v∧v<=(n:Int)+1
structure RnW (u:aax)(s:RnS):Prop where
 frs:∀t∈s.frs,∃f x,FrW u t f x
 link:ad3 s.frs
 deep:s.frs.length<=30
 mem:∀v∈s.mem,I64 v
 inp:∀v∈s.inp,I64 v
 out:s.out.length<=200∧∀v∈s.out,I64 v
 value:I64 s.value
 cnt:ajQ u s.steps s.cnt
inductive aeq (u : aax) (t : RnF) (r : List RnF) (x : aad) (s : RnS) : RnS × Bool -> Prop
 | jump (ae:Nat) (hp:t.pos=x.list.length) (ax:(ae:Int)∈x.fin.to) (hk:x.fin.kind=2∧x.fin.to.getD 0 0=(ae:Int)∨x.fin.kind=3∧x.fin.to.getD (if aaX t.regs x.fin.on≠0 then 0 else 1) 0=(ae:Int)) :
    aeq u t r x s ({ s with steps:=s.steps+1,frs:=ab9 u ae t :: r,cnt:=ab7 s.cnt t.fn ae },true)
 | ret (c:RnF) (r':List RnF) (hp:t.pos=x.list.length) (hk:x.fin.kind=1) (hr:r=c :: r') :
    aeq u t r x s ({ s with steps:=s.steps+1,frs:={ c with regs:=adG c.regs t.dst (aaX t.regs x.fin.on) } :: r' },true)
 | done (hp:t.pos=x.list.length) (hk:x.fin.kind=1) (hr:r=[]) :
    aeq u t r x s ({ s with steps:=s.steps+1,frs:=[],value:=aaX t.regs x.fin.on,state:=0 },false)
 | stop (st:Int) (y:abo) (hy:x.list[t.pos]?=some y) (hs:st≠0) :
    aeq u t r x s ({ s with steps:=s.steps+1,frs:={ t with pos:=t.pos+1 } :: r,state:=st },false)
 | ins (y : abo) (mem inp out : List Int) (n : Int) (hy : x.list[t.pos]? = some y) (aj : y.op ≠ 20) (aF : y.op <= 17 -> ajU y.op (aaX t.regs y.a) (aaX t.regs y.b) = some n ∧ mem = s.mem ∧ inp = s.inp)
    (av:(y.op≠22∧out=s.out)∨(y.op=22∧s.out.length≠200∧out=s.out++[aaX t.regs y.a])) (hn:I64 n) (hm:∀v∈mem,I64 v) (aJ:mem.length=s.mem.length) (hi:∀v∈inp,v∈s.inp) :
    aeq u t r x s ({ s with steps:=s.steps+1,mem:=mem,inp:=inp,out:=out,frs:={ t with pos:=t.pos+1,regs:=adG t.regs y.dst n } :: r },true)
 | call (y:abo) (hy:x.list[t.pos]?=some y) (aj:y.op=20) (hd:r.length+1≠30) :
    aeq u t r x s ({ s with steps:=s.steps+1,frs:=⟨y.fn.toNat,0,0,abf u y.fn.toNat (y.args.map (aaX t.regs)),y.dst⟩ :: { t with pos:=t.pos+1 } :: r,cnt:=ab7 s.cnt y.fn.toNat 0 },true)
theorem abF:I64 0:=by unfold I64;omega
variable {regs:List Int}
theorem aaE(h:∀v∈regs,I64 v){v:ab3}(hv:I64 v.n):I64 (aaX regs v):=by
 unfold aaX;split
 . rw [Aab]
   cases e:regs[v.n.toNat]? with
   | none=>exact abF
   | some y=>exact h y (Aah e)
 . exact hv
theorem ahM(regs:List Int)(d n:Int):(adG regs d n).length=regs.length:=by unfold adG;split <;> simp
variable {n:Int}
theorem ahN(h:∀v∈regs,I64 v){d:Int}(hn:I64 n):∀v∈adG regs d n,I64 v:=by
 unfold adG;split
 . intro v hv
   rcases List.mem_or_eq_of_mem_set hv with h1 | h1
   . exact h v h1
   . rw [h1];exact hn
 . exact h
theorem afZ{d:Int}(h:d<0):adG regs d n=regs:=if_neg (by omega)
theorem afU : ∀ (ps : List adO) (ns r : List Int), (afT ps ns r).length = r.length
 | p :: ps,n :: ns,r=>by rw [afT,afU ps ns];simp
 | [],_,_=>rfl
 | _ :: _,[],_=>rfl
theorem ahG : ∀ (ps : List adO) (ns r : List Int), (∀ v ∈ ns, I64 v) -> (∀ v ∈ r, I64 v) -> ∀ v ∈ afT ps ns r, I64 v
 | p :: ps,n :: ns,r,h1,h2=>by
   rw [afT];refine ahG ps ns _ (fun v hv=>h1 v (Aa3 _ hv)) fun v hv=>?_;rcases List.mem_or_eq_of_mem_set hv with h3 | h3
   . exact h2 v h3
   . rw [h3];exact h1 n (Aa6 ..)
 | [],_,_,_,h2=>h2
 | _ :: _,[],_,_,h2=>h2
structure aiw (u:aax):Prop where
 vals:∀f∈u.funcs,∀x∈f.blocks,(∀p∈x.phis,∀v∈p.src,I64 v.n)∧(∀y∈x.list,I64 y.a.n∧I64 y.b.n∧∀v∈y.args,I64 v.n)∧I64 x.fin.on.n
 init:∀g∈u.globals,∀v∈g.init,I64 v
theorem aiY {fs:List aal}{regs:Int}{x:abo}(h:aed fs regs x=0) :
 (x.op=20->0<=x.fn∧∃g,fs[x.fn.toNat]?=some g∧(x.args.length:Int)=g.params)∧(x.op=19∨x.op=22->x.dst = -1):=by
 unfold aed at h
 by_cases h1:¬(1<=x.op∧x.op<=22)
 . rw [if_pos h1] at h;omega
 rw [if_neg h1] at h
 by_cases h2:aco x=true
 . rw [if_pos h2] at h;omega
 rw [if_neg h2] at h
 by_cases h3:(shpD x.op=true∧¬(x.op=20∧x.dst = -1))∧ae3 regs x.dst≠0
 . rw [if_pos h3] at h;omega
 rw [if_neg h3] at h;have h6:abS fs regs x=0:=by
  unfold abW at h
  by_cases a1:abr regs x.a≠0
  . rw [if_pos a1] at h;exact absurd h a1
  rw [if_neg a1] at h
  by_cases a2:abr regs x.b≠0
  . rw [if_pos a2] at h;exact absurd h a2
  rw [if_neg a2] at h;exact h
 refine⟨fun hop=>?_,fun hop=>?_⟩
 . unfold abS at h6
   rw [if_neg (by simpa using hop)] at h6
   by_cases b1:¬(0<=x.fn∧x.fn<=(fs.length:Int) - 1)
   . rw [if_pos b1] at h6;omega
   rw [if_neg b1] at h6;have b1:=Classical.not_not.1 b1
   by_cases b2:(x.args.length:Int)≠(fs.getD x.fn.toNat ⟨ByteArray.empty,0,0,[]⟩).params
   . rw [if_pos b2] at h6;omega
   have b2:=Classical.not_not.1 b2;have hk:x.fn.toNat<fs.length:=by omega
   refine⟨b1.1,fs[x.fn.toNat],Aaa hk,?_⟩;rw [b2,Aab,Aaa hk];rfl
 . unfold aco at h2
   simp only [Bool.or_eq_true,Bool.and_eq_true,Bool.not_eq_true',decide_eq_true_eq,not_or,not_and] at h2;have hD:shpD x.op=false:=by unfold shpD;rcases hop with e | e <;> rw [e] <;> rfl
   have:=h2.1.1.1 hD;exact Classical.not_not.1 this
theorem aej(h:aak u=(0,0)){k b:Nat}{y:abo}(hf:u.funcs[k]?=some f)(hx:f.blocks[b]?=some x)(hy:y∈x.list) :
 (y.op=20->0<=y.fn∧∃g,u.funcs[y.fn.toNat]?=some g∧(y.args.length:Int)=g.params)∧(y.op=19∨y.op=22->y.dst = -1):=by
 obtain⟨-,hb⟩:=acJ h hf;obtain⟨-,e2⟩:=adP.1 hb;exact aiY (((adf hx).1 (e2 b (Aae.1 hx).1)).2 y hy)
theorem akC{op a b:Int}(h:ajU op a b=some n):I64 n:=by
 unfold ajU at h;obtain⟨z,-,rfl⟩:=Option.map_eq_some_iff.1 h;exact al4 z
section
variable {u : aax} {s : RnS} {t : RnF} {r : List RnF} {f : aal} {x : aad}
theorem af0(hc:aak u=(0,0))(hn:aiw u)(hs:RnW u s)(ai:s.frs=t :: r)(ht:FrW u t f x):aeq u t r x s (s.step u):=by
 have al:s.top=t:=by unfold RnS.top;rw [ai];rfl
 have hf:=afF hc ht.fn;obtain⟨n1,n2,n3⟩:=hn.vals f (Aah ht.fn) x (Aah ht.blk);unfold RnS.step;rw [al,ht.blkR]
 by_cases hp:t.pos=x.list.length
 . rw [if_pos hp]
   obtain⟨k1,k2,k3,k4,-⟩:=hf.kind _ x ht.blk;have hj:∀k:Nat,({ s with steps:=s.steps+1 }:RnS).jump u k={ s with steps:=s.steps+1,frs:=ab9 u k t :: r,cnt:=ab7 s.cnt t.fn k }:=fun k=>by
    unfold RnS.jump RnS.setTop RnS.top;rw [ai];rfl
   have az:∀k:Nat,k<x.fin.to.length->(((x.fin.to.getD k 0).toNat:Nat):Int)=x.fin.to.getD k 0∧x.fin.to.getD k 0∈x.fin.to:=fun k hk=>by
    have hm:x.fin.to.getD k 0∈x.fin.to:=by rw [Aab,Aaa hk];exact Aai _
    have:=k4 _ hm;exact⟨by omega,hm⟩
   unfold RnS.end_
   by_cases h2:x.fin.kind=2
   . rw [if_pos h2,hj]
     obtain⟨a1,a2⟩:=az 0 (by omega);exact .jump _ hp (by rw [a1];exact a2) (.inl ⟨h2,a1.symm⟩)
   rw [if_neg h2]
   by_cases h3:x.fin.kind=3
   . rw [if_pos h3,hj]
     have ag:({ s with steps:=s.steps+1 }:RnS).top=t:=al;rw [ag];obtain⟨a1,a2⟩:=az (if aaX t.regs x.fin.on≠0 then 0 else 1) (by split <;> omega);exact .jump _ hp (by rw [a1];exact a2) (.inr ⟨h3,a1.symm⟩)
   rw [if_neg h3];have aK:({ s with steps:=s.steps+1 }:RnS).frs.tail=r:=by show s.frs.tail=r;rw [ai];rfl
   have ag:({ s with steps:=s.steps+1 }:RnS).top=t:=al;rw [aK,ag]
   by_cases hr:r=[]
   . rw [if_pos hr]
     exact .done hp (by omega) hr
   . rw [if_neg hr]
     cases r with
     | nil=>exact absurd rfl hr
     | cons c r'=>exact .ret c r' hp (by omega) rfl
 . rw [if_neg hp]
   have ak:t.pos<x.list.length:=by have:=ht.pos;omega
   have hy:x.list.getD t.pos ⟨0,0,⟨false,0⟩,⟨false,0⟩,0,[]⟩=x.list[t.pos]:=by rw [Aab,Aaa ak];rfl
   rw [hy];have af:x.list[t.pos]?=some x.list[t.pos]:=Aaa ak;obtain⟨y,aO⟩:∃y,y=x.list[t.pos]:=⟨_,rfl⟩
   rw [<-aO] at af ⊢;have an:y∈x.list:=Aah af;have ho:=hf.ins _ x ht.blk y an;obtain⟨m1,m2,m3⟩:=n2 y an;obtain⟨c1,c2⟩:=aej hc ht.fn ht.blk an;have aC:({ s with steps:=s.steps+1 }:RnS).setTop { t with pos:=t.pos+1 }={ s with steps:=s.steps+1,frs:={ t with pos:=t.pos+1 } :: r }:=by
    unfold RnS.setTop;rw [ai];rfl
   rw [aC];have aD:=aaE ht.num m1;have aN:=aaE ht.num m2;have aL:({ s with steps:=s.steps+1,frs:={ t with pos:=t.pos+1 } :: r }:RnS).top={ t with pos:=t.pos+1 }:=rfl;unfold RnS.ins;rw [aL]
   by_cases h1:y.op=18∨y.op=19
   . rw [if_pos h1]
     by_cases h2:0<=aaX t.regs y.a∧aaX t.regs y.a<=(s.mem.length:Int) - 1
     case neg=>rw [if_neg h2];exact .stop 3 y af (by omega)
     rw [if_pos h2]
     by_cases h3:y.op=19
     . rw [if_pos h3]
       have hd:=c2 (.inl h3)
       have h := aeq.ins (u := u) (t := t) (r := r) (x := x) (s := s) y (s.mem.set (aaX t.regs y.a).toNat (aaX t.regs y.b)) s.inp s.out 0 af (by omega) (fun h => by omega) (.inl ⟨by omega, rfl⟩) abF
        (fun v hv => by
          rcases List.mem_or_eq_of_mem_set hv with h | h
          . exact hs.mem v h
          . rw [h]; exact aN) (by simp) (fun v hv => hv)
       rw [afZ (by omega:y.dst<0)] at h;exact h
     . rw [if_neg h3]
       refine .ins y s.mem s.inp s.out (s.mem.getD (aaX t.regs y.a).toNat 0) af (by omega) (fun h=>by omega) (.inl ⟨by omega,rfl⟩) ?_ hs.mem rfl (fun v hv=>hv);have hk:(aaX t.regs y.a).toNat<s.mem.length:=by omega
       rw [Aab,Aaa hk];exact hs.mem _ (Aai hk)
   rw [if_neg h1]
   by_cases aj:y.op=20
   . rw [if_pos aj]
     by_cases h30:r.length+1=30
     . rw [if_pos (by rw [Aaq];exact h30)];exact .stop 4 y af (by omega)
     . rw [if_neg (by rw [Aaq];exact h30)];exact .call y af aj h30
   rw [if_neg aj]
   by_cases h21:y.op=21
   . rw [if_pos h21]
     refine .ins y s.mem s.inp.tail s.out (s.inp.headD (-1)) af (by omega) (fun h=>by omega) (.inl ⟨by omega,rfl⟩) ?_ hs.mem rfl (fun v hv=>List.mem_of_mem_tail hv);cases e:s.inp with
     | nil=>unfold I64;dsimp only [List.headD_nil];omega
     | cons v l=>exact hs.inp v (by rw [e];exact Aa6 ..)
   rw [if_neg h21]
   by_cases h22:y.op=22
   . rw [if_pos h22]
     by_cases h200:s.out.length=200
     . rw [if_pos h200];exact .stop 5 y af (by omega)
     . rw [if_neg h200]
       have h:=aeq.ins (u:=u) (t:=t) (r:=r) (x:=x) (s:=s) y s.mem s.inp (s.out++[aaX t.regs y.a]) 0 af (by omega) (fun h=>by omega) (.inr ⟨h22,h200,rfl⟩) abF hs.mem rfl (fun v hv=>hv);rw [afZ (by have:=c2 (.inr h22);omega:y.dst<0)] at h;exact h
   rw [if_neg h22];cases e:ajU y.op (aaX t.regs y.a) (aaX t.regs y.b) with
   | none=>exact .stop 2 y af (by omega)
   | some n=>exact .ins y s.mem s.inp s.out n af aj (fun _=>⟨e,rfl,rfl⟩) (.inl ⟨h22,rfl⟩) (akC e) hs.mem rfl (fun v hv=>hv)
end
theorem ajQ.more {u : aax} {n : Nat} {c : List (List Int)} (h : ajQ u n c) : ajQ u (n + 1) c := ⟨h.1, fun k f hf => by
 obtain ⟨r, h1, h2, h3⟩ := h.2 k f hf
 exact ⟨r, h1, h2, fun v hv => by have := h3 v hv; omega⟩⟩
theorem ajQ.bump {u:aax}{n:Nat}{c:List (List Int)}(h:ajQ u n c)(fn b:Nat):ajQ u (n+1) (ab7 c fn b):=by
 refine⟨by unfold ab7;rw [List.length_modify];exact h.1,fun k f hf=>?_⟩;obtain⟨r,h1,h2,h3⟩:=h.2 k f hf
 by_cases e:fn=k
 . subst e
   refine⟨r.modify b (·+1),by unfold ab7;rw [List.getElem?_modify_eq,h1];rfl,by rw [List.length_modify];exact h2,fun v hv=>?_⟩;obtain⟨i,hi,rfl⟩:=Aav hv;rw [List.getElem_modify];have aI:i<r.length:=by rw [List.length_modify] at hi;exact hi
   have:=h3 r[i] (Aai aI);split <;> omega
 . refine⟨r,by unfold ab7;rw [Abj,h1];simp [e],h2,fun v hv=>by have:=h3 v hv;omega⟩
theorem ad3.same {t t':RnF}{r:List RnF}(h:ad3 (t :: r))(e:t'.dst=t.dst):ad3 (t' :: r):=by
 cases r with
 | nil=>trivial
 | cons c r=>exact⟨by rw [e];exact h.1,h.2⟩
theorem ad3.tail {t:RnF}{r:List RnF}(h:ad3 (t :: r)):ad3 r:=by
 cases r with
 | nil=>trivial
 | cons c r=>exact h.2
section
variable {u : aax} {s : RnS} {t : RnF} {r : List RnF} {f : aal} {x : aad}
theorem ahx(hc:aak u=(0,0))(hn:aiw u)(ht:FrW u t f x){ae:Nat}(ax:(ae:Int)∈x.fin.to):∃z,FrW u (ab9 u ae t) f z∧f.blocks[ae]?=some z:=by
 have hf:=afF hc ht.fn;have ak:=((hf.tgt _ x ht.blk).2 _ ax).2;have hz:f.blocks[ae]?=some f.blocks[ae]:=Aaa (by omega);refine⟨_,⟨ht.fn,hz,Aaf _,?_,?_,ht.low⟩,hz⟩
 . show (agB _ _ _).length=_
   unfold agB;rw [afU];exact ht.regs
 . show ∀v∈agB _ _ _,I64 v
   unfold agB;refine ahG _ _ _ (fun v hv=>?_) ht.num;obtain⟨p,hp,rfl⟩:=List.mem_map.1 hv;refine aaE ht.num ?_;have hb:aiI u t.fn ae=f.blocks[ae]:=by
    unfold aiI;rw [ht.funcR,Aab,hz];rfl
   rw [hb] at hp;rw [Aab];cases e:p.src[whence (aez u t.fn).blocks ae t.blk]? with
   | none=>exact abF
   | some v=>exact (hn.vals f (Aah ht.fn) _ (Aah hz)).1 p hp v (Aah e)
theorem af1(hc:aak u=(0,0))(hn:aiw u)(hs:RnW u s)(ai:s.frs=t :: r)(ht:FrW u t f x){p:RnS×Bool}(h:aeq u t r x s p) :
 RnW u p.1∧(p.2=true->p.1.frs≠[])∧p.1.steps=s.steps+1:=by
 have hf:=afF hc ht.fn;obtain⟨n1,n2,n3⟩:=hn.vals f (Aah ht.fn) x (Aah ht.blk);have aA:=hs.frs;have ar:=hs.link;have aq:=hs.deep;rw [ai] at aA ar aq;rw [Aaq] at aq;have ad:∀c∈r,∃f x,FrW u c f x:=fun c hc=>aA c (Aa3 _ hc);cases h with
 | jump ae hp ax hk =>
   obtain⟨z,hz,-⟩:=ahx hc hn ht ax;refine⟨⟨fun c hc=>?_,ar.same rfl,by rw [Aaq];exact aq,hs.mem,hs.inp,hs.out,hs.value,hs.cnt.bump _ _⟩,fun _ h=>(by cases h),rfl⟩;rcases Aax.1 hc with rfl | hc
   . exact⟨f,z,hz⟩
   . exact ad c hc
 | ret c r' hp hk hr =>
   subst hr;obtain⟨fc,xc,ao⟩:=ad c (Aa6 ..);refine⟨⟨fun d hd=>?_,ar.tail.same rfl,by rw [Aaq] at aq ⊢;omega,hs.mem,hs.inp,hs.out,hs.value,hs.cnt.more⟩,fun _ h=>(by cases h),rfl⟩;rcases Aax.1 hd with rfl | hd
   . exact⟨fc,xc,ao.fn,ao.blk,ao.pos,by rw [ahM];exact ao.regs,ahN ao.num (aaE ht.num n3),ao.low⟩
   . exact ad d (Aa3 _ hd)
 | done hp hk hr =>
   exact⟨⟨fun d hd=>(by cases hd),trivial,Aaf _,hs.mem,hs.inp,hs.out,aaE ht.num n3,hs.cnt.more⟩,fun h=>(by cases h),rfl⟩
 | stop st y hy aC =>
   have ak:=(Aae.1 hy).1;refine⟨⟨fun d hd=>?_,ar.same rfl,by rw [Aaq];exact aq,hs.mem,hs.inp,hs.out,hs.value,hs.cnt.more⟩,fun h=>(by cases h),rfl⟩;rcases Aax.1 hd with rfl | hd
   . exact⟨f,x,ht.fn,ht.blk,ak,ht.regs,ht.num,ht.low⟩
   . exact ad d hd
 | ins y mem inp out n hy aj aF av hn' hm aJ hi =>
   have ak:=(Aae.1 hy).1;have aD:=aaE ht.num (n2 y (Aah hy)).1;refine⟨⟨fun d hd=>?_,ar.same rfl,by rw [Aaq];exact aq,hm,fun v hv=>hs.inp v (hi v hv),?_,hs.value,hs.cnt.more⟩,fun _ h=>(by cases h),rfl⟩
   . rcases Aax.1 hd with rfl | hd
     . exact⟨f,x,ht.fn,ht.blk,ak,by rw [ahM];exact ht.regs,ahN ht.num hn',ht.low⟩
     . exact ad d hd
   . rcases av with⟨-,rfl⟩ | ⟨-,h200,rfl⟩
     . exact hs.out
     . obtain⟨o1,o2⟩:=hs.out
       refine⟨by rw [Aak,List.length_singleton];omega,fun v hv=>?_⟩;rcases Aaw.1 hv with hv | hv
       . exact o2 v hv
       . rw [Aau.1 hv];exact aD
 | call y hy aj hd =>
   have ak:=(Aae.1 hy).1;have an:=Aah hy;obtain⟨-,g,hg,aP⟩:=(aej hc ht.fn ht.blk an).1 aj;have aw:=afF hc hg;have aE:=hf.ins _ x ht.blk y an;have hz:g.blocks[0]?=some (g.blocks[0]'(by have:=aw.len.1;omega)):=Aaa _;have ay:aez u y.fn.toNat=g:=by unfold aez;rw [Aab,hg];rfl
   refine⟨⟨fun d au=>?_,⟨?_,ar.same rfl⟩,by rw [Aaq,Aaq];omega,hs.mem,hs.inp,hs.out,hs.value,hs.cnt.bump _ _⟩,fun _ h=>(by cases h),rfl⟩
   . rcases Aax.1 au with rfl | au
     . refine⟨g,_,hg,hz,Aaf _,?_,fun v hv=>?_,aE.dst.1⟩
       . show (abf _ _ _).length=_
         unfold abf;have:=aw.pr;rw [Aak,Aal,Aar,ay];omega
       . rcases Aaw.1 (show v∈_++_ from hv) with hv | hv
         . obtain⟨a,ha,rfl⟩:=List.mem_map.1 hv
           exact aaE ht.num ((n2 y an).2.2 a ha)
         . rw [Abd hv];exact abF
     . rcases Aax.1 au with rfl | au
       . exact⟨f,x,ht.fn,ht.blk,ak,ht.regs,ht.num,ht.low⟩
       . exact ad d au
   . have h1:=aE.dst.2
     have h2:=ht.regs;have h3:=hf.pr;show y.dst<(t.regs.length:Int);omega
end
end
section
section
variable {u : aax}
theorem ahj(hc:aak u=(0,0))(hn:aiw u){inp:List Int}(hi:∀v∈inp,I64 v){g:aal}(hm:u.funcs[mainAt u.funcs]?=some g)(_hp:g.params=0):RnW u (RnS.start u inp):=by
 have aw:=afF hc hm;have hz:g.blocks[0]?=some (g.blocks[0]'(by have:=aw.len.1;omega)):=Aaa _;have ay:aez u (mainAt u.funcs)=g:=by unfold aez;rw [Aab,hm];rfl
 have aG:ajQ u 0 (ab7 (u.funcs.map fun f=>List.replicate f.blocks.length 0) (mainAt u.funcs) 0):=by
  refine⟨by unfold ab7;rw [List.length_modify,Aal],fun k f hf=>?_⟩;have h1:(u.funcs.map fun f=>List.replicate f.blocks.length (0:Int))[k]?=some (List.replicate f.blocks.length 0):=by rw [Aap,hf];rfl
  by_cases e:mainAt u.funcs=k
  . refine⟨(List.replicate f.blocks.length 0).modify 0 (·+1),by unfold ab7;rw [Abj,h1];simp [e],by rw [List.length_modify,Aar],fun v hv=>?_⟩
    obtain⟨i,hi,rfl⟩:=Aav hv;rw [List.getElem_modify];simp only [List.getElem_replicate];split <;> omega
  . refine⟨List.replicate f.blocks.length 0,by unfold ab7;rw [Abj,h1];simp [e],by rw [Aar],fun v hv=>?_⟩
    rw [Abd hv];omega
 refine⟨fun t ht=>?_,trivial,by show 1<=30;omega,fun v hv=>?_,hi,⟨Aaf _,fun v hv=>by cases hv⟩,abF,aG⟩
 . rw [Aau.1 ht]
   refine⟨g,_,hm,hz,Aaf _,?_,fun v hv=>?_,by show -1<=(-1:Int);omega⟩
   . show (abf _ _ _).length=_
     unfold abf;rw [Aak,Aar,ay,List.length_nil];omega
   . rw [Abd (show v∈List.replicate _ _ from hv)];exact abF
 . obtain⟨g',aH,aM⟩:=List.mem_flatMap.1 (show v∈akg u.globals from hv)
   rcases Aaw.1 aM with h4 | h4
   . exact hn.init g' aH v h4
   . rw [Abd h4];exact abF
end
end
section
section
variable {u : aax}
theorem amN (hc : aak u = (0, 0)) (hn : aiw u) : ∀ (m : Nat) (s : RnS), RnW u s -> s.frs ≠ [] -> RnW u (RnS.go u m s) ∧ (RnS.go u m s).steps <= s.steps + m
 | 0,s,h,_=>⟨⟨h.frs,h.link,h.deep,h.mem,h.inp,h.out,h.value,h.cnt⟩,Aad _⟩
 | m+1,s,h,hne=>by
   obtain⟨t,r,ai⟩:∃t r,s.frs=t :: r:=by
    cases e:s.frs with
    | nil=>exact absurd e hne
    | cons t r=>exact⟨t,r,rfl⟩
   obtain⟨f,x,aB⟩:=h.frs t (by rw [ai];exact Aa6 ..);obtain⟨k1,k2,k3⟩:=af1 hc hn h ai aB (af0 hc hn h ai aB);rw [RnS.go]
   by_cases e:(s.step u).2=true
   . rw [if_pos e]
     obtain⟨h1,h2⟩:=amN hc hn m _ k1 (k2 e);exact⟨h1,by omega⟩
   . rw [if_neg e]
     exact⟨k1,by omega⟩
theorem amI(hc:aak u=(0,0))(hn:aiw u){inp:List Int}(hi:∀v∈inp,I64 v){g:aal}(hm:u.funcs[mainAt u.funcs]?=some g)(hp:g.params=0)(m:Nat):RnW u (runR u inp m)∧(runR u inp m).steps<=m:=by
 obtain⟨h1,h2⟩:=amN hc hn m _ (ahj hc hn hi hm hp) (by intro e;unfold RnS.start RnS.enter at e;cases e);exact⟨h1,by have h3:(RnS.start u inp).steps=0:=rfl;rw [h3] at h2;show (RnS.go u m _).steps<=m;omega⟩
end
end
end Go.Proofs.YtgekbfgplclmeaaDoor
