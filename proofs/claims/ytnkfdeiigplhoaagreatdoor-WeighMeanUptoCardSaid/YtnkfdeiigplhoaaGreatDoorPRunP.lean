import Derived.Test.YtnkfdeiigplhoaaGreatDoorPTwo
/- run.Counts, in plain Lean: a unit's run step by step, the frames from the top on. No program in sight. A run of a checked unit, in plain Lean: what stays true of it, and what a step may be. No program in sight. A run of a checked unit at its start, in plain Lean. A step of a run, written out field by field, in plain Lean. Two units whose blocks are numbered differently run alike, step by step, in plain Lean. -/
namespace Go.Proofs.YtnkfdeiigplhoaaGreatDoor
section
def ak4(op a b:Int):Option Int:=(abf op (akm a) (akm b)).map bi
structure RnF where
 fn:Nat
 blk:Nat
 pos:Nat
 regs:List Int
 dst:Int
structure RnS where
 mem:List Int
 inp:List Int
 out:List Int
 state:Int
 value:Int
 steps:Nat
 frs:List RnF
 cnt:List (List Int)
def RnF.none:RnF:=⟨0,0,0,[],0⟩
def RnS.top(s:RnS):RnF:=s.frs.headD RnF.none
def RnS.setTop(s:RnS)(t:RnF):RnS:={ s with frs:=t :: s.frs.tail }
def aaS(regs:List Int)(v:DVal):Int:=if v.reg=true then regs.getD v.n.toNat 0 else v.n
def acL(c:List (List Int))(f b:Nat):List (List Int):=c.modify f fun r=>r.modify b (·+1)
def aci(u:aaC)(f:Nat):aao:=u.funcs.getD f ⟨⟨#[]⟩,0,0,[]⟩
def aeQ(u:aaC)(f b:Nat):aad:=(aci u f).blocks.getD b ⟨[],[],⟨0,⟨false,0⟩,[]⟩⟩
def RnS.stop(s:RnS)(st:Int):RnS:={ s with state:=st }
def afk(regs:List Int)(dst n:Int):List Int:=if 0<=dst then regs.set dst.toNat n else regs
def RnS.set(s:RnS)(dst n:Int):RnS:=s.setTop { s.top with regs:=afk s.top.regs dst n }
def abt(u:aaC)(fn:Nat)(args:List Int):List Int:=args++List.replicate ((aci u fn).regs.toNat - args.length) 0
def RnS.enter(u:aaC)(fn:Nat)(dst:Int)(args:List Int)(s:RnS):RnS :=
 { s with frs:=⟨fn,0,0,abt u fn args,dst⟩ :: s.frs,cnt:=acL s.cnt fn 0 }
def whence(bs:List aad)(ad b:Nat):Nat:=(aag bs 0 ad).idxOf (b:Int)
def agz : List afu -> List Int -> List Int -> List Int
 | p :: ps,n :: ns,r=>agz ps ns (r.set p.dst.toNat n)
 | _,_,r=>r
def agC(ps:List afu)(k:Nat)(regs:List Int):List Int:=agz ps (ps.map fun p=>aaS regs (p.src.getD k ⟨false,0⟩)) regs
def aed(u:aaC)(ad:Nat)(t:RnF):RnF :=
 { t with regs:=agC (aeQ u t.fn ad).phis (whence (aci u t.fn).blocks ad t.blk) t.regs,blk:=ad,pos:=0 }
def RnS.jump(u:aaC)(ad:Nat)(s:RnS):RnS:={ s.setTop (aed u ad s.top) with cnt:=acL s.cnt s.top.fn ad }
def RnS.end_(u:aaC)(e:amR)(s:RnS):RnS×Bool :=
 if e.kind=2 then (s.jump u (e.to.getD 0 0).toNat,true)
 else if e.kind=3 then (s.jump u (e.to.getD (if aaS s.top.regs e.on≠0 then 0 else 1) 0).toNat,true)
 else if s.frs.tail=[] then ({ s with frs:=[],value:=aaS s.top.regs e.on,state:=0 },false)
 else ({ s with frs:=s.frs.tail }.set s.top.dst (aaS s.top.regs e.on),true)
def RnS.ins(u:aaC)(x:ad8)(s:RnS):RnS×Bool :=
 if x.op=18∨x.op=19 then
  if 0<=aaS s.top.regs x.a∧aaS s.top.regs x.a<=(s.mem.length:Int) - 1 then
   if x.op=19 then ({ s with mem:=s.mem.set (aaS s.top.regs x.a).toNat (aaS s.top.regs x.b) },true)
   else (s.set x.dst (s.mem.getD (aaS s.top.regs x.a).toNat 0),true)
  else (s.stop 3,false)
 else if x.op=20 then
  if s.frs.length=30 then (s.stop 4,false)
  else (s.enter u x.fn.toNat x.dst (x.args.map (aaS s.top.regs)),true)
 else if x.op=21 then ({ s with inp:=s.inp.tail }.set x.dst (s.inp.headD (-1)),true)
 else if x.op=22 then
  if s.out.length=200 then (s.stop 5,false) else ({ s with out:=s.out++[aaS s.top.regs x.a] },true)
 else match ak4 x.op (aaS s.top.regs x.a) (aaS s.top.regs x.b) with
  | some n=>(s.set x.dst n,true)
  | none=>(s.stop 2,false)
def RnS.step(u:aaC)(s:RnS):RnS×Bool :=
 if s.top.pos=(aeQ u s.top.fn s.top.blk).list.length then { s with steps:=s.steps+1 }.end_ u (aeQ u s.top.fn s.top.blk).fin
 else ({ s with steps:=s.steps+1 }.setTop { s.top with pos:=s.top.pos+1 }).ins u ((aeQ u s.top.fn s.top.blk).list.getD s.top.pos ⟨0,0,⟨false,0⟩,⟨false,0⟩,0,[]⟩)
def RnS.go (u : aaC) : Nat -> RnS -> RnS
 | 0,s=>s.stop 1
 | n+1,s=>if (s.step u).2=true then RnS.go u n (s.step u).1 else (s.step u).1
def ans(gs:List aas):List Int:=gs.flatMap fun g=>g.init++List.replicate (g.size.toNat - g.init.length) 0
def mainAt(fs:List aao):Nat:=fs.findIdx fun f=>f.name.toList == [109,97,105,110]
def RnS.start(u:aaC)(inp:List Int):RnS :=
 RnS.enter u (mainAt u.funcs) (-1) [] ⟨ans u.globals,inp,[],0,0,0,[],u.funcs.map fun f=>List.replicate f.blocks.length 0⟩
def acD(u:aaC)(inp:List Int)(fuel:Nat):RnS:=RnS.go u fuel (RnS.start u inp)
end
section
theorem ama {l:List aad}:∀{s t:Nat} {v:Int},v∈aag l s t↔∃i y,l[i]?=some y∧(t:Int)∈y.fin.to∧v=((s+i:Nat):Int):=by
 induction l with
 | nil=>intro s t v;simp [aag]
 | cons b l ih =>
   intro s t v;rw [aag,Aaz,ih];constructor
   . rintro (h | ⟨i,y,h1,h2,h3⟩)
     . unfold adU at h
       obtain⟨z,hz,rfl⟩:=Aau.1 h;rw [Abp] at hz;have e:(t:Int)=z:=(of_decide_eq_true hz.2).symm;exact⟨0,b,rfl,by rw [e];exact hz.1,by simp⟩
     . exact⟨i+1,y,h1,h2,by rw [h3];omega⟩
   . rintro⟨i,y,h1,h2,h3⟩
     cases i with
     | zero =>
       left;have e:b=y:=by simpa using h1
       subst e;unfold adU;refine Aau.2 ⟨(t:Int),Abp.2 ⟨h2,by simp⟩,by rw [h3];simp⟩
     | succ i=>exact .inr ⟨i,y,h1,h2,by rw [h3];omega⟩
structure FrW (u:aaC)(t:RnF)(f:aao)(x:aad):Prop where
 fn:u.funcs[t.fn]?=some f
 blk:f.blocks[t.blk]?=some x
 pos:t.pos<=x.list.length
 regs:t.regs.length=f.regs.toNat
 num:∀v∈t.regs,I64 v
 low : -1<=t.dst
variable {u:aaC}{f:aao}{x:aad}
theorem FrW.blkR{t:RnF}(h:FrW u t f x):aeQ u t.fn t.blk=x:=by
 unfold Go.Proofs.YtnkfdeiigplhoaaGreatDoor.aeQ aci;rw [Aac,Aac,h.fn];show (f.blocks[t.blk]?).getD _=x;rw [h.blk];rfl
theorem FrW.funcR{t:RnF}(h:FrW u t f x):aci u t.fn=f:=by
 unfold Go.Proofs.YtnkfdeiigplhoaaGreatDoor.aci;rw [Aac,h.fn];rfl
def ae9 : List RnF -> Prop
 | t :: c :: r=>t.dst<(c.regs.length:Int)∧ae9 (c :: r)
 | _=>True
def an5(u:aaC)(n:Nat)(c:List (List Int)):Prop:=c.length=u.funcs.length∧∀(k:Nat) (f:aao),u.funcs[k]?=some f->∃r:List Int,c[k]?=some r∧r.length=f.blocks.length∧∀v∈r,0<=v∧v<=(n:Int)+1
structure RnW (u:aaC)(s:RnS):Prop where
 frs:∀t∈s.frs,∃f x,FrW u t f x
 link:ae9 s.frs
 deep:s.frs.length<=30
 mem:∀v∈s.mem,I64 v
 inp:∀v∈s.inp,I64 v
 out:s.out.length<=200∧∀v∈s.out,I64 v
 value:I64 s.value
 cnt:an5 u s.steps s.cnt
inductive agA (u : aaC) (t : RnF) (r : List RnF) (x : aad) (s : RnS) : RnS × Bool -> Prop
 | jump (ad:Nat) (hp:t.pos=x.list.length) (al:(ad:Int)∈x.fin.to) (hk:x.fin.kind=2∧x.fin.to.getD 0 0=(ad:Int)∨x.fin.kind=3∧x.fin.to.getD (if aaS t.regs x.fin.on≠0 then 0 else 1) 0=(ad:Int)) :
    agA u t r x s ({ s with steps:=s.steps+1,frs:=aed u ad t :: r,cnt:=acL s.cnt t.fn ad },true)
 | ret (c:RnF) (r':List RnF) (hp:t.pos=x.list.length) (hk:x.fin.kind=1) (hr:r=c :: r') :
    agA u t r x s ({ s with steps:=s.steps+1,frs:={ c with regs:=afk c.regs t.dst (aaS t.regs x.fin.on) } :: r' },true)
 | done (hp:t.pos=x.list.length) (hk:x.fin.kind=1) (hr:r=[]) :
    agA u t r x s ({ s with steps:=s.steps+1,frs:=[],value:=aaS t.regs x.fin.on,state:=0 },false)
 | stop (st:Int) (y:ad8) (hy:x.list[t.pos]?=some y) (hs:st≠0) :
    agA u t r x s ({ s with steps:=s.steps+1,frs:={ t with pos:=t.pos+1 } :: r,state:=st },false)
 | ins (y : ad8) (mem inp out : List Int) (n : Int) (hy : x.list[t.pos]? = some y) (ae : y.op ≠ 20) (aM : y.op <= 17 -> ak4 y.op (aaS t.regs y.a) (aaS t.regs y.b) = some n ∧ mem = s.mem ∧ inp = s.inp)
    (ay:(y.op≠22∧out=s.out)∨(y.op=22∧s.out.length≠200∧out=s.out++[aaS t.regs y.a])) (hn:I64 n) (hm:∀v∈mem,I64 v) (aS:mem.length=s.mem.length) (hi:∀v∈inp,v∈s.inp) :
    agA u t r x s ({ s with steps:=s.steps+1,mem:=mem,inp:=inp,out:=out,frs:={ t with pos:=t.pos+1,regs:=afk t.regs y.dst n } :: r },true)
 | call (y:ad8) (hy:x.list[t.pos]?=some y) (ae:y.op=20) (hd:r.length+1≠30) :
    agA u t r x s ({ s with steps:=s.steps+1,frs:=⟨y.fn.toNat,0,0,abt u y.fn.toNat (y.args.map (aaS t.regs)),y.dst⟩ :: { t with pos:=t.pos+1 } :: r,cnt:=acL s.cnt y.fn.toNat 0 },true)
theorem acw:I64 0:=by unfold I64;omega
variable {regs:List Int}
theorem aaP(h:∀v∈regs,I64 v){v:DVal}(hv:I64 v.n):I64 (aaS regs v):=by
 unfold aaS;split
 . rw [Aac]
   cases e:regs[v.n.toNat]? with
   | none=>exact acw
   | some y=>exact h y (Aam e)
 . exact hv
theorem aj3(regs:List Int)(d n:Int):(afk regs d n).length=regs.length:=by unfold afk;split <;> simp
variable {n:Int}
theorem aj5(h:∀v∈regs,I64 v){d:Int}(hn:I64 n):∀v∈afk regs d n,I64 v:=by
 unfold afk;split
 . intro v hv
   rcases List.mem_or_eq_of_mem_set hv with h1 | h1
   . exact h v h1
   . rw [h1];exact hn
 . exact h
theorem aj4{d:Int}(h:d<0):afk regs d n=regs:=if_neg (by omega)
theorem ahA : ∀ (ps : List afu) (ns r : List Int), (agz ps ns r).length = r.length
 | p :: ps,n :: ns,r=>by rw [agz,ahA ps ns];simp
 | [],_,_=>rfl
 | _ :: _,[],_=>rfl
theorem ajX : ∀ (ps : List afu) (ns r : List Int), (∀ v ∈ ns, I64 v) -> (∀ v ∈ r, I64 v) -> ∀ v ∈ agz ps ns r, I64 v
 | p :: ps,n :: ns,r,h1,h2=>by
   rw [agz];refine ajX ps ns _ (fun v hv=>h1 v (Abb _ hv)) fun v hv=>?_;rcases List.mem_or_eq_of_mem_set hv with h3 | h3
   . exact h2 v h3
   . rw [h3];exact h1 n (Aa7 ..)
 | [],_,_,_,h2=>h2
 | _ :: _,[],_,_,h2=>h2
structure ajv (u:aaC):Prop where
 vals:∀f∈u.funcs,∀x∈f.blocks,(∀p∈x.phis,∀v∈p.src,I64 v.n)∧(∀y∈x.list,I64 y.a.n∧I64 y.b.n∧∀v∈y.args,I64 v.n)∧I64 x.fin.on.n
 init:∀g∈u.globals,∀v∈g.init,I64 v
theorem alT {fs:List aao}{regs:Int}{x:ad8}(h:aeN fs regs x=0) :
 (x.op=20->0<=x.fn∧∃g,fs[x.fn.toNat]?=some g∧(x.args.length:Int)=g.params)∧(x.op=19∨x.op=22->x.dst = -1):=by
 unfold aeN at h
 by_cases h1:¬(1<=x.op∧x.op<=22)
 . rw [if_pos h1] at h;omega
 rw [if_neg h1] at h
 by_cases h2:acZ x=true
 . rw [if_pos h2] at h;omega
 rw [if_neg h2] at h
 by_cases h3:(shpD x.op=true∧¬(x.op=20∧x.dst = -1))∧agB regs x.dst≠0
 . rw [if_pos h3] at h;omega
 rw [if_neg h3] at h;have h6:ab5 fs regs x=0:=by
  unfold acz at h
  by_cases a1:abN regs x.a≠0
  . rw [if_pos a1] at h;exact absurd h a1
  rw [if_neg a1] at h
  by_cases a2:abN regs x.b≠0
  . rw [if_pos a2] at h;exact absurd h a2
  rw [if_neg a2] at h;exact h
 refine⟨fun hop=>?_,fun hop=>?_⟩
 . unfold ab5 at h6
   rw [if_neg (by simpa using hop)] at h6
   by_cases b1:¬(0<=x.fn∧x.fn<=(fs.length:Int) - 1)
   . rw [if_pos b1] at h6;omega
   rw [if_neg b1] at h6;have b1:=Classical.not_not.1 b1
   by_cases b2:(x.args.length:Int)≠(fs.getD x.fn.toNat ⟨ByteArray.empty,0,0,[]⟩).params
   . rw [if_pos b2] at h6;omega
   have b2:=Classical.not_not.1 b2;have hk:x.fn.toNat<fs.length:=by omega
   refine⟨b1.1,fs[x.fn.toNat],Aaa hk,?_⟩;rw [b2,Aac,Aaa hk];rfl
 . unfold acZ at h2
   simp only [Bool.or_eq_true,Bool.and_eq_true,Bool.not_eq_true',decide_eq_true_eq,not_or,not_and] at h2;have hD:shpD x.op=false:=by unfold shpD;rcases hop with e | e <;> rw [e] <;> rfl
   have:=h2.1.1.1 hD;exact Classical.not_not.1 this
theorem afC(h:aal u=(0,0)){k b:Nat}{y:ad8}(hf:u.funcs[k]?=some f)(hx:f.blocks[b]?=some x)(hy:y∈x.list) :
 (y.op=20->0<=y.fn∧∃g,u.funcs[y.fn.toNat]?=some g∧(y.args.length:Int)=g.params)∧(y.op=19∨y.op=22->y.dst = -1):=by
 obtain⟨-,hb⟩:=abv h hf;obtain⟨-,e2⟩:=abC.1 hb;exact alT (((abO hx).1 (e2 b (Aae.1 hx).1)).2 y hy)
theorem anX{op a b:Int}(h:ak4 op a b=some n):I64 n:=by
 unfold ak4 at h;obtain⟨z,-,rfl⟩:=Option.map_eq_some_iff.1 h;exact apv z
section
variable {u : aaC} {s : RnS} {t : RnF} {r : List RnF} {f : aao} {x : aad}
theorem ahC(hc:aal u=(0,0))(hn:ajv u)(hs:RnW u s)(af:s.frs=t :: r)(ht:FrW u t f x):agA u t r x s (s.step u):=by
 have ao:s.top=t:=by unfold RnS.top;rw [af];rfl
 have hf:=aiI hc ht.fn;obtain⟨n1,n2,n3⟩:=hn.vals f (Aam ht.fn) x (Aam ht.blk);unfold RnS.step;rw [ao,ht.blkR]
 by_cases hp:t.pos=x.list.length
 . rw [if_pos hp]
   obtain⟨k1,k2,k3,k4,-⟩:=hf.kind _ x ht.blk;have hj:∀k:Nat,({ s with steps:=s.steps+1 }:RnS).jump u k={ s with steps:=s.steps+1,frs:=aed u k t :: r,cnt:=acL s.cnt t.fn k }:=fun k=>by
    unfold RnS.jump RnS.setTop RnS.top;rw [af];rfl
   have aw:∀k:Nat,k<x.fin.to.length->(((x.fin.to.getD k 0).toNat:Nat):Int)=x.fin.to.getD k 0∧x.fin.to.getD k 0∈x.fin.to:=fun k hk=>by
    have hm:x.fin.to.getD k 0∈x.fin.to:=by rw [Aac,Aaa hk];exact Aaf _
    have:=k4 _ hm;exact⟨by omega,hm⟩
   unfold RnS.end_
   by_cases h2:x.fin.kind=2
   . rw [if_pos h2,hj]
     obtain⟨a1,a2⟩:=aw 0 (by omega);exact .jump _ hp (by rw [a1];exact a2) (.inl ⟨h2,a1.symm⟩)
   rw [if_neg h2]
   by_cases h3:x.fin.kind=3
   . rw [if_pos h3,hj]
     have aj:({ s with steps:=s.steps+1 }:RnS).top=t:=ao;rw [aj];obtain⟨a1,a2⟩:=aw (if aaS t.regs x.fin.on≠0 then 0 else 1) (by split <;> omega);exact .jump _ hp (by rw [a1];exact a2) (.inr ⟨h3,a1.symm⟩)
   rw [if_neg h3];have aT:({ s with steps:=s.steps+1 }:RnS).frs.tail=r:=by show s.frs.tail=r;rw [af];rfl
   have aj:({ s with steps:=s.steps+1 }:RnS).top=t:=ao;rw [aT,aj]
   by_cases hr:r=[]
   . rw [if_pos hr]
     exact .done hp (by omega) hr
   . rw [if_neg hr]
     cases r with
     | nil=>exact absurd rfl hr
     | cons c r'=>exact .ret c r' hp (by omega) rfl
 . rw [if_neg hp]
   have ak:t.pos<x.list.length:=by have:=ht.pos;omega
   have hy:x.list.getD t.pos ⟨0,0,⟨false,0⟩,⟨false,0⟩,0,[]⟩=x.list[t.pos]:=by rw [Aac,Aaa ak];rfl
   rw [hy];have ai:x.list[t.pos]?=some x.list[t.pos]:=Aaa ak;obtain⟨y,aX⟩:∃y,y=x.list[t.pos]:=⟨_,rfl⟩
   rw [<-aX] at ai ⊢;have an:y∈x.list:=Aam ai;have ho:=hf.ins _ x ht.blk y an;obtain⟨m1,m2,m3⟩:=n2 y an;obtain⟨c1,c2⟩:=afC hc ht.fn ht.blk an;have aC:({ s with steps:=s.steps+1 }:RnS).setTop { t with pos:=t.pos+1 }={ s with steps:=s.steps+1,frs:={ t with pos:=t.pos+1 } :: r }:=by
    unfold RnS.setTop;rw [af];rfl
   rw [aC];have aK:=aaP ht.num m1;have aW:=aaP ht.num m2;have aU:({ s with steps:=s.steps+1,frs:={ t with pos:=t.pos+1 } :: r }:RnS).top={ t with pos:=t.pos+1 }:=rfl;unfold RnS.ins;rw [aU]
   by_cases h1:y.op=18∨y.op=19
   . rw [if_pos h1]
     by_cases h2:0<=aaS t.regs y.a∧aaS t.regs y.a<=(s.mem.length:Int) - 1
     case neg=>rw [if_neg h2];exact .stop 3 y ai (by omega)
     rw [if_pos h2]
     by_cases h3:y.op=19
     . rw [if_pos h3]
       have hd:=c2 (.inl h3)
       have h := agA.ins (u := u) (t := t) (r := r) (x := x) (s := s) y (s.mem.set (aaS t.regs y.a).toNat (aaS t.regs y.b)) s.inp s.out 0 ai (by omega) (fun h => by omega) (.inl ⟨by omega, rfl⟩) acw
        (fun v hv => by
          rcases List.mem_or_eq_of_mem_set hv with h | h
          . exact hs.mem v h
          . rw [h]; exact aW) (by simp) (fun v hv => hv)
       rw [aj4 (by omega:y.dst<0)] at h;exact h
     . rw [if_neg h3]
       refine .ins y s.mem s.inp s.out (s.mem.getD (aaS t.regs y.a).toNat 0) ai (by omega) (fun h=>by omega) (.inl ⟨by omega,rfl⟩) ?_ hs.mem rfl (fun v hv=>hv);have hk:(aaS t.regs y.a).toNat<s.mem.length:=by omega
       rw [Aac,Aaa hk];exact hs.mem _ (Aaf hk)
   rw [if_neg h1]
   by_cases ae:y.op=20
   . rw [if_pos ae]
     by_cases h30:r.length+1=30
     . rw [if_pos (by rw [Aao];exact h30)];exact .stop 4 y ai (by omega)
     . rw [if_neg (by rw [Aao];exact h30)];exact .call y ai ae h30
   rw [if_neg ae]
   by_cases h21:y.op=21
   . rw [if_pos h21]
     refine .ins y s.mem s.inp.tail s.out (s.inp.headD (-1)) ai (by omega) (fun h=>by omega) (.inl ⟨by omega,rfl⟩) ?_ hs.mem rfl (fun v hv=>List.mem_of_mem_tail hv);cases e:s.inp with
     | nil=>unfold I64;dsimp only [List.headD_nil];omega
     | cons v l=>exact hs.inp v (by rw [e];exact Aa7 ..)
   rw [if_neg h21]
   by_cases h22:y.op=22
   . rw [if_pos h22]
     by_cases h200:s.out.length=200
     . rw [if_pos h200];exact .stop 5 y ai (by omega)
     . rw [if_neg h200]
       have h:=agA.ins (u:=u) (t:=t) (r:=r) (x:=x) (s:=s) y s.mem s.inp (s.out++[aaS t.regs y.a]) 0 ai (by omega) (fun h=>by omega) (.inr ⟨h22,h200,rfl⟩) acw hs.mem rfl (fun v hv=>hv);rw [aj4 (by have:=c2 (.inr h22);omega:y.dst<0)] at h;exact h
   rw [if_neg h22];cases e:ak4 y.op (aaS t.regs y.a) (aaS t.regs y.b) with
   | none=>exact .stop 2 y ai (by omega)
   | some n=>exact .ins y s.mem s.inp s.out n ai ae (fun _=>⟨e,rfl,rfl⟩) (.inl ⟨h22,rfl⟩) (anX e) hs.mem rfl (fun v hv=>hv)
end
theorem an5.more {u : aaC} {n : Nat} {c : List (List Int)} (h : an5 u n c) : an5 u (n + 1) c := ⟨h.1, fun k f hf => by
 obtain ⟨r, h1, h2, h3⟩ := h.2 k f hf
 exact ⟨r, h1, h2, fun v hv => by have := h3 v hv; omega⟩⟩
theorem an5.bump {u:aaC}{n:Nat}{c:List (List Int)}(h:an5 u n c)(fn b:Nat):an5 u (n+1) (acL c fn b):=by
 refine⟨by unfold acL;rw [List.length_modify];exact h.1,fun k f hf=>?_⟩;obtain⟨r,h1,h2,h3⟩:=h.2 k f hf
 by_cases e:fn=k
 . subst e
   refine⟨r.modify b (·+1),by unfold acL;rw [List.getElem?_modify_eq,h1];rfl,by rw [List.length_modify];exact h2,fun v hv=>?_⟩;obtain⟨i,hi,rfl⟩:=Aa1 hv;rw [List.getElem_modify];have aR:i<r.length:=by rw [List.length_modify] at hi;exact hi
   have:=h3 r[i] (Aaf aR);split <;> omega
 . refine⟨r,by unfold acL;rw [List.getElem?_modify,h1];simp [e],h2,fun v hv=>by have:=h3 v hv;omega⟩
theorem ae9.same {t t':RnF}{r:List RnF}(h:ae9 (t :: r))(e:t'.dst=t.dst):ae9 (t' :: r):=by
 cases r with
 | nil=>trivial
 | cons c r=>exact⟨by rw [e];exact h.1,h.2⟩
theorem ae9.tail {t:RnF}{r:List RnF}(h:ae9 (t :: r)):ae9 r:=by
 cases r with
 | nil=>trivial
 | cons c r=>exact h.2
section
variable {u : aaC} {s : RnS} {t : RnF} {r : List RnF} {f : aao} {x : aad}
theorem anl(hc:aal u=(0,0))(hn:ajv u)(ht:FrW u t f x){ad:Nat}(al:(ad:Int)∈x.fin.to):∃z,FrW u (aed u ad t) f z∧f.blocks[ad]?=some z:=by
 have hf:=aiI hc ht.fn;have ak:=((hf.tgt _ x ht.blk).2 _ al).2;have hz:f.blocks[ad]?=some f.blocks[ad]:=Aaa (by omega);refine⟨_,⟨ht.fn,hz,Aah _,?_,?_,ht.low⟩,hz⟩
 . show (agC _ _ _).length=_
   unfold agC;rw [ahA];exact ht.regs
 . show ∀v∈agC _ _ _,I64 v
   unfold agC;refine ajX _ _ _ (fun v hv=>?_) ht.num;obtain⟨p,hp,rfl⟩:=Aau.1 hv;refine aaP ht.num ?_;have hb:aeQ u t.fn ad=f.blocks[ad]:=by
    unfold aeQ;rw [ht.funcR,Aac,hz];rfl
   rw [hb] at hp;rw [Aac];cases e:p.src[whence (aci u t.fn).blocks ad t.blk]? with
   | none=>exact acw
   | some v=>exact (hn.vals f (Aam ht.fn) _ (Aam hz)).1 p hp v (Aam e)
theorem ahD(hc:aal u=(0,0))(hn:ajv u)(hs:RnW u s)(af:s.frs=t :: r)(ht:FrW u t f x){p:RnS×Bool}(h:agA u t r x s p) :
 RnW u p.1∧(p.2=true->p.1.frs≠[])∧p.1.steps=s.steps+1:=by
 have hf:=aiI hc ht.fn;obtain⟨n1,n2,n3⟩:=hn.vals f (Aam ht.fn) x (Aam ht.blk);have aH:=hs.frs;have av:=hs.link;have au:=hs.deep;rw [af] at aH av au;rw [Aao] at au;have ag:∀c∈r,∃f x,FrW u c f x:=fun c hc=>aH c (Abb _ hc);cases h with
 | jump ad hp al hk =>
   obtain⟨z,hz,-⟩:=anl hc hn ht al;refine⟨⟨fun c hc=>?_,av.same rfl,by rw [Aao];exact au,hs.mem,hs.inp,hs.out,hs.value,hs.cnt.bump _ _⟩,fun _ h=>(by cases h),rfl⟩;rcases Aaw.1 hc with rfl | hc
   . exact⟨f,z,hz⟩
   . exact ag c hc
 | ret c r' hp hk hr =>
   subst hr;obtain⟨fc,xc,ar⟩:=ag c (Aa7 ..);refine⟨⟨fun d hd=>?_,av.tail.same rfl,by rw [Aao] at au ⊢;omega,hs.mem,hs.inp,hs.out,hs.value,hs.cnt.more⟩,fun _ h=>(by cases h),rfl⟩;rcases Aaw.1 hd with rfl | hd
   . exact⟨fc,xc,ar.fn,ar.blk,ar.pos,by rw [aj3];exact ar.regs,aj5 ar.num (aaP ht.num n3),ar.low⟩
   . exact ag d (Abb _ hd)
 | done hp hk hr =>
   exact⟨⟨fun d hd=>(by cases hd),trivial,Aah _,hs.mem,hs.inp,hs.out,aaP ht.num n3,hs.cnt.more⟩,fun h=>(by cases h),rfl⟩
 | stop st y hy aC =>
   have ak:=(Aae.1 hy).1;refine⟨⟨fun d hd=>?_,av.same rfl,by rw [Aao];exact au,hs.mem,hs.inp,hs.out,hs.value,hs.cnt.more⟩,fun h=>(by cases h),rfl⟩;rcases Aaw.1 hd with rfl | hd
   . exact⟨f,x,ht.fn,ht.blk,ak,ht.regs,ht.num,ht.low⟩
   . exact ag d hd
 | ins y mem inp out n hy ae aM ay hn' hm aS hi =>
   have ak:=(Aae.1 hy).1;have aK:=aaP ht.num (n2 y (Aam hy)).1;refine⟨⟨fun d hd=>?_,av.same rfl,by rw [Aao];exact au,hm,fun v hv=>hs.inp v (hi v hv),?_,hs.value,hs.cnt.more⟩,fun _ h=>(by cases h),rfl⟩
   . rcases Aaw.1 hd with rfl | hd
     . exact⟨f,x,ht.fn,ht.blk,ak,by rw [aj3];exact ht.regs,aj5 ht.num hn',ht.low⟩
     . exact ag d hd
   . rcases ay with⟨-,rfl⟩ | ⟨-,h200,rfl⟩
     . exact hs.out
     . obtain⟨o1,o2⟩:=hs.out
       refine⟨by rw [Aai,Aa5];omega,fun v hv=>?_⟩;rcases Aaz.1 hv with hv | hv
       . exact o2 v hv
       . rw [Aaq.1 hv];exact aK
 | call y hy ae hd =>
   have ak:=(Aae.1 hy).1;have an:=Aam hy;obtain⟨-,g,hg,aY⟩:=(afC hc ht.fn ht.blk an).1 ae;have aB:=aiI hc hg;have aL:=hf.ins _ x ht.blk y an;have hz:g.blocks[0]?=some (g.blocks[0]'(by have:=aB.len.1;omega)):=Aaa _;have aD:aci u y.fn.toNat=g:=by unfold aci;rw [Aac,hg];rfl
   refine⟨⟨fun d ax=>?_,⟨?_,av.same rfl⟩,by rw [Aao,Aao];omega,hs.mem,hs.inp,hs.out,hs.value,hs.cnt.bump _ _⟩,fun _ h=>(by cases h),rfl⟩
   . rcases Aaw.1 ax with rfl | ax
     . refine⟨g,_,hg,hz,Aah _,?_,fun v hv=>?_,aL.dst.1⟩
       . show (abt _ _ _).length=_
         unfold abt;have:=aB.pr;rw [Aai,Aal,Aa6,aD];omega
       . rcases Aaz.1 (show v∈_++_ from hv) with hv | hv
         . obtain⟨a,ha,rfl⟩:=Aau.1 hv
           exact aaP ht.num ((n2 y an).2.2 a ha)
         . rw [Abz hv];exact acw
     . rcases Aaw.1 ax with rfl | ax
       . exact⟨f,x,ht.fn,ht.blk,ak,ht.regs,ht.num,ht.low⟩
       . exact ag d ax
   . have h1:=aL.dst.2
     have h2:=ht.regs;have h3:=hf.pr;show y.dst<(t.regs.length:Int);omega
end
end
section
theorem ajc(gs:List aas):ans gs=adh gs:=by
 unfold ans adh abK;rw [Aay]
 congr 1
 funext g
 unfold ag9;rw [show g.size.toNat - g.init.length=(g.size - (g.init.length:Int)).toNat by omega]
theorem akJ {fs:List aao}(h:¬aaK fs<0):mainAt fs<fs.length∧aaK fs=(mainAt fs:Int):=by
 have e:mainAt fs=fs.findIdx adg:=rfl;rw [e];unfold aaK at h ⊢;cases hq:fs.findIdx? adg with
 | none=>rw [hq] at h;dsimp only at h;omega
 | some k =>
   obtain⟨h1,h2⟩:=List.findIdx?_eq_some_iff_findIdx_eq.1 hq;dsimp only;rw [h2];exact⟨h1,rfl⟩
theorem aeb {u:aaC}(h:aal u=(0,0)):∃g,u.funcs[mainAt u.funcs]?=some g∧g.params=0∧aaK u.funcs=(mainAt u.funcs:Int):=by
 have hl:afp u.funcs=(0,0):=by
  unfold aal at h
  by_cases h1:10<u.globals.length∨10<u.funcs.length
  . rw [if_pos h1] at h;simp at h
  rw [if_neg h1] at h
  by_cases h2:acR (acN u.globals) u.globals.length<u.globals.length
  . rw [if_pos h2] at h;exact absurd (Prod.mk.inj h).1 (ac7 h2)
  rw [if_neg h2] at h
  by_cases h3:acR (abr u.globals u.funcs) u.funcs.length<u.funcs.length
  . rw [if_pos h3] at h;exact absurd (Prod.mk.inj h).1 (ac7 h3)
  rw [if_neg h3] at h
  by_cases h4:acR (aa2 u.funcs) u.funcs.length<u.funcs.length
  . rw [if_pos h4] at h;exact absurd (Prod.mk.inj h).1 (ac7 h4)
  rw [if_neg h4] at h;exact h
 unfold afp at hl
 by_cases h1:aaK u.funcs<0
 . rw [if_pos h1] at hl;simp at hl
 rw [if_neg h1] at hl;obtain⟨h2,h3⟩:=akJ h1;have hg:u.funcs[mainAt u.funcs]?=some u.funcs[mainAt u.funcs]:=Aaa h2;refine⟨_,hg,?_,h3⟩;rw [h3,Aaj,Aac,hg] at hl;have hp:=(aiI h hg).pr
 by_cases h4:0<(u.funcs[mainAt u.funcs]).params
 . rw [if_pos (by exact h4)] at hl;simp at hl
 . omega
section
variable {u : aaC}
theorem ajo(hc:aal u=(0,0))(hn:ajv u){inp:List Int}(hi:∀v∈inp,I64 v){g:aao}(hm:u.funcs[mainAt u.funcs]?=some g)(_hp:g.params=0):RnW u (RnS.start u inp):=by
 have aB:=aiI hc hm;have hz:g.blocks[0]?=some (g.blocks[0]'(by have:=aB.len.1;omega)):=Aaa _;have aD:aci u (mainAt u.funcs)=g:=by unfold aci;rw [Aac,hm];rfl
 have aN:an5 u 0 (acL (u.funcs.map fun f=>List.replicate f.blocks.length 0) (mainAt u.funcs) 0):=by
  refine⟨by unfold acL;rw [List.length_modify,Aal],fun k f hf=>?_⟩;have h1:(u.funcs.map fun f=>List.replicate f.blocks.length (0:Int))[k]?=some (List.replicate f.blocks.length 0):=by rw [Aak,hf];rfl
  by_cases e:mainAt u.funcs=k
  . refine⟨(List.replicate f.blocks.length 0).modify 0 (·+1),by unfold acL;rw [List.getElem?_modify,h1];simp [e],by rw [List.length_modify,Aa6],fun v hv=>?_⟩
    obtain⟨i,hi,rfl⟩:=Aa1 hv;rw [List.getElem_modify];simp only [List.getElem_replicate];split <;> omega
  . refine⟨List.replicate f.blocks.length 0,by unfold acL;rw [List.getElem?_modify,h1];simp [e],by rw [Aa6],fun v hv=>?_⟩
    rw [Abz hv];omega
 refine⟨fun t ht=>?_,trivial,by show 1<=30;omega,fun v hv=>?_,hi,⟨Aah _,fun v hv=>by cases hv⟩,acw,aN⟩
 . rw [Aaq.1 ht]
   refine⟨g,_,hm,hz,Aah _,?_,fun v hv=>?_,by show -1<=(-1:Int);omega⟩
   . show (abt _ _ _).length=_
     unfold abt;rw [Aai,Aa6,aD,Abn];omega
   . rw [Abz (show v∈List.replicate _ _ from hv)];exact acw
 . obtain⟨g',aQ,aV⟩:=List.mem_flatMap.1 (show v∈ans u.globals from hv)
   rcases Aaz.1 aV with h4 | h4
   . exact hn.init g' aQ v h4
   . rw [Abz h4];exact acw
end
end
section
def noI:ad8:=⟨0,0,⟨false,0⟩,⟨false,0⟩,0,[]⟩
def ap7(u:aaC)(s:RnS)(t:RnF)(r:List RnF)(e:amR):RnS×Bool :=
 if e.kind=2 then ({ s with steps:=s.steps+1,frs:=aed u (e.to.getD 0 0).toNat t :: r,cnt:=acL s.cnt t.fn (e.to.getD 0 0).toNat },true)
 else if e.kind=3 then ({ s with steps:=s.steps+1,frs:=aed u (e.to.getD (if aaS t.regs e.on≠0 then 0 else 1) 0).toNat t :: r,cnt:=acL s.cnt t.fn (e.to.getD (if aaS t.regs e.on≠0 then 0 else 1) 0).toNat },true)
 else match r with
  | []=>({ s with steps:=s.steps+1,frs:=[],value:=aaS t.regs e.on,state:=0 },false)
  | c :: r'=>({ s with steps:=s.steps+1,frs:={ c with regs:=afk c.regs t.dst (aaS t.regs e.on) } :: r' },true)
def ap9(u:aaC)(s:RnS)(t:RnF)(r:List RnF)(y:ad8):RnS×Bool :=
 if y.op=18∨y.op=19 then
  if 0<=aaS t.regs y.a∧aaS t.regs y.a<=(s.mem.length:Int) - 1 then
   if y.op=19 then ({ s with steps:=s.steps+1,frs:={ t with pos:=t.pos+1 } :: r,mem:=s.mem.set (aaS t.regs y.a).toNat (aaS t.regs y.b) },true)
   else ({ s with steps:=s.steps+1,frs:={ t with pos:=t.pos+1,regs:=afk t.regs y.dst (s.mem.getD (aaS t.regs y.a).toNat 0) } :: r },true)
  else ({ s with steps:=s.steps+1,frs:={ t with pos:=t.pos+1 } :: r,state:=3 },false)
 else if y.op=20 then
  if r.length+1=30 then ({ s with steps:=s.steps+1,frs:={ t with pos:=t.pos+1 } :: r,state:=4 },false)
  else ({ s with steps:=s.steps+1,frs:=⟨y.fn.toNat,0,0,abt u y.fn.toNat (y.args.map (aaS t.regs)),y.dst⟩ :: { t with pos:=t.pos+1 } :: r,cnt:=acL s.cnt y.fn.toNat 0 },true)
 else if y.op=21 then ({ s with steps:=s.steps+1,inp:=s.inp.tail,frs:={ t with pos:=t.pos+1,regs:=afk t.regs y.dst (s.inp.headD (-1)) } :: r },true)
 else if y.op=22 then
  if s.out.length=200 then ({ s with steps:=s.steps+1,frs:={ t with pos:=t.pos+1 } :: r,state:=5 },false)
  else ({ s with steps:=s.steps+1,frs:={ t with pos:=t.pos+1 } :: r,out:=s.out++[aaS t.regs y.a] },true)
 else match ak4 y.op (aaS t.regs y.a) (aaS t.regs y.b) with
  | some n=>({ s with steps:=s.steps+1,frs:={ t with pos:=t.pos+1,regs:=afk t.regs y.dst n } :: r },true)
  | none=>({ s with steps:=s.steps+1,frs:={ t with pos:=t.pos+1 } :: r,state:=2 },false)
theorem aok {u:aaC}{s:RnS}{t:RnF}{r:List RnF}{x:aad}(af:s.frs=t :: r)(hx:aeQ u t.fn t.blk=x) :
 s.step u=if t.pos=x.list.length then ap7 u s t r x.fin else ap9 u s t r (x.list.getD t.pos noI):=by
 obtain⟨mem,inp,out,state,value,steps,frs,cnt⟩:=s;obtain rfl:frs=t :: r:=af;subst hx;unfold RnS.step;show (if t.pos=(aeQ u t.fn t.blk).list.length then _ else _)=_
 by_cases hp:t.pos=(aeQ u t.fn t.blk).list.length
 . rw [if_pos hp,if_pos hp]
   show RnS.end_ u (aeQ u t.fn t.blk).fin ⟨mem,inp,out,state,value,steps+1,t :: r,cnt⟩=_;unfold RnS.end_ ap7
   by_cases h2:(aeQ u t.fn t.blk).fin.kind=2
   . rw [if_pos h2,if_pos h2];rfl
   rw [if_neg h2,if_neg h2]
   by_cases h3:(aeQ u t.fn t.blk).fin.kind=3
   . rw [if_pos h3,if_pos h3];rfl
   rw [if_neg h3,if_neg h3];cases r with
   | nil=>exact if_pos rfl
   | cons d r'=>exact if_neg (fun e:d :: r'=[]=>by cases e)
 . rw [if_neg hp,if_neg hp]
   show RnS.ins u ((aeQ u t.fn t.blk).list.getD t.pos noI) ⟨mem,inp,out,state,value,steps+1,{ t with pos:=t.pos+1 } :: r,cnt⟩=_;generalize (aeQ u t.fn t.blk).list.getD t.pos noI=y;unfold RnS.ins ap9
   by_cases h1:y.op=18∨y.op=19
   . rw [if_pos h1,if_pos h1]
     show (if 0<=aaS t.regs y.a∧aaS t.regs y.a<=(mem.length:Int) - 1 then _ else _)=if 0<=aaS t.regs y.a∧aaS t.regs y.a<=(mem.length:Int) - 1 then _ else _
     by_cases h2:0<=aaS t.regs y.a∧aaS t.regs y.a<=(mem.length:Int) - 1
     . rw [if_pos h2,if_pos h2]
       by_cases h3:y.op=19
       . rw [if_pos h3,if_pos h3];rfl
       . rw [if_neg h3,if_neg h3];rfl
     . rw [if_neg h2,if_neg h2];rfl
   rw [if_neg h1,if_neg h1]
   by_cases ae:y.op=20
   . rw [if_pos ae,if_pos ae]
     show (if r.length+1=30 then _ else _)=if r.length+1=30 then _ else _
     by_cases h30:r.length+1=30
     . rw [if_pos h30,if_pos h30];rfl
     . rw [if_neg h30,if_neg h30];rfl
   rw [if_neg ae,if_neg ae]
   by_cases h21:y.op=21
   . rw [if_pos h21,if_pos h21];rfl
   rw [if_neg h21,if_neg h21]
   by_cases h22:y.op=22
   . rw [if_pos h22,if_pos h22]
     show (if out.length=200 then _ else _)=if out.length=200 then _ else _
     by_cases h200:out.length=200
     . rw [if_pos h200,if_pos h200];rfl
     . rw [if_neg h200,if_neg h200];rfl
   rw [if_neg h22,if_neg h22];show (match ak4 y.op (aaS t.regs y.a) (aaS t.regs y.b) with | some n=>_ | none=>_)=match ak4 y.op (aaS t.regs y.a) (aaS t.regs y.b) with | some n=>_ | none=>_
   cases ak4 y.op (aaS t.regs y.a) (aaS t.regs y.b) <;> rfl
end
section
structure aqe (u u':aaC)(k:Nat)(f f':aao)(sg:Nat->Nat)(G:Nat->Prop):Prop where
 regs:f'.regs=f.regs
 zero:G 0∧sg 0=0
 blk:∀(b:Nat) (x:aad),G b->f.blocks[b]?=some x->∃x',f'.blocks[sg b]?=some x'∧x'.list=x.list∧x'.fin.kind=x.fin.kind∧x'.fin.on=x.fin.on∧x'.fin.to=x.fin.to.map fun t=>((sg t.toNat:Nat):Int)
 tgt:∀(b:Nat) (x:aad) (t:Nat),G b->f.blocks[b]?=some x->(t:Int)∈x.fin.to->G t
 phi:∀(b:Nat) (x:aad) (t:Nat),G b->f.blocks[b]?=some x->(t:Int)∈x.fin.to->∀regs:List Int,agC (aeQ u' k (sg t)).phis (whence f'.blocks (sg t) (sg b)) regs=agC (aeQ u k t).phis (whence f.blocks t b) regs
structure amL (u u':aaC)(sg:Nat->Nat->Nat)(G:Nat->Nat->Prop):Prop where
 globals:u'.globals=u.globals
 main:mainAt u'.funcs=mainAt u.funcs
 fn:∀(k:Nat) (f:aao),u.funcs[k]?=some f->∃f',u'.funcs[k]?=some f'∧aqe u u' k f f' (sg k) (G k)
def trF(sg:Nat->Nat->Nat)(t:RnF):RnF:={ t with blk:=sg t.fn t.blk }
def trS(sg:Nat->Nat->Nat)(s:RnS)(c:List (List Int)):RnS:={ s with frs:=s.frs.map (trF sg),cnt:=c }
section
variable {u u' : aaC} {sg : Nat -> Nat -> Nat} {G : Nat -> Nat -> Prop} {s : RnS} {t : RnF} {r : List RnF} {f : aao} {x : aad}
theorem ao5(af:s.frs=t :: r)(c:List (List Int)):(trS sg s c).top=trF sg t∧(trS sg s c).frs=trF sg t :: r.map (trF sg):=by
 have e:(trS sg s c).frs=trF sg t :: r.map (trF sg):=by show s.frs.map _=_;rw [af];rfl
 exact⟨by unfold RnS.top;rw [e];rfl,e⟩
theorem am7(hf:u.funcs[t.fn]?=some f):aci u t.fn=f:=by
 unfold aci;rw [Aac,hf];rfl
theorem amL.regsOf(h:amL u u' sg G){k:Nat}(hf:u.funcs[k]?=some f)(args:List Int):abt u' k args=abt u k args:=by
 obtain⟨f',h1,h2⟩:=h.fn k f hf;have e1:aci u' k=f':=by unfold aci;rw [Aac,h1];rfl
 have e2:aci u k=f:=by unfold aci;rw [Aac,hf];rfl
 unfold Go.Proofs.YtnkfdeiigplhoaaGreatDoor.abt;rw [e1,e2,h2.regs]
theorem amL.blkR(h:amL u u' sg G)(ht:FrW u t f x)(hG:G t.fn t.blk):(aeQ u' t.fn (sg t.fn t.blk)).list=x.list∧(aeQ u' t.fn (sg t.fn t.blk)).fin.kind=x.fin.kind∧(aeQ u' t.fn (sg t.fn t.blk)).fin.on=x.fin.on∧(aeQ u' t.fn (sg t.fn t.blk)).fin.to=x.fin.to.map fun t'=>((sg t.fn t'.toNat:Nat):Int):=by
 obtain⟨f',h1,h2⟩:=h.fn t.fn f ht.fn;obtain⟨x',h3,h4⟩:=h2.blk t.blk x hG ht.blk;have e:Go.Proofs.YtnkfdeiigplhoaaGreatDoor.aeQ u' t.fn (sg t.fn t.blk)=x':=by
  unfold Go.Proofs.YtnkfdeiigplhoaaGreatDoor.aeQ aci;rw [Aac,Aac,h1];show (f'.blocks[sg t.fn t.blk]?).getD _=x';rw [h3];rfl
 rw [e];exact h4
theorem amL.jumpR(h:amL u u' sg G)(ht:FrW u t f x)(hG:G t.fn t.blk){ad:Nat}(al:(ad:Int)∈x.fin.to):aed u' (sg t.fn ad) (trF sg t)=trF sg (aed u ad t):=by
 obtain⟨f',h1,h2⟩:=h.fn t.fn f ht.fn;have e1:aci u' t.fn=f':=by unfold aci;rw [Aac,h1];rfl
 have h3:=h2.phi t.blk x ad hG ht.blk al t.regs;unfold Go.Proofs.YtnkfdeiigplhoaaGreatDoor.aed;show (⟨t.fn,sg t.fn ad,0,agC (Go.Proofs.YtnkfdeiigplhoaaGreatDoor.aeQ u' t.fn (sg t.fn ad)).phis (whence (aci u' t.fn).blocks (sg t.fn ad) (sg t.fn t.blk)) t.regs,t.dst⟩:RnF)=⟨t.fn,sg t.fn ad,0,_,t.dst⟩;rw [e1,h3,am7 ht.fn]
theorem anP(h:amL u u' sg G)(hc:aal u=(0,0))(af:s.frs=t :: r)(ht:FrW u t f x)(hG:∀t∈s.frs,G t.fn t.blk)(c:List (List Int)) :
 (∃c',(trS sg s c).step u'=(trS sg (s.step u).1 c',(s.step u).2))∧((s.step u).2=true->∀t∈(s.step u).1.frs,G t.fn t.blk):=by
 obtain⟨-,aE⟩:=ao5 (sg:=sg) af c;have aA:G t.fn t.blk:=hG t (by rw [af];exact Aa7 ..);have az:∀c∈r,G c.fn c.blk:=fun c aO=>hG c (by rw [af];exact Abb _ aO);obtain⟨b1,b2,b3,b4⟩:=h.blkR ht aA;have aP:=aiI hc ht.fn;rw [aok af ht.blkR,aok (x:=Go.Proofs.YtnkfdeiigplhoaaGreatDoor.aeQ u' t.fn (sg t.fn t.blk)) aE rfl,b1];show (∃c',(if t.pos=x.list.length then _ else _)=_)∧_
 by_cases hp:t.pos=x.list.length
 . rw [if_pos hp,if_pos hp]
   obtain⟨k1,k2,k3,k4,-⟩:=aP.kind _ x ht.blk;have aw:∀k:Nat,k<x.fin.to.length->(((x.fin.to.getD k 0).toNat:Nat):Int)=x.fin.to.getD k 0∧x.fin.to.getD k 0∈x.fin.to:=fun k hk=>by
    have hm:x.fin.to.getD k 0∈x.fin.to:=by rw [Aac,Aaa hk];exact Aaf _
    have:=k4 _ hm;exact⟨by omega,hm⟩
   have al:∀k:Nat,k<x.fin.to.length->((x.fin.to.map fun t'=>((sg t.fn t'.toNat:Nat):Int)).getD k 0).toNat=sg t.fn (x.fin.to.getD k 0).toNat:=fun k hk=>by
    rw [Aac,Aak,Aaa hk,Aac,Aaa hk];exact Aaj _
   have hj:∀k:Nat,k<x.fin.to.length->Go.Proofs.YtnkfdeiigplhoaaGreatDoor.aed u' (sg t.fn (x.fin.to.getD k 0).toNat) (trF sg t)=trF sg (Go.Proofs.YtnkfdeiigplhoaaGreatDoor.aed u (x.fin.to.getD k 0).toNat t):=fun k hk=>by
    obtain⟨a1,a2⟩:=aw k hk;exact h.jumpR ht aA (by rw [a1];exact a2)
   have aJ:∀k:Nat,k<x.fin.to.length->∀d∈Go.Proofs.YtnkfdeiigplhoaaGreatDoor.aed u (x.fin.to.getD k 0).toNat t :: r,G d.fn d.blk:=fun k hk d hd=>by
    obtain⟨a1,a2⟩:=aw k hk;rcases Aaw.1 hd with rfl | hd
    . obtain⟨f',-,h2⟩:=h.fn t.fn f ht.fn
      exact h2.tgt t.blk x _ aA ht.blk (by show ((x.fin.to.getD k 0).toNat:Int)∈_;rw [a1];exact a2)
    . exact az d hd
   unfold ap7;rw [b2,b3,b4]
   by_cases h2:x.fin.kind=2
   . rw [if_pos h2,if_pos h2,al 0 (by omega),hj 0 (by omega)]
     exact⟨⟨_,rfl⟩,fun _=>aJ 0 (by omega)⟩
   rw [if_neg h2,if_neg h2]
   by_cases h3:x.fin.kind=3
   . rw [if_pos h3,if_pos h3]
     have hv:aaS (trF sg t).regs x.fin.on=aaS t.regs x.fin.on:=rfl;rw [hv,al _ (by split <;> omega),hj _ (by split <;> omega)];exact⟨⟨_,rfl⟩,fun _=>aJ _ (by split <;> omega)⟩
   rw [if_neg h3,if_neg h3];cases r with
   | nil=>exact⟨⟨c,rfl⟩,fun e=>by cases e⟩
   | cons d r' =>
     refine⟨⟨c,rfl⟩,fun _ e he=>?_⟩;rcases Aaw.1 (show e∈{ d with regs:=afk d.regs t.dst (aaS t.regs x.fin.on) } :: r' from he) with rfl | he
     . exact az d (Aa7 ..)
     . exact az e (Abb _ he)
 . rw [if_neg hp,if_neg hp]
   obtain⟨y,hy⟩:∃y,y=x.list.getD t.pos noI:=⟨_,rfl⟩
   have an:y∈x.list:=by
    have:=ht.pos;rw [hy,Aac,Aaa (by omega)];exact Aaf _
   have aG:(trF sg t).pos=t.pos:=rfl;rw [aG,<-hy];have aq:∀regs:List Int,∀d∈{ t with pos:=t.pos+1,regs:=regs } :: r,G d.fn d.blk:=fun regs d hd=>by
    rcases Aaw.1 hd with rfl | hd
    . exact aA
    . exact az d hd
   unfold ap9;have hr:(trF sg t).regs=t.regs:=rfl;have hl:(r.map (trF sg)).length=r.length:=Aal _;have hm:(trS sg s c).mem=s.mem:=rfl;have hi:(trS sg s c).inp=s.inp:=rfl;have ho:(trS sg s c).out=s.out:=rfl;rw [hr,hl,hm,hi,ho]
   by_cases h1:y.op=18∨y.op=19
   . rw [if_pos h1,if_pos h1]
     by_cases h2:0<=aaS t.regs y.a∧aaS t.regs y.a<=(s.mem.length:Int) - 1
     . rw [if_pos h2,if_pos h2]
       by_cases h3:y.op=19
       . rw [if_pos h3,if_pos h3]
         exact⟨⟨c,rfl⟩,fun _=>aq _⟩
       . rw [if_neg h3,if_neg h3]
         exact⟨⟨c,rfl⟩,fun _=>aq _⟩
     . rw [if_neg h2,if_neg h2]
       exact⟨⟨c,rfl⟩,fun e=>by cases e⟩
   rw [if_neg h1,if_neg h1]
   by_cases ae:y.op=20
   . rw [if_pos ae,if_pos ae]
     by_cases h30:r.length+1=30
     . rw [if_pos h30,if_pos h30]
       exact⟨⟨c,rfl⟩,fun e=>by cases e⟩
     . rw [if_neg h30,if_neg h30]
       obtain⟨-,g,hg,-⟩:=(afC hc ht.fn ht.blk an).1 ae;obtain⟨g',-,aI⟩:=h.fn _ g hg;constructor
       . refine⟨acL c y.fn.toNat 0,?_⟩
         rw [h.regsOf hg];refine Prod.ext ?_ rfl;show ({ trS sg s c with steps:=_,frs:=(⟨y.fn.toNat,0,0,_,y.dst⟩:RnF) :: _ :: _,cnt:=_ }:RnS)={ s with steps:=_,frs:=(⟨y.fn.toNat,sg y.fn.toNat 0,0,_,y.dst⟩:RnF) :: _ :: _,cnt:=_ };rw [aI.zero.2];rfl
       . intro _ d hd
         rcases Aaw.1 (show d∈(⟨y.fn.toNat,0,0,_,y.dst⟩:RnF) :: { t with pos:=t.pos+1 } :: r from hd) with rfl | hd
         . exact aI.zero.1
         . exact aq t.regs d hd
   rw [if_neg ae,if_neg ae]
   by_cases h21:y.op=21
   . rw [if_pos h21,if_pos h21]
     exact⟨⟨c,rfl⟩,fun _=>aq _⟩
   rw [if_neg h21,if_neg h21]
   by_cases h22:y.op=22
   . rw [if_pos h22,if_pos h22]
     by_cases h200:s.out.length=200
     . rw [if_pos h200,if_pos h200]
       exact⟨⟨c,rfl⟩,fun e=>by cases e⟩
     . rw [if_neg h200,if_neg h200]
       exact⟨⟨c,rfl⟩,fun _=>aq _⟩
   rw [if_neg h22,if_neg h22];cases ak4 y.op (aaS t.regs y.a) (aaS t.regs y.b) with
   | none=>exact⟨⟨c,rfl⟩,fun e=>by cases e⟩
   | some n=>exact⟨⟨c,rfl⟩,fun _=>aq _⟩
theorem aoa (h : amL u u' sg G) (hc : aal u = (0, 0)) (hn : ajv u) : ∀ (m : Nat) (s : RnS) (c : List (List Int)), RnW u s -> s.frs ≠ [] -> (∀ t ∈ s.frs, G t.fn t.blk) -> ∃ c', RnS.go u' m (trS sg s c) = trS sg (RnS.go u m s) c'
 | 0,s,c,_,_,_=>⟨c,rfl⟩
 | m+1,s,c,hs,hne,hG=>by
   obtain⟨t,r,af⟩:∃t r,s.frs=t :: r:=by
    cases e:s.frs with
    | nil=>exact absurd e hne
    | cons t r=>exact⟨t,r,rfl⟩
   obtain⟨f,x,aF⟩:=hs.frs t (by rw [af];exact Aa7 ..);obtain⟨k1,k2,k3⟩:=ahD hc hn hs af aF (ahC hc hn hs af aF);obtain⟨⟨c',e1⟩,e2⟩:=anP h hc af aF hG c;rw [RnS.go,RnS.go,e1];dsimp only
   by_cases e:(s.step u).2=true
   . rw [if_pos e,if_pos e]
     exact aoa h hc hn m _ c' k1 (k2 e) (e2 e)
   . rw [if_neg e,if_neg e]
     exact⟨c',rfl⟩
theorem aoU(h:amL u u' sg G)(hc:aal u=(0,0))(hn:ajv u){inp:List Int}(hi:∀v∈inp,I64 v){g:aao}(hm:u.funcs[mainAt u.funcs]?=some g)(hp:g.params=0)(m:Nat) :
 (acD u' inp m).out=(acD u inp m).out∧(acD u' inp m).state=(acD u inp m).state∧(acD u' inp m).value=(acD u inp m).value∧(acD u' inp m).steps=(acD u inp m).steps:=by
 have hw:=ajo hc hn hi hm hp;obtain⟨g',-,hg⟩:=h.fn _ g hm;have aC:RnS.start u' inp=trS sg (RnS.start u inp) (RnS.start u' inp).cnt:=by
  unfold RnS.start RnS.enter;rw [h.globals,h.main,h.regsOf hm];show _=({ mem:=_,inp:=_,out:=_,state:=_,value:=_,steps:=_,frs:=[⟨mainAt u.funcs,sg (mainAt u.funcs) 0,0,_,-1⟩],cnt:=_ }:RnS);rw [hg.zero.2]
 obtain ⟨c', e⟩ := aoa h hc hn m (RnS.start u inp) (RnS.start u' inp).cnt hw (by intro e; unfold RnS.start RnS.enter at e; cases e) (fun t ht => by
  have ht : t ∈ [(⟨mainAt u.funcs, 0, 0, abt u (mainAt u.funcs) [], -1⟩ : RnF)] := ht
  rw [Aaq.1 ht]; exact hg.zero.1)
 rw [<-aC] at e;have e:acD u' inp m=trS sg (acD u inp m) c':=e;rw [e];exact⟨rfl,rfl,rfl,rfl⟩
end
theorem ajW {g : afu -> afu} (hg : ∀ p, (g p).dst = p.dst) : ∀ (ps : List afu) (ns r : List Int), agz (ps.map g) ns r = agz ps ns r
 | p :: ps,n :: ns,r=>by rw [Aa9,agz,agz,hg p];exact ajW hg ps ns _
 | [],_,_=>rfl
 | _ :: _,[],_=>rfl
end
end Go.Proofs.YtnkfdeiigplhoaaGreatDoor
