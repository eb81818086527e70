import Derived.Test.YtgekbfgplclmeaaDoorPUnrC2
/- A unit in static single assignment; its functions by number. A loop whose trip count is told is a loop whose rounds are known, in plain Lean. No program in sight. -/
namespace Go.Proofs.YtgekbfgplclmeaaDoor
section
open Go.RowKit
theorem acU {u:aax}(h:adk u=(0,0)):aak u=(0,0)∧∀(k:Nat) (f:aal),u.funcs[k]?=some f->acG f=0:=by
 unfold adk at h
 by_cases h1:aak u≠(0,0)
 . rw [if_pos h1] at h;exact absurd h h1
 rw [if_neg h1] at h
 by_cases h2:acd (aiy u.funcs) u.funcs.length<u.funcs.length
 . rw [if_pos h2] at h
   exact absurd (congrArg Prod.fst h) (abP h2)
 . refine⟨Classical.not_not.1 h1,fun k f hf=>?_⟩
   have:=aem h2 k (Aae.1 hf).1;unfold aiy at this;rw [hf] at this;exact this
theorem agK {u:aax}(h:(adk u).1=0):adk u=(0,0):=by
 unfold adk at h ⊢
 by_cases h1:aak u≠(0,0)
 . rw [if_pos h1] at h
   exact absurd (agU h) h1
 rw [if_neg h1] at h ⊢
 by_cases h2:acd (aiy u.funcs) u.funcs.length<u.funcs.length
 . rw [if_pos h2] at h
   exact absurd h (abP h2)
 . rw [if_neg h2]
theorem ajs {u:aax}(h:adk u=(0,0)){k:Nat}{f:aal}(hf:u.funcs[k]?=some f):agQ f∧acG f=0 :=
 ⟨afF (acU h).1 hf,(acU h).2 k f hf⟩
def aj4(fs:List aal)(k:Int):Option aal:=if k<0 then none else fs[k.toNat]?
theorem agq {fs:List aal}{k:Int}{f:aal}(h:aj4 fs k=some f):∃n:Nat,k=(n:Int)∧fs[n]?=some f:=by
 unfold aj4 at h
 by_cases h0:k<0
 . rw [if_pos h0] at h;cases h
 . rw [if_neg h0] at h;exact⟨k.toNat,by omega,h⟩
theorem aiO {fs:List aal}{k:Int}(h:aj4 fs k=none):k<0∨(fs.length:Int)<=k:=by
 unfold aj4 at h
 by_cases h0:k<0
 . exact .inl h0
 . rw [if_neg h0] at h
   have:=List.getElem?_eq_none_iff.1 h;exact .inr (by omega)
end
section
theorem aha {l:List aad}:∀{s t:Nat},(∀y∈l,y.fin.to.Nodup)->(aag l s t).Nodup:=by
 induction l with
 | nil=>intro s t _;exact List.nodup_nil
 | cons b l ih =>
   intro s t h;rw [aag,List.nodup_append];refine⟨?_,ih fun y hy=>h y (Aa3 _ hy),fun a ha c hc e=>?_⟩
   . unfold ae1
     have hn:=(h b (Aa6 ..)).filter (fun z=>z == (t:Int));have hl:(b.fin.to.filter fun z=>z == (t:Int)).length<=1:=by
      refine Nat.le_of_not_lt fun aE=>?_;have h0:=Aai (l:=b.fin.to.filter fun z=>z == (t:Int)) (n:=0) (by omega);have h1:=Aai (l:=b.fin.to.filter fun z=>z == (t:Int)) (n:=1) (by omega);have ae:∀z∈b.fin.to.filter fun z=>z == (t:Int),z=(t:Int):=fun z hz=>by simpa using (List.mem_filter.1 hz).2
      have e0:=ae _ h0;have e1:=ae _ h1;have:=(List.pairwise_iff_getElem.1 hn) 0 1 (by omega) (by omega) (by omega);exact this (e0.trans e1.symm)
     have ao:∀m:List Int,m.length<=1->m.Nodup:=fun m hm=>by
      cases m with
      | nil=>exact List.nodup_nil
      | cons a m =>
        cases m with
        | nil=>simp
        | cons _ _=>simp at hm
     exact ao _ (by rw [Aal];exact hl)
   . have h1:=ahv ha
     obtain⟨i,y,-,-,h2⟩:=acS.1 hc;omega
theorem LpU.of {u:aax}(hs:adk u=(0,0))(hn:aiw u){k0 b0:Nat}{f:aal}{x:aad}(hf:u.funcs[k0]?=some f)(hx:f.blocks[b0]?=some x)(av:unrF f.blocks b0≠0) :
 ∃q p n:Nat,(n:Int)=unrF f.blocks b0∧LpU u k0 b0 q p f x n∧(aag f.blocks 0 b0).length=2∧q<2∧(aag f.blocks 0 b0)[q]?=some (p:Int)∧(aag f.blocks 0 b0)[1 - q]?=some (b0:Int)∧p<f.blocks.length:=by
 obtain⟨hc,aC⟩:=acU hs;have an:=afF hc hf;have aB:=aC k0 f hf;have hu:unrF f.blocks b0=match acg f.blocks b0 with | some k=>aa8 x (b0:Int) k | none=>0:=by
  unfold unrF;rw [hx];cases acg f.blocks b0 <;> rfl
 cases hq:acg f.blocks b0 with
 | none=>rw [hu,hq] at av;exact absurd rfl av
 | some q =>
   have hR:unrF f.blocks b0=aa8 x (b0:Int) q:=by rw [hu,hq]
   unfold acg at hq;rw [hx] at hq;dsimp only at hq
   by_cases hcond:x.fin.kind=3∧(x.fin.to.getD 0 0=(b0:Int)∨x.fin.to.getD 1 0=(b0:Int))∧(aag f.blocks 0 b0).length=2
   case neg=>rw [if_neg hcond] at hq;cases hq
   rw [if_pos hcond] at hq;injection hq with hq;obtain⟨ay,aD,ao⟩:=hcond;obtain⟨-,-,k3,k4,-⟩:=an.kind _ x hx;have hlen:x.fin.to.length=2:=by omega
   have af:(b0:Int)∈x.fin.to:=by
    rcases aD with h | h
    . rw [<-h,Aab,Aaa (by omega)];exact Aai _
    . rw [<-h,Aab,Aaa (by omega)];exact Aai _
   have ag:(aag f.blocks 0 b0).Nodup:=aha fun y hy=>by
    obtain⟨i,hi,rfl⟩:=Aav hy;obtain⟨j1,j2,j3,-,j5⟩:=an.kind i _ (Aaa hi)
    by_cases e3:f.blocks[i].fin.kind=3
    . have hl:f.blocks[i].fin.to.length=2:=by omega
      rw [List.nodup_iff_pairwise_ne,List.pairwise_iff_getElem];intro a c ha aw aj;obtain rfl:a=0:=by omega
      obtain rfl:c=1:=by omega
      intro e;refine j5 ⟨e3,?_⟩;rw [Aab,Aab,Aaa ha,Aaa aw];exact e
    . have hl:f.blocks[i].fin.to.length<=1:=by omega
      rw [List.nodup_iff_pairwise_ne,List.pairwise_iff_getElem];intro a c ha aw aj;omega
   have al:(b0:Int)∈aag f.blocks 0 b0:=acS.2 ⟨b0,x,hx,af,by simp⟩;obtain⟨P,hP⟩:∃P,P=aag f.blocks 0 b0:=⟨_,rfl⟩
   have ak:∀v∈P,∃b y,f.blocks[b]?=some y∧(b0:Int)∈y.fin.to∧v=((b:Nat):Int):=fun v hv=>by
    rw [hP] at hv;obtain⟨i,y,h1,h2,h3⟩:=acS.1 hv;exact⟨i,y,h1,h2,by rw [h3];simp⟩
   rw [<-hP] at hq ao ag al ⊢;have au:∀(b:Nat) y,f.blocks[b]?=some y->(b0:Int)∈y.fin.to->(b:Int)∈P:=fun b y h1 h2=>by rw [hP];exact acS.2 ⟨b,y,h1,h2,by simp⟩
   have ad:∀b:Nat,whence f.blocks b0 b=P.idxOf (b:Int):=fun b=>by unfold whence;rw [hP]
   match P,ao,hq,ag,al,ak,au,ad with
   | [a,c],_,hq,ag,al,ak,au,ad =>
     have aj:a≠c:=by
      intro e;rw [e] at ag;simp at ag
     have fin:∀p:Nat,(∃y,f.blocks[p]?=some y∧(b0:Int)∈y.fin.to)->p≠b0->whence f.blocks b0 p=q->whence f.blocks b0 b0=1 - q->(∀b:Nat,(b:Int)=a∨(b:Int)=c->b=p∨b=b0) ->
      ∃n:Nat,(n:Int)=unrF f.blocks b0∧LpU u k0 b0 q p f x n:=fun p hp ai h1 h2 h3=>by
      obtain⟨n,az,aA⟩:=agH hR.symm av;refine⟨n,az.symm,hc,hn,hf,hx,akx an aB hx,ay,?_,ai,h1,h2,fun b y e1 e2=>?_,fun y e1 e2=>?_,aA⟩
      . have:=k4 _ af
        omega
      . exact h3 b (by simpa using au b y e1 e2)
      . obtain⟨y',e3,e4⟩:=hp
        rw [e1] at e3;cases e3;obtain⟨-,-,j3,-,-⟩:=an.kind _ y e1;have hl:y.fin.to.length=1:=by omega
        match hyt:y.fin.to,hl with
        | [z],_ =>
          rw [hyt] at e4;have:(b0:Int)=z:=by simpa using e4
          rw [this];rfl
     by_cases ha:a=(b0:Int)
     . have ar:q=1:=by
        rw [<-hq];exact if_pos ha
       obtain⟨p,y,e1,e2,e3⟩:=ak c (by simp);have ai:p≠b0:=fun e=>aj (by rw [ha,e3,e])
       obtain ⟨n, n1, n2⟩ := fin p ⟨y, e1, e2⟩ ai (by rw [ad, <- e3, ar, List.idxOf_cons, List.idxOf_cons]; simp [beq_eq_false_iff_ne.2 aj]) (by rw [ad, ar, List.idxOf_cons]; simp [ha]) (fun b hb => by
        rcases hb with hb | hb
        . exact .inr (by omega)
        . exact .inl (by omega))
       exact⟨q,p,n,n1,n2,rfl,by omega,by rw [ar,<-e3];rfl,by rw [ar,<-ha];rfl,(Aae.1 e1).1⟩
     . have aq:q=0:=by
        rw [<-hq];exact if_neg ha
       have ax:c=(b0:Int):=by
        have:(b0:Int)=a∨(b0:Int)=c:=by simpa using al
        rcases this with h | h
        . exact absurd h.symm ha
        . exact h.symm
       obtain⟨p,y,e1,e2,e3⟩:=ak a (by simp);have ai:p≠b0:=fun e=>ha (by rw [e3,e])
       obtain ⟨n, n1, n2⟩ := fin p ⟨y, e1, e2⟩ ai (by rw [ad, <- e3, aq, List.idxOf_cons]; simp) (by rw [ad, aq, List.idxOf_cons, List.idxOf_cons]; simp [beq_eq_false_iff_ne.2 ha, ax]) (fun b hb => by
        rcases hb with hb | hb
        . exact .inl (by omega)
        . exact .inr (by omega))
       exact⟨q,p,n,n1,n2,rfl,by omega,by rw [aq,<-e3];rfl,by rw [aq,<-ax];rfl,(Aae.1 e1).1⟩
end
end Go.Proofs.YtgekbfgplclmeaaDoor
