import Derived.Test.YtpeejlpcikefcaaGreatDoorPSd
/- A unit whose blocks' lists are laid anew, one by one: of calls.Copy's rows. -/
namespace Go.Proofs.YtpeejlpcikefcaaGreatDoor
open Go.RowKit
def WkS(base:Nat)(v:Value)(n:Nat)(B:Nat->Value)(c:Nat):Prop:=base<=c∧v.ownBlock≠some c∧∀k,k<n->(B k).ownBlock≠some c
structure ahf (W:World)(base:Nat)(v:Value)(fs:List aaz)(B:Nat->Value):Prop where
 row:ac7 W base 37 4 v (fs.mapIdx fun k f=>abT f (B k))
 num:∀(k:Nat) f,fs[k]?=some f->I64 f.params∧I64 f.regs
 blk:∀(k:Nat) f,fs[k]?=some f->∃C:List (List Value),ac7 W base 46 6 (B k) C∧C.length=f.blocks.length∧∀(b:Nat) cs x,C[b]?=some cs->f.blocks[b]?=some x->aa0 (WkS base v fs.length B) W cs x
 apart:∀j k:Nat,j<fs.length->k<fs.length->j≠k->∀c,(B j).ownBlock=some c->(B k).ownBlock≠some c
 off:∀k:Nat,k<fs.length->∀c,(B k).ownBlock=some c->v.ownBlock≠some c
section
variable {W W' : World} {base : Nat} {v : Value} {fs : List aaz} {B : Nat -> Value} {k b : Nat} {f : aaz} {x : DBlock}
theorem ahf.later(h:ahf W base v fs B)(hb:Below W.heap.size W W'):ahf W' base v fs B :=
 ⟨h.row.off (Kp.of hb), h.num, fun k f hf => by
   obtain ⟨C, r, hl, rd⟩ := h.blk k f hf
   exact ⟨C, r.off (Kp.of hb), hl, fun b cs x h1 h2 => aat.out _ _ _ _ _ _ (fun _ h => h) (aaS.below' hb) (rd b cs x h1 h2)⟩, h.apart, h.off⟩
theorem ahf.lt(h:ahf W base v fs B)(hk:k<fs.length){c:Nat}(hc:(B k).ownBlock=some c):base<=c∧c<W.heap.size:=by
 obtain⟨C,r,-⟩:=h.blk k _ (Aaa hk);exact r.lt c hc
theorem ahf.set {g n c:Nat}{lv:Value}{L:List aaJ}(h:ahf W base v fs B)(hf:fs[k]?=some f)(hb:f.blocks[b]?=some x)(hl:SlAt (WkS base v fs.length B) W 8 acb lv L)(hg:B k = .slice (some ⟨g,0,none⟩) n c) :
 ahf (W.setCell ⟨g,b * 6+1,none⟩ lv) base v (fs.set k { f with blocks:=f.blocks.set b { x with list:=L } }) B:=by
 have af:=(Aad.1 hf).1;have az:=(Aad.1 hb).1;have aq:(B k).ownBlock=some g:=by rw [hg];rfl
 have hk:Kp (fun c=>c≠g) W (W.setCell ⟨g,b * 6+1,none⟩ lv):=aaQ W g _ lv;have ak:aaS (WkS base v fs.length B) W (W.setCell ⟨g,b * 6+1,none⟩ lv):=hk.stays fun c hc e=>by
  subst e;exact hc.2.2 k af aq
 have aB:((fs.set k { f with blocks:=f.blocks.set b { x with list:=L } }).mapIdx fun j g=>abT g (B j))=fs.mapIdx fun k f=>abT f (B k):=by
  apply Aap;intro i;rw [Abr,Abr,Aa5]
  by_cases e:k=i
  . subst e;rw [if_pos rfl,if_pos af,hf];rfl
  . rw [if_neg e]
 refine⟨by rw [aB];exact h.row.off (hk.less fun c hc e=>by subst e;exact h.off k af _ aq hc),fun j f' hj=>?_,fun j f' hj=>?_,fun i j hi hj=>h.apart i j (by simpa using hi) (by simpa using hj),fun j hj=>h.off j (by simpa using hj)⟩
 . rw [Aa5] at hj
   by_cases e:k=j
   . subst e
     rw [if_pos rfl,if_pos af] at hj;cases hj;exact h.num k f hf
   . rw [if_neg e] at hj
     exact h.num j f' hj
 . rw [Aat]
   rw [Aa5] at hj
   by_cases e:k=j
   . subst e
     rw [if_pos rfl,if_pos af] at hj;cases hj;obtain⟨C,r,hlen,rd⟩:=h.blk k f hf;obtain⟨cs,ad⟩:∃cs,C[b]?=some cs:=⟨_,Aaa (by omega)⟩
     refine⟨C.set b (cs.set 1 lv),r.set hg ad (by decide) lv,by rw [Aat,Aat];exact hlen,fun b' aw x' h1 h2=>?_⟩;rw [Aa5] at h1;have al:(f.blocks.set b { x with list:=L })[b']?=some x':=h2;rw [Aa5] at al
     by_cases e:b=b'
     . subst e
       rw [if_pos rfl,if_pos (by omega)] at h1;rw [if_pos rfl,if_pos az] at al;cases h1;cases al;obtain⟨p,l0,e,rfl,h3,h4,h5⟩:=rd b cs x ad hb;exact⟨p,lv,e,rfl,h3.mono ace (fun _ h=>h) ak,hl.mono aax (fun _ h=>h) ak,aj7.out _ _ _ _ _ _ (fun _ h=>h) ak h5⟩
     . rw [if_neg e] at h1 al
       exact aat.out _ _ _ _ _ _ (fun _ h=>h) ak (rd b' aw x' h1 al)
   . rw [if_neg e] at hj
     have aC:=(Aad.1 hj).1;obtain⟨C,r,hlen,rd⟩:=h.blk j f' hj;exact⟨C,r.off (hk.less fun c hc e2=>by subst e2;exact h.apart k j af aC e _ aq hc),hlen,fun b cs x h1 h2=>aat.out _ _ _ _ _ _ (fun _ h=>h) ak (rd b cs x h1 h2)⟩
theorem ahf.read(h:ahf W base v fs B):SlAt (fun c=>c<W.heap.size) W 4 abD v fs:=by
 have hlen:(fs.mapIdx fun k f=>abT f (B k)).length=fs.length:=by simp
 rcases h.row.own.2 with⟨h1,h2⟩ | ⟨g,cap,cur,e1,h3,h4,h5,h6,h7,h8⟩
 . rw [hlen] at h2
   have hl:fs=[]:=Aa9 h2;subst hl;exact⟨none,0,h1,Aac _,by decide,fun h=>absurd rfl h⟩
 . unfold maxLen at h6
   rw [hlen] at e1 h5;refine⟨some ⟨g,0,none⟩,cap,e1,h5,by omega,fun _=>⟨g,0,rfl,(Aag.1 h4).1,fun i y hy=>?_⟩⟩;have hc:(fs.mapIdx fun k f=>abT f (B k))[i]?=some (abT y (B i)):=by rw [Abr,hy];rfl
   obtain⟨g',c',e2,-,-,-,ad,-⟩:=h.row.at hc (by decide);rw [e1] at e2;have hg:g=g':=by injection e2 with e3;injection e3 with e4;injection e4
   have hn:=h.num i y hy;refine⟨_,⟨_,rfl,?_,hn.1,hn.2⟩,rfl,by rw [Aab,hg];exact ad⟩;obtain⟨C,r,hl,rd⟩:=h.blk i y hy;have aj:∀cs x,aa0 (WkS base v fs.length B) W cs x->aa0 (fun c=>c<W.heap.size) W cs x:=fun cs x hx=>by
    obtain⟨p,l,e,h1,h2,h3,v4,h4,h5,h6⟩:=hx
    exact ⟨p, l, e, h1, (h2.live (by decide) fun cs x ⟨v, q1, q2, q3⟩ => ⟨v, q1, q2.live (by decide) (fun _ _ q => q), q3⟩).mono ace (fun _ h => h.2) (aaS.refl _ _), (h3.live (by decide) fun cs x ⟨v, q1, q2, q3⟩ => ⟨v, q1, q2.live (by decide) (fun _ _ q => q), q3⟩).mono aax (fun _ h => h.2) (aaS.refl _ _),
     v4, h4, (h5.live (by decide) fun _ _ q => q).mono aaw (fun _ h => h.2) (aaS.refl _ _), h6⟩
   rcases r.own.2 with⟨q1,q2⟩ | ⟨g2,cap2,cur2,q1,q3,q4,q5,q6,q7,q8⟩
   . have au:y.blocks=[]:=Aa9 (by omega)
     rw [q1,au];exact⟨none,0,rfl,Aac _,by decide,fun h=>absurd rfl h⟩
   . unfold maxLen at q6
     refine⟨some ⟨g2,0,none⟩,cap2,by rw [q1,hl],by omega,by omega,fun _=>⟨g2,0,rfl,(Aag.1 q4).1,fun b x hx=>?_⟩⟩;obtain⟨cs,ad⟩:∃cs,C[b]?=some cs:=⟨_,Aaa (by rw [hl];exact (Aad.1 hx).1)⟩
     obtain⟨g3,c3,e3,-,-,-,ao,-⟩:=r.at ad (by decide);rw [q1] at e3;have aD:g2=g3:=by injection e3 with e4;injection e4 with e5;injection e5
     exact⟨cs,aj cs x (rd b cs x ad hx),r.wid cs (Aae ad),by rw [Aab,aD];exact ao⟩
theorem ahf.funcCell {g n c:Nat}(h:ahf W base v fs B)(hf:fs[k]?=some f)(hv:v = .slice (some ⟨g,0,none⟩) n c):W.cell? ⟨g,k * 4+3,none⟩=some (B k)∧∃a c,B k = .slice a f.blocks.length c:=by
 obtain⟨g',c',ax,-,-,-,av,-⟩:=h.row.at (i:=k) (by rw [Abr,hf];rfl) (by decide)
 have hg:g=g':=by rw [hv] at ax;injection ax with e1;injection e1 with e2;injection e2
 subst hg;obtain⟨C,r,hl,-⟩:=h.blk k f hf;refine⟨av.get4.2.2.2,?_⟩;rcases r.own.2 with⟨q1,q2⟩ | ⟨g2,cap2,cur2,q1,-⟩
 . exact⟨none,0,by rw [q1,<-hl,q2]⟩
 . exact⟨_,_,by rw [q1,hl]⟩
theorem ahf.listCell(h:ahf W base v fs B)(hf:fs[k]?=some f)(hb:f.blocks[b]?=some x):∃g c a lc,B k = .slice (some ⟨g,0,none⟩) f.blocks.length c∧W.cell? ⟨g,b * 6+1,none⟩=some (.slice a x.list.length lc)∧W.frozen? ⟨g,b * 6+1,none⟩=false ∧
 SlAt (WkS base v fs.length B) W 8 acb (.slice a x.list.length lc) x.list∧base<=g∧g<W.heap.size:=by
 obtain⟨C,r,hl,rd⟩:=h.blk k f hf;obtain⟨cs,ad⟩:∃cs,C[b]?=some cs:=⟨_,Aaa (by rw [hl];exact (Aad.1 hb).1)⟩
 obtain⟨p,l,e,rfl,-,h3,-⟩:=rd b cs x ad hb;obtain⟨g,c,hv,-,-,-,av,hz⟩:=r.at ad (by decide);obtain⟨a,lc,rfl,-⟩:=id h3;have hg:=r.lt g (by rw [hv];rfl);exact⟨g,c,a,lc,by rw [hv,hl],av 1 _ rfl,hz _,h3,hg.1,hg.2⟩
end
variable {W:World}{base:Nat}
theorem aah.readS{α : Type}   {ok : Pth -> Prop} {V : Pth -> Value} {C : Pth -> List (List Value)} {r : Rp α} (h : aah W base ok V C) {S : Nat -> Prop} {p : Pth} (hp : ok p) (hS : ∀ c, (V p).ownBlock = some c -> S c) {l : List α} (hl : (C p).length = l.length)
 (hr:∀(i:Nat) x,l[i]?=some x->∃cs,(C p)[i]?=some cs∧r S W cs x):SlAt S W p.sz r (V p) l:=by
 rcases (h.own p hp).2 with⟨e,h2⟩ | ⟨g,cap,cur,e,h3,h4,h5,h6,h7,h8⟩
 . have au:l=[]:=Aa9 (by omega)
   subst au;rw [e];exact⟨none,0,rfl,Aac _,by decide,fun h=>absurd rfl h⟩
 . unfold maxLen at h6
   refine⟨some ⟨g,0,none⟩,cap,by rw [e,hl],by omega,by omega,fun _=>⟨g,0,rfl,hS g (by rw [e];rfl),fun i x hx=>?_⟩⟩;obtain⟨cs,hc,aA⟩:=hr i x hx;refine⟨cs,aA,h.wid p hp cs (Aae hc),fun j u hj=>?_⟩;obtain⟨g',c',e',-,-,-,ai,-⟩:=h.cell hp hc hj;rw [e] at e';cases e';rw [Aab];exact ai
theorem abJ.readB{bs:List DBlock}{V:Pth->Value}(h:abJ W base bs V){S:Nat->Prop}(hS:∀p,okP bs p->p ≠ .blks->∀c,(V p).ownBlock=some c->S c){b:Nat}{x:DBlock}(hx:bs[b]?=some x)(ag:aos x) :
 ∃cs,(aae bs V .blks)[b]?=some cs∧aa0 S W cs x:=by
 have hb:b<bs.length:=(Aad.1 hx).1;have ae:=aa2 hx;refine⟨_,by show (bs.mapIdx _)[b]?=_;rw [aai,hx];rfl,V (.phis b),V (.list b),_,rfl,?_,?_,V (.to b),rfl,?_,ag.kind,ag.on⟩
 . refine aah.readS (r:=amd) h (p := .phis b) hb (hS _ hb (by simp)) (by simp [aae,ae]) (fun i p hp=>?_)
   refine⟨_,by show ((blkOf bs b).phis.mapIdx _)[i]?=_;rw [ae,aai,hp];rfl,V (.src b i),rfl,?_,(ag.phi p (Aae hp)).1⟩;have ah:(blkOf bs b).phis.getD i abu=p:=by rw [ae,Aaf,hp];rfl
   have an:okP bs (.src b i):=show i<(blkOf bs b).phis.length by rw [ae];exact (Aad.1 hp).1
   refine aah.readS (r:=agd) h (p := .src b i) an (hS _ an (by simp)) (by simp only [aae];rw [ah,Aah]) (fun j v hv=>?_);exact⟨aaA v,by simp only [aae];rw [ah,Aak,hv];rfl,rfl,(ag.phi p (Aae hp)).2 v (Aae hv)⟩
 . refine aah.readS (r:=acb) h (p := .list b) hb (hS _ hb (by simp)) (by simp [aae,ae]) (fun i y hy=>?_)
   obtain⟨n1,n2,n3,n4,n5,n6⟩:=ag.ins y (Aae hy);refine⟨_,by show ((blkOf bs b).list.mapIdx _)[i]?=_;rw [ae,aai,hy];rfl,V (.args b i),rfl,?_,n1,n2,n3,n4,n5⟩;have ah:(blkOf bs b).list.getD i abM=y:=by rw [ae,Aaf,hy];rfl
   have an:okP bs (.args b i):=show i<(blkOf bs b).list.length by rw [ae];exact (Aad.1 hy).1
   refine aah.readS (r:=agd) h (p := .args b i) an (hS _ an (by simp)) (by simp only [aae];rw [ah,Aah]) (fun j v hv=>?_);exact⟨aaA v,by simp only [aae];rw [ah,Aak,hv];rfl,rfl,n6 v (Aae hv)⟩
 . refine aah.readS (r:=acx) h (p := .to b) hb (hS _ hb (by simp)) (by simp [aae,ae]) (fun i t ht=>?_)
   exact⟨[.int .i64 t],by show ((blkOf bs b).fin.to.map _)[i]?=_;rw [ae,Aak,ht];rfl,rfl,ag.to t (Aae ht)⟩
theorem ahf.of_uni{v:Value}{fs:List aaz}{V:Nat->Pth->Value}(h:adH W base v fs V)(hn:∀f∈fs,(∀x∈f.blocks,aos x)∧I64 f.params∧I64 f.regs):ahf W base v fs (fun k=>V k .blks):=by
 have hg:∀k,k<fs.length->∃f,fs[k]?=some f:=fun k hk=>⟨_,Aaa hk⟩
 refine⟨h.row,fun k f hf=>(hn f (Aae hf)).2,fun k f hf=>?_,fun j k hj hk ar c hc=>?_,fun k hk c hc=>?_⟩
 . have hF:=h.fn k f hf
   have af:=(Aad.1 hf).1;refine⟨aae f.blocks (V k) .blks,⟨aah.own hF .blks trivial,aah.wid hF .blks trivial⟩,by simp [aae],fun b cs x h1 h2=>?_⟩
   obtain ⟨aw, h3, h4⟩ := abJ.readB hF (S := WkS base v fs.length fun k => V k .blks) (fun p hp ar c hc => ⟨(aah.lt hF hp c hc).1, h.off k f hf p hp c hc, fun j hj e => by
    obtain ⟨g, ay⟩ := hg j hj
    by_cases hjk : j = k
    . subst hjk
      exact aah.apart hF p .blks hp trivial ar c hc e
    . exact h.apart k j f g hf ay (fun e => hjk e.symm) p .blks hp trivial c hc e⟩) h2 ((hn f (Aae hf)).1 x (Aae h2))
   rw [h1] at h3;cases h3;exact h4
 . obtain⟨f,hf⟩:=hg j hj
   obtain⟨f',aE⟩:=hg k hk;exact h.apart j k f f' hf aE ar .blks .blks trivial trivial c hc
 . obtain⟨f,hf⟩:=hg k hk
   exact h.off k f hf .blks trivial c hc
end Go.Proofs.YtpeejlpcikefcaaGreatDoor
