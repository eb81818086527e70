import Derived.Test.YtpeejlpcikefcaaGreatDoorPGCopy
/- The rows of a function that is worked upon in place, against a world at which the work began; what of a function one write turns. -/
namespace Go.Proofs.YtpeejlpcikefcaaGreatDoor
open Go.RowKit
structure Kp (F:Nat->Prop)(w w':World):Prop where
 os:w'.os=w.os
 tape:w'.tape=w.tape
 output:w'.output=w.output
 size:w.heap.size<=w'.heap.size
 block:∀b,b<w.heap.size->F b->w'.heap[b]?=w.heap[b]?
section
variable {F : Nat -> Prop} {w w' aj : World}
theorem Kp.refl(F:Nat->Prop)(w:World):Kp F w w:=⟨rfl,rfl,rfl,Aac _,fun _ _ _=>rfl⟩
theorem Kp.trans(h:Kp F w w')(k:Kp F w' aj):Kp F w aj:=⟨k.os.trans h.os,k.tape.trans h.tape,k.output.trans h.output,Aai h.size k.size,fun b hb hf=>(k.block b (Aay hb h.size) hf).trans (h.block b hb hf)⟩
theorem Kp.of(h:Below w.heap.size w w'):Kp F w w':=⟨h.os,h.tape,h.output,h.size,fun b hb _=>h.block b hb⟩
theorem Kp.less {G:Nat->Prop}(h:Kp F w w')(hg:∀b,G b->F b):Kp G w w':=⟨h.os,h.tape,h.output,h.size,fun b hb hf=>h.block b hb (hg b hf)⟩
theorem Kp.set(h:Kp F w w'){a:Addr}(ha:¬F a.block)(u:Value):Kp F w (w'.setCell a u) :=
 ⟨h.os, h.tape, h.output, by simpa [World.setCell] using h.size, fun b hb hf => by
   rw [Below.heap_setCell _ _ _ _ (fun e => ha (by rw [<- e]; exact hf))]; exact h.block b hb hf⟩
theorem Kp.setNew(h:Kp F w w'){a:Addr}(ha:w.heap.size<=a.block)(u:Value):Kp F w (w'.setCell a u) :=
 ⟨h.os, h.tape, h.output, by simpa [World.setCell] using h.size, fun b hb hf => by
   rw [Below.heap_setCell _ _ _ _ (by omega)]; exact h.block b hb hf⟩
theorem Kp.cell(h:Kp F w w'){b o:Nat}{u:Value}(hb:F b)(hc:w.cell? ⟨b,o,none⟩=some u):w'.cell? ⟨b,o,none⟩=some u:=by
 rw [World.cell?_of_block (w:=w) (a:=⟨b,o,none⟩) (h.block b (aac hc) hb)];exact hc
theorem Kp.frozen(h:Kp F w w'){b o:Nat}{x:Bool}(hb:F b)(hl:b<w.heap.size)(hc:w.frozen? ⟨b,o,none⟩=x):w'.frozen? ⟨b,o,none⟩=x:=by
 rw [World.frozen?_of_block (w:=w) (a:=⟨b,o,none⟩) (h.block b hl hb)];exact hc
theorem Kp.stays(h:Kp F w w'){S:Nat->Prop}(hS:∀b,S b->F b):aaS S w w':=fun _ _ _ hb hc=>h.cell (hS _ hb) hc
theorem Kp.below(h:Kp F w w'){B:Nat}(hB:∀b,b<B->b<w.heap.size∧F b):Below B w w':=⟨h.os,h.tape,h.output,h.size,fun b hb=>h.block b (hB b hb).1 (hB b hb).2⟩
end
structure abB (W3 W:World)(base:Nat)(X:Nat->Prop)(ok:Pth->Prop)(V:Pth->Value)(C:Pth->List (List Value)):Prop where
 rows:aah W base ok V C
 off:∀p,ok p->∀k,(V p).ownBlock=some k->¬X k
 low:Below base W3 W
 kept:∀b,X b->W.heap[b]?=W3.heap[b]?
 old:∀b,X b->b<W3.heap.size
 le:base<=W3.heap.size
section
variable {W3 W W' : World} {base : Nat} {X : Nat -> Prop} {ok : Pth -> Prop} {V : Pth -> Value} {C : Pth -> List (List Value)}
theorem abB.start(h:aah W base ok V C)(hX:∀b,X b->b<W.heap.size)(off:∀p,ok p->∀k,(V p).ownBlock=some k->¬X k)(hb:base<=W.heap.size):abB W W base X ok V C :=
 ⟨h,off,Below.refl _ _,fun _ _=>rfl,hX,hb⟩
theorem abB.base_le(h:abB W3 W base X ok V C):base<=W.heap.size:=Aai h.le h.low.size
theorem abB.x_lt(h:abB W3 W base X ok V C){b:Nat}(hb:X b):b<W.heap.size:=Aay (h.old b hb) h.low.size
theorem abB.later(h:abB W3 W base X ok V C)(hb:Below W.heap.size W W'):abB W3 W' base X ok V C :=
 ⟨h.rows.later hb,h.off,h.low.trans (hb.mono h.base_le),fun b hx=>(hb.block b (h.x_lt hx)).trans (h.kept b hx),h.old,h.le⟩
theorem abB.trans {W4:World}{X':Nat->Prop}{ok':Pth->Prop}{V':Pth->Value}{C':Pth->List (List Value)}(h:abB W3 W4 base X ok V C)(k:abB W4 W base X' ok' V' C')(hX:∀b,X b->X' b):abB W3 W base X ok' V' C' :=
 ⟨k.rows,fun p hp b hb hx=>k.off p hp b hb (hX b hx),h.low.trans k.low,fun b hx=>(k.kept b (hX b hx)).trans (h.kept b hx),h.old,h.le⟩
theorem abB.less(h:abB W3 W base X ok V C){ok':Pth->Prop}(ho:∀p,ok' p->ok p):abB W3 W base X ok' V C :=
 ⟨h.rows.less ho,fun p hp=>h.off p (ho p hp),h.low,h.kept,h.old,h.le⟩
theorem abB.congr(h:abB W3 W base X ok V C){V':Pth->Value}{C':Pth->List (List Value)}(hV:∀p,ok p->V' p=V p)(hC:∀p,ok p->C' p=C p):abB W3 W base X ok V' C' :=
 ⟨h.rows.congr hV hC,fun p hp k hk=>h.off p hp k (by rw [<-hV p hp];exact hk),h.low,h.kept,h.old,h.le⟩
theorem abB.cell(h:abB W3 W base X ok V C){b o:Nat}(hb:X b){u:Value}(hc:W3.cell? ⟨b,o,none⟩=some u):W.cell? ⟨b,o,none⟩=some u:=by
 rw [World.cell?_of_block (w:=W3) (a:=⟨b,o,none⟩) (h.kept b hb)];exact hc
theorem abB.stays(h:abB W3 W base X ok V C){S:Nat->Prop}(hS:∀b,S b->X b):aaS S W3 W:=fun _ _ _ hb hc=>h.cell (hS _ hb) hc
theorem abB.keep(h:abB W3 W base X ok V C){X':Nat->Prop}(hX:∀b,X' b->b<W.heap.size)(off:∀p,ok p->∀k,(V p).ownBlock=some k->¬X' k):abB W W base X' ok V C:=abB.start h.rows hX off h.base_le
theorem abB.turn (h : abB W3 W base X ok V C) {p : Pth} (hp : ok p) {v' : Value} {xss : List (List Value)} (ho : W'.ownsRow base p.ty p.sz v' xss.length xss.flatten) (hw : ∀ cs ∈ xss, cs.length = p.sz)
 (hg:W.grownBy W' (V p).ownBlock) (hb:∀k,v'.ownBlock=some k->(V p).ownBlock=some k∨W.heap.size<=k):abB W3 W' base X ok (aaU V p v') (aaU C p xss):=by
 refine⟨h.rows.turn hp ho hw hg hb,fun q hq k hk hx=>?_,?_,fun b hx=>?_,h.old,h.le⟩
 . by_cases e:q=p
   . rw [e,aaj] at hk
     rcases hb k hk with h1 | h1
     . exact h.off p hp k h1 hx
     . have:=h.x_lt hx;omega
   . rw [aag _ _ e] at hk;exact h.off q hq k hk hx
 . have ai:Below base W W:=Below.refl _ _
   exact h.low.trans (ai.grown hg h.base_le (fun k hk=>(h.rows.lt hp k hk).1))
 . rw [hg.block b (h.x_lt hx) (fun e=>h.off p hp b e.symm hx)];exact h.kept b hx
theorem abB.set(h:abB W3 W base X ok V C){p:Pth}(hp:ok p){g n c i j:Nat}(hv:V p = .slice (some ⟨g,0,none⟩) n c){cs:List Value}(hi:(C p)[i]?=some cs)(hj:j<p.sz)(u:Value) :
 abB W3 (W.setCell ⟨g,i * p.sz+j,none⟩ u) base X ok V (aaU C p ((C p).set i (cs.set j u))):=by
 have an:¬X g:=h.off p hp g (by rw [hv];rfl);have al:base<=g:=(h.rows.lt hp g (by rw [hv];rfl)).1
 exact ⟨h.rows.set hp hv hi hj u, h.off, h.low.setCell (p := ⟨g, i * p.sz + j, none⟩) al u, fun b hx => by
  rw [Below.heap_setCell _ _ _ _ (fun e => an (by rw [<- show b = g from e]; exact hx))]; exact h.kept b hx, h.old, h.le⟩
theorem abB.nil(h:abB W3 W base X ok V C)(p:Pth)(_hp:¬ok p):abB W3 W base X (fun q=>ok q∨q=p) (aaU V p (.slice none 0 0)) (aaU C p []):=by
 refine⟨h.rows.put p (row:=none) (by exact World.ownsRow_nil _ _ _ _) (fun cs ag=>absurd ag (Aao)) ⟨rfl,rfl,rfl,Aac _,fun _ _ _=>rfl⟩ (fun _ _ _ _ _ e=>by cases e) (fun k hk=>by cases hk),fun q hq k hk hx=>?_,h.low,h.kept,h.old,h.le⟩
 by_cases e:q=p
 . rw [e,aaj] at hk;cases hk
 . rw [aag _ _ e] at hk;exact h.off q (hq.resolve_right e) k hk hx
end
variable {bs:List DBlock}{b:Nat}
theorem aaT(hb:b<bs.length)(y:DBlock)(c:Nat):blkOf (bs.set b y) c=if c=b then y else blkOf bs c:=by
 unfold blkOf;rw [Aaf,Aaf,Aa5]
 by_cases e:b=c
 . subst e;rw [if_pos rfl,if_pos rfl,if_pos hb];rfl
 . rw [if_neg e,if_neg (fun h=>e h.symm)]
theorem aap(bs:List DBlock)(hb:b<bs.length):bs[b]?=some (blkOf bs b):=by
 unfold blkOf;rw [Aaf,Aaa hb];rfl
theorem akM{bs':List DBlock}(hl:bs'.length=bs.length)(h:∀b,(blkOf bs' b).phis.length=(blkOf bs b).phis.length∧(blkOf bs' b).list.length=(blkOf bs b).list.length)(q:Pth):okP bs' q↔okP bs q:=by
 cases q <;> simp [okP,hl,(h _).1,(h _).2]
theorem afs{bs':List DBlock}{V V':Pth->Value}(hl:bs'.length=bs.length)(h:∀b,b<bs.length->abd (blkOf bs' b) (V' (.phis b)) (V' (.list b)) (V' (.to b))=abd (blkOf bs b) (V (.phis b)) (V (.list b)) (V (.to b))):aae bs' V' .blks=aae bs V .blks:=by
 simp only [aae];apply Aap;intro i;rw [aai,aai]
 by_cases hi:i<bs.length
 . rw [Aaa hi,Aaa (by omega:i<bs'.length),Aaw,Aaw]
   have h1:=h i hi;rw [aa2 (Aaa (by omega:i<bs'.length)),aa2 (Aaa hi)] at h1;rw [h1]
 . rw [Aas (by omega),Aas (by omega)];rfl
theorem abV {α:Type}{l:List α}{i:Nat}{x:α}(h:l[i]?=some x):l.set i x=l:=by
 apply Aap;intro j;rw [Aa5]
 by_cases e:i=j
 . subst e;rw [if_pos rfl,if_pos (Aad.1 h).1,h]
 . rw [if_neg e]
def aeI(y:DBlock)(i:Nat)(l:List aay):DBlock:={ y with phis:=y.phis.set i ⟨(y.phis.getD i abu).dst,l⟩ }
def toB(y:DBlock)(j:Nat)(t:Int):DBlock:={ y with fin:={ y.fin with «to»:=y.fin.to.set j t } }
theorem ag8(y:DBlock)(i:Nat)(l:List aay):(aeI y i l).phis.length=y.phis.length:=by simp [aeI]
def okN(bs:List DBlock)(q:Pth):Prop:=okP bs q∨q = .vBlk
def elN(bs:List DBlock)(V:Pth->Value)(ns:List (List Value)):Pth->List (List Value):=aaU (aae bs V) .vBlk ns
theorem apv(hb:b<bs.length){y:DBlock}(h1:y.phis.length=(blkOf bs b).phis.length)(h2:y.list.length=(blkOf bs b).list.length)(c:Nat):(blkOf (bs.set b y) c).phis.length=(blkOf bs c).phis.length∧(blkOf (bs.set b y) c).list.length=(blkOf bs c).list.length:=by
 rw [aaT hb]
 by_cases e:c=b
 . subst e;rw [if_pos rfl];exact⟨h1,h2⟩
 . rw [if_neg e];exact⟨rfl,rfl⟩
theorem alR(hb:b<bs.length){y:DBlock}(h1:y.phis.length=(blkOf bs b).phis.length)(h2:y.list.length=(blkOf bs b).list.length)(q:Pth):okN (bs.set b y) q↔okN bs q:=by
 unfold okN;rw [akM (by simp) (apv hb h1 h2)]
section
variable {W3 W W' : World} {base : Nat} {X : Nat -> Prop} {bs : List DBlock} {V : Pth -> Value} {ns : List (List Value)}
theorem aeJ(bs:List DBlock)(V:Pth->Value)(ns:List (List Value)):elN bs V ns .vBlk=ns:=aaj _ _ _
theorem aaY {bs:List DBlock}{V:Pth->Value}{ns:List (List Value)}{q:Pth}(h:q ≠ .vBlk):elN bs V ns q=aae bs V q:=aag _ _ h
theorem abB.setSrc {b i g c n : Nat} (h : abB W3 W base X (okN bs) V (elN bs V ns)) (hb : b < bs.length) (hi : i < (blkOf bs b).phis.length) (hv : V (.phis b) = .slice (some ⟨g, 0, none⟩) n c)
 {v':Value} {l:List aay} (ho:W'.ownsRow base 41 2 v' l.length (l.map aaA).flatten) (hg:W.grownBy W' (V (.src b i)).ownBlock) (ah:∀k,v'.ownBlock=some k->(V (.src b i)).ownBlock=some k∨W.heap.size<=k) :
 abB W3 (W'.setCell ⟨g,i * 2+1,none⟩ v') base X (okN (bs.set b (aeI (blkOf bs b) i l))) (aaU V (.src b i) v') (elN (bs.set b (aeI (blkOf bs b) i l)) (aaU V (.src b i) v') ns):=by
 obtain⟨p,hp⟩:∃p,(blkOf bs b).phis[i]?=some p:=⟨_,Aaa hi⟩
 have ak:(blkOf bs b).phis.getD i abu=p:=by rw [Aaf,hp];rfl
 have h1 := h.turn (p := .src b i) (.inl hi) (v' := v') (xss := l.map aaA) (by rw [Aah]; exact ho) (fun cs ag => by
  obtain ⟨x, _, rfl⟩ := Aal.1 ag; rfl) hg ah
 have h2 := h1.set (p := .phis b) (.inl hb) (g := g) (n := n) (c := c) (i := i) (j := 1) (by rw [aag _ _ (by simp)]; exact hv) (cs := [.int .i64 p.dst, V (.src b i)]) (by
  rw [aag _ _ (by simp), aaY (by simp)]; simp only [aae]; rw [aai, hp]; rfl) (by simp [Pth.sz]) v'
 refine (h2.less (ok':=okN (bs.set b (aeI (blkOf bs b) i l))) fun q hq=>(alR hb (ag8 _ _ _) rfl q).1 hq).congr (fun q _=>rfl) (fun q hq=>?_);have af:∀c,blkOf (bs.set b (aeI (blkOf bs b) i l)) c=if c=b then aeI (blkOf bs b) i l else blkOf bs c:=aaT hb _
 have ad:blkOf (bs.set b (aeI (blkOf bs b) i l)) b=aeI (blkOf bs b) i l:=(af b).trans (if_pos rfl);have ae:∀c,¬c=b->blkOf (bs.set b (aeI (blkOf bs b) i l)) c=blkOf bs c:=fun c hc=>(af c).trans (if_neg hc);cases q with
 | vBlk=>rw [aeJ,aag _ _ (by simp),aag _ _ (by simp),aeJ]
 | blks =>
   rw [aaY (by simp),aag _ _ (by simp),aag _ _ (by simp),aaY (by simp)];refine afs (by simp) fun c hc=>?_;rw [af,aag _ _ (by simp),aag _ _ (by simp),aag _ _ (by simp)]
   by_cases e:c=b
   . subst e;rw [if_pos rfl];rfl
   . rw [if_neg e]
 | phis c =>
   rw [aaY (by simp)]
   by_cases e:c=b
   . subst e
     rw [aaj,aag _ _ (by simp),aaY (by simp)];simp only [aae];rw [ad];apply Aap;intro m;rw [aai,Aa5,Abf,aai];simp only [aeI,Aa5]
     by_cases em:i=m
     . subst em
       rw [if_pos rfl,if_pos hi,if_pos rfl,if_pos hi,Aaw,aaj,ak];rfl
     . rw [if_neg em,if_neg em]
       congr 1
       funext x
       rw [aag _ _ (by simp;omega)]
   . rw [aag _ _ (by simp [e]),aag _ _ (by simp),aaY (by simp)]
     simp only [aae];rw [ae c e];apply Aap;intro m;rw [aai,aai,aag _ _ (by simp [e])]
 | src c m =>
   rw [aaY (by simp),aag _ _ (by simp)]
   by_cases e:c=b∧m=i
   . obtain⟨rfl,rfl⟩:=e
     rw [aaj];simp only [aae];rw [ad];simp only [aeI];rw [Aaf,Aa6 hi];rfl
   . rw [aag _ _ (by simp;intro h1 h2;exact e ⟨h1,h2⟩),aaY (by simp)]
     simp only [aae]
     by_cases e1:c=b
     . subst e1
       rw [ad];simp only [aeI];rw [Aaf,Ack (fun h=>e ⟨rfl,h.symm⟩),<-Aaf]
     . rw [ae c e1]
 | list c =>
   rw [aaY (by simp),aag _ _ (by simp),aag _ _ (by simp),aaY (by simp)];simp only [aae]
   by_cases e:c=b
   . subst e;rw [ad];simp [aeI,aaU]
   . rw [ae c e];simp [aaU]
 | args c m =>
   rw [aaY (by simp),aag _ _ (by simp),aag _ _ (by simp),aaY (by simp)];simp only [aae]
   by_cases e:c=b
   . subst e;rw [ad];rfl
   . rw [ae c e]
 | «to» c =>
   rw [aaY (by simp),aag _ _ (by simp),aag _ _ (by simp),aaY (by simp)];simp only [aae]
   by_cases e:c=b
   . subst e;rw [ad];rfl
   . rw [ae c e]
 | vPhi=>rcases hq with h | h <;> cases h
 | vIns=>rcases hq with h | h <;> cases h
theorem abB.setTo {b j g c n:Nat}{t:Int}(h:abB W3 W base X (okN bs) V (elN bs V ns))(hb:b<bs.length)(hj:j<(blkOf bs b).fin.to.length)(hv:V (.to b) = .slice (some ⟨g,0,none⟩) n c) :
 abB W3 (W.setCell ⟨g,j,none⟩ (.int .i64 t)) base X (okN (bs.set b (toB (blkOf bs b) j t))) V (elN (bs.set b (toB (blkOf bs b) j t)) V ns):=by
 have h2 := h.set (p := .to b) (.inl hb) (g := g) (n := n) (c := c) (i := j) (j := 0) hv (cs := [.int .i64 ((blkOf bs b).fin.to[j])]) (by
  rw [aaY (by simp)]; simp only [aae]; rw [Aak, Aaa hj]; rfl) (by simp [Pth.sz]) (.int .i64 t)
 have e0:j * Pth.sz (.to b)+0=j:=by simp [Pth.sz]
 rw [e0] at h2;refine (h2.less (ok':=okN (bs.set b (toB (blkOf bs b) j t))) fun q hq=>(alR (y:=toB (blkOf bs b) j t) hb rfl rfl q).1 hq).congr (fun q _=>rfl) (fun q hq=>?_);have af:∀c,blkOf (bs.set b (toB (blkOf bs b) j t)) c=if c=b then toB (blkOf bs b) j t else blkOf bs c:=aaT hb _
 have ad:blkOf (bs.set b (toB (blkOf bs b) j t)) b=toB (blkOf bs b) j t:=(af b).trans (if_pos rfl);have ae:∀c,¬c=b->blkOf (bs.set b (toB (blkOf bs b) j t)) c=blkOf bs c:=fun c hc=>(af c).trans (if_neg hc);cases q with
 | vBlk=>rw [aeJ,aag _ _ (by simp),aeJ]
 | blks =>
   rw [aaY (by simp),aag _ _ (by simp),aaY (by simp)];refine afs (by simp) fun c hc=>?_;rw [af]
   by_cases e:c=b
   . subst e;rw [if_pos rfl];rfl
   . rw [if_neg e]
 | «to» c =>
   rw [aaY (by simp)]
   by_cases e:c=b
   . subst e
     rw [aaj,aaY (by simp)];simp only [aae];rw [ad];simp only [toB];rw [List.map_set];rfl
   . rw [aag _ _ (by simp [e]),aaY (by simp)]
     simp only [aae];rw [ae c e]
 | phis c =>
   rw [aaY (by simp),aag _ _ (by simp),aaY (by simp)];simp only [aae]
   by_cases e:c=b
   . subst e;rw [ad];rfl
   . rw [ae c e]
 | src c m =>
   rw [aaY (by simp),aag _ _ (by simp),aaY (by simp)];simp only [aae]
   by_cases e:c=b
   . subst e;rw [ad];rfl
   . rw [ae c e]
 | list c =>
   rw [aaY (by simp),aag _ _ (by simp),aaY (by simp)];simp only [aae]
   by_cases e:c=b
   . subst e;rw [ad];rfl
   . rw [ae c e]
 | args c m =>
   rw [aaY (by simp),aag _ _ (by simp),aaY (by simp)];simp only [aae]
   by_cases e:c=b
   . subst e;rw [ad];rfl
   . rw [ae c e]
 | vPhi=>rcases hq with h | h <;> cases h
 | vIns=>rcases hq with h | h <;> cases h
theorem abB.addBlk(h:abB W3 W base X (okN bs) V (elN bs V ns)){v':Value}{cs:List Value}(ag:cs.length=6)(ho:W'.ownsRow base 46 6 v' (ns.length+1) (ns.flatten++cs))(hg:W.grownBy W' (V .vBlk).ownBlock)(ah:∀k,v'.ownBlock=some k->(V .vBlk).ownBlock=some k∨W.heap.size<=k) :
 abB W3 W' base X (okN bs) (aaU V .vBlk v') (elN bs (aaU V .vBlk v') (ns++[cs])):=by
 have hw:=h.rows.wid .vBlk (.inr rfl);rw [aeJ] at hw
 have h1 := h.turn (p := .vBlk) (.inr rfl) (v' := v') (xss := ns ++ [cs]) (by rw [Aau, Abs, List.flatten_singleton, List.length_singleton]; exact ho) (fun x hx => by
  rcases Aa7.1 hx with h1 | h1
  . exact hw x h1
  . rw [Aax.1 h1]; exact ag) hg ah
 refine h1.congr (fun q _=>rfl) (fun q hq=>?_)
 by_cases e:q = .vBlk
 . subst e;rw [aeJ,aaj]
 . rw [aaY e,aag _ _ e,aaY e]
   cases q <;> first | (simp [aae,aaU];done) | exact absurd rfl e
end
end Go.Proofs.YtpeejlpcikefcaaGreatDoor
