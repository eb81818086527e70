/- The rows of a function that is worked upon in place, against a world at which the work began; what of a function one write turns. -/
import Derived.Test.YtnkogppgacappaaGreatDoorPGCopyL
namespace Go.Proofs.YtnkogppgacappaaGreatDoor
open Go.RowKit

structure Kp (F:Nat→Prop)(w w':World):Prop where
 os:w'.os=w.os
 tape:w'.tape=w.tape
 output:w'.output=w.output
 size:w.heap.size≤w'.heap.size
 block:∀b,b<w.heap.size→F b→w'.heap[b]?=w.heap[b]?
section
variable {F : Nat → Prop} {w w' w'' : World}
theorem Kp.refl(F:Nat→Prop)(w:World):Kp F w w:=⟨rfl,rfl,rfl,Nat.le_refl _,fun _ _ _=>rfl⟩
theorem Kp.trans(h:Kp F w w')(k:Kp F w' w''):Kp F w w'':=⟨k.os.trans h.os,k.tape.trans h.tape,k.output.trans h.output,Nat.le_trans h.size k.size,fun b hb hf=>(k.block b (Nat.lt_of_lt_of_le hb h.size) hf).trans (h.block b hb hf)⟩
theorem Kp.of(h:Below w.heap.size w w'):Kp F w w':=⟨h.os,h.tape,h.output,h.size,fun b hb _=>h.block b hb⟩
theorem Kp.less {G:Nat→Prop}(h:Kp F w w')(hg:∀b,G b→F b):Kp G w w':=⟨h.os,h.tape,h.output,h.size,fun b hb hf=>h.block b hb (hg b hf)⟩
theorem Kp.set(h:Kp F w w'){a:Addr}(ha:¬F a.block)(u:Value):Kp F w (w'.setCell a u) :=
 ⟨h.os, h.tape, h.output, by simpa [World.setCell] using h.size, fun b hb hf => by
   rw [Below.heap_setCell _ _ _ _ (fun e => ha (by rw [← e]; exact hf))]; exact h.block b hb hf⟩
theorem Kp.setNew(h:Kp F w w'){a:Addr}(ha:w.heap.size≤a.block)(u:Value):Kp F w (w'.setCell a u) :=
 ⟨h.os, h.tape, h.output, by simpa [World.setCell] using h.size, fun b hb hf => by
   rw [Below.heap_setCell _ _ _ _ (by omega)]; exact h.block b hb hf⟩
theorem Kp.cell(h:Kp F w w'){b o:Nat}{u:Value}(hb:F b)(hc:w.cell? ⟨b,o,none⟩=some u):w'.cell? ⟨b,o,none⟩=some u:=by
 rw [World.cell?_of_block (w:=w) (a:=⟨b,o,none⟩) (h.block b (cell_lt hc) hb)];exact hc
theorem Kp.frozen(h:Kp F w w'){b o:Nat}{x:Bool}(hb:F b)(hl:b<w.heap.size)(hc:w.frozen? ⟨b,o,none⟩=x):w'.frozen? ⟨b,o,none⟩=x:=by
 rw [World.frozen?_of_block (w:=w) (a:=⟨b,o,none⟩) (h.block b hl hb)];exact hc
theorem Kp.stays(h:Kp F w w'){S:Nat→Prop}(hS:∀b,S b→F b):Stays S w w':=fun _ _ _ hb hc=>h.cell (hS _ hb) hc
theorem Kp.below(h:Kp F w w'){B:Nat}(hB:∀b,b<B→b<w.heap.size∧F b):Below B w w':=⟨h.os,h.tape,h.output,h.size,fun b hb=>h.block b (hB b hb).1 (hB b hb).2⟩
end
structure RwSt (W3 W:World)(base:Nat)(X:Nat→Prop)(ok:Pth→Prop)(V:Pth→Value)(C:Pth→List (List Value)):Prop where
 rows:RowsAt W base ok V C
 off:∀p,ok p→∀k,(V p).ownBlock=some k→¬X k
 low:Below base W3 W
 kept:∀b,X b→W.heap[b]?=W3.heap[b]?
 old:∀b,X b→b<W3.heap.size
 le:base≤W3.heap.size
section
variable {W3 W W' : World} {base : Nat} {X : Nat → Prop} {ok : Pth → Prop} {V : Pth → Value} {C : Pth → List (List Value)}
theorem RwSt.start(h:RowsAt W base ok V C)(hX:∀b,X b→b<W.heap.size)(off:∀p,ok p→∀k,(V p).ownBlock=some k→¬X k)(hb:base≤W.heap.size):RwSt W W base X ok V C :=
 ⟨h,off,Below.refl _ _,fun _ _=>rfl,hX,hb⟩
theorem RwSt.base_le(h:RwSt W3 W base X ok V C):base≤W.heap.size:=Nat.le_trans h.le h.low.size
theorem RwSt.x_lt(h:RwSt W3 W base X ok V C){b:Nat}(hb:X b):b<W.heap.size:=Nat.lt_of_lt_of_le (h.old b hb) h.low.size
theorem RwSt.later(h:RwSt W3 W base X ok V C)(hb:Below W.heap.size W W'):RwSt W3 W' base X ok V C :=
 ⟨h.rows.later hb,h.off,h.low.trans (hb.mono h.base_le),fun b hx=>(hb.block b (h.x_lt hx)).trans (h.kept b hx),h.old,h.le⟩
theorem RwSt.trans {W4:World}{X':Nat→Prop}{ok':Pth→Prop}{V':Pth→Value}{C':Pth→List (List Value)}(h:RwSt W3 W4 base X ok V C)(k:RwSt W4 W base X' ok' V' C')(hX:∀b,X b→X' b):RwSt W3 W base X ok' V' C' :=
 ⟨k.rows,fun p hp b hb hx=>k.off p hp b hb (hX b hx),h.low.trans k.low,fun b hx=>(k.kept b (hX b hx)).trans (h.kept b hx),h.old,h.le⟩
theorem RwSt.less(h:RwSt W3 W base X ok V C){ok':Pth→Prop}(ho:∀p,ok' p→ok p):RwSt W3 W base X ok' V C :=
 ⟨h.rows.less ho,fun p hp=>h.off p (ho p hp),h.low,h.kept,h.old,h.le⟩
theorem RwSt.congr(h:RwSt W3 W base X ok V C){V':Pth→Value}{C':Pth→List (List Value)}(hV:∀p,ok p→V' p=V p)(hC:∀p,ok p→C' p=C p):RwSt W3 W base X ok V' C' :=
 ⟨h.rows.congr hV hC,fun p hp k hk=>h.off p hp k (by rw [←hV p hp];exact hk),h.low,h.kept,h.old,h.le⟩
theorem RwSt.cell(h:RwSt W3 W base X ok V C){b o:Nat}(hb:X b){u:Value}(hc:W3.cell? ⟨b,o,none⟩=some u):W.cell? ⟨b,o,none⟩=some u:=by
 rw [World.cell?_of_block (w:=W3) (a:=⟨b,o,none⟩) (h.kept b hb)];exact hc
theorem RwSt.stays(h:RwSt W3 W base X ok V C){S:Nat→Prop}(hS:∀b,S b→X b):Stays S W3 W:=fun _ _ _ hb hc=>h.cell (hS _ hb) hc
theorem RwSt.keep(h:RwSt W3 W base X ok V C){X':Nat→Prop}(hX:∀b,X' b→b<W.heap.size)(off:∀p,ok p→∀k,(V p).ownBlock=some k→¬X' k):RwSt W W base X' ok V C:=RwSt.start h.rows hX off h.base_le
theorem RwSt.turn (h : RwSt W3 W base X ok V C) {p : Pth} (hp : ok p) {v' : Value} {xss : List (List Value)} (ho : W'.ownsRow base p.ty p.sz v' xss.length xss.flatten) (hw : ∀ cs ∈ xss, cs.length = p.sz)
 (hg:W.grownBy W' (V p).ownBlock) (hb:∀k,v'.ownBlock=some k→(V p).ownBlock=some k∨W.heap.size≤k):RwSt W3 W' base X ok (updP V p v') (updP C p xss):=by
 refine⟨h.rows.turn hp ho hw hg hb,fun q hq k hk hx=>?_,?_,fun b hx=>?_,h.old,h.le⟩
 · by_cases e:q=p
   · rw [e,updP_self] at hk
     rcases hb k hk with h1 | h1
     · exact h.off p hp k h1 hx
     · have:=h.x_lt hx;omega
   · rw [updP_ne _ _ e] at hk;exact h.off q hq k hk hx
 · have hlow:Below base W W:=Below.refl _ _
   exact h.low.trans (hlow.grown hg h.base_le (fun k hk=>(h.rows.lt hp k hk).1))
 · rw [hg.block b (h.x_lt hx) (fun e=>h.off p hp b e.symm hx)];exact h.kept b hx
theorem RwSt.set(h:RwSt W3 W base X ok V C){p:Pth}(hp:ok p){g n c i j:Nat}(hv:V p = .slice (some ⟨g,0,none⟩) n c){cs:List Value}(hi:(C p)[i]?=some cs)(hj:j<p.sz)(u:Value) :
 RwSt W3 (W.setCell ⟨g,i * p.sz+j,none⟩ u) base X ok V (updP C p ((C p).set i (cs.set j u))):=by
 have hgx:¬X g:=h.off p hp g (by rw [hv];rfl);have hgb:base≤g:=(h.rows.lt hp g (by rw [hv];rfl)).1
 exact ⟨h.rows.set hp hv hi hj u, h.off, h.low.setCell (p := ⟨g, i * p.sz + j, none⟩) hgb u, fun b hx => by
  rw [Below.heap_setCell _ _ _ _ (fun e => hgx (by rw [← show b = g from e]; exact hx))]; exact h.kept b hx, h.old, h.le⟩
theorem RwSt.nil(h:RwSt W3 W base X ok V C)(p:Pth)(_hp:¬ok p):RwSt W3 W base X (fun q=>ok q∨q=p) (updP V p (.slice none 0 0)) (updP C p []):=by
 refine⟨h.rows.put p (row:=none) (by exact World.ownsRow_nil _ _ _ _) (fun cs hcs=>absurd hcs (List.not_mem_nil)) ⟨rfl,rfl,rfl,Nat.le_refl _,fun _ _ _=>rfl⟩ (fun _ _ _ _ _ e=>by cases e) (fun k hk=>by cases hk),fun q hq k hk hx=>?_,h.low,h.kept,h.old,h.le⟩
 by_cases e:q=p
 · rw [e,updP_self] at hk;cases hk
 · rw [updP_ne _ _ e] at hk;exact h.off q (hq.resolve_right e) k hk hx
end

theorem blkOf_set {bs:List DBlock}{b:Nat}(hb:b<bs.length)(y:DBlock)(c:Nat):blkOf (bs.set b y) c=if c=b then y else blkOf bs c:=by
 unfold blkOf;rw [List.getD_eq_getElem?_getD,List.getD_eq_getElem?_getD,List.getElem?_set]
 by_cases e:b=c
 · subst e;rw [if_pos rfl,if_pos rfl,if_pos hb];rfl
 · rw [if_neg e,if_neg (fun h=>e h.symm)]
theorem blkOf_self(bs:List DBlock){b:Nat}(hb:b<bs.length):bs[b]?=some (blkOf bs b):=by
 unfold blkOf;rw [List.getD_eq_getElem?_getD,List.getElem?_eq_getElem hb];rfl
theorem okP_shape {bs bs':List DBlock}(hl:bs'.length=bs.length)(h:∀b,(blkOf bs' b).phis.length=(blkOf bs b).phis.length∧(blkOf bs' b).list.length=(blkOf bs b).list.length)(q:Pth):okP bs' q↔okP bs q:=by
 cases q <;> simp [okP,hl,(h _).1,(h _).2]
theorem elemsP_blks {bs bs':List DBlock}{V V':Pth→Value}(hl:bs'.length=bs.length)(h:∀b,b<bs.length→cellsB (blkOf bs' b) (V' (.phis b)) (V' (.list b)) (V' (.to b))=cellsB (blkOf bs b) (V (.phis b)) (V (.list b)) (V (.to b))):elemsP bs' V' .blks=elemsP bs V .blks:=by
 simp only [elemsP];apply List.ext_getElem?;intro i;rw [mapIdx_at,mapIdx_at]
 by_cases hi:i<bs.length
 · rw [List.getElem?_eq_getElem hi,List.getElem?_eq_getElem (by omega:i<bs'.length),Option.map_some,Option.map_some]
   have h1:=h i hi;rw [blkOf_at (List.getElem?_eq_getElem (by omega:i<bs'.length)),blkOf_at (List.getElem?_eq_getElem hi)] at h1;rw [h1]
 · rw [List.getElem?_eq_none (by omega),List.getElem?_eq_none (by omega)];rfl
theorem list_set_self {α:Type}{l:List α}{i:Nat}{x:α}(h:l[i]?=some x):l.set i x=l:=by
 apply List.ext_getElem?;intro j;rw [List.getElem?_set]
 by_cases e:i=j
 · subst e;rw [if_pos rfl,if_pos (List.getElem?_eq_some_iff.1 h).1,h]
 · rw [if_neg e]

def srcB(y:DBlock)(i:Nat)(l:List DVal):DBlock:={ y with phis:=y.phis.set i ⟨(y.phis.getD i noPhiP).dst,l⟩ }
def toB(y:DBlock)(j:Nat)(t:Int):DBlock:={ y with fin:={ y.fin with «to»:=y.fin.to.set j t } }
theorem srcB_len(y:DBlock)(i:Nat)(l:List DVal):(srcB y i l).phis.length=y.phis.length:=by simp [srcB]
def okN(bs:List DBlock)(q:Pth):Prop:=okP bs q∨q = .vBlk
def elN(bs:List DBlock)(V:Pth→Value)(ns:List (List Value)):Pth→List (List Value):=updP (elemsP bs V) .vBlk ns
theorem set_shape {bs:List DBlock}{b:Nat}(hb:b<bs.length){y:DBlock}(h1:y.phis.length=(blkOf bs b).phis.length)(h2:y.list.length=(blkOf bs b).list.length)(c:Nat):(blkOf (bs.set b y) c).phis.length=(blkOf bs c).phis.length∧(blkOf (bs.set b y) c).list.length=(blkOf bs c).list.length:=by
 rw [blkOf_set hb]
 by_cases e:c=b
 · subst e;rw [if_pos rfl];exact⟨h1,h2⟩
 · rw [if_neg e];exact⟨rfl,rfl⟩
theorem okN_set {bs:List DBlock}{b:Nat}(hb:b<bs.length){y:DBlock}(h1:y.phis.length=(blkOf bs b).phis.length)(h2:y.list.length=(blkOf bs b).list.length)(q:Pth):okN (bs.set b y) q↔okN bs q:=by
 unfold okN;rw [okP_shape (by simp) (set_shape hb h1 h2)]

section
variable {W3 W W' : World} {base : Nat} {X : Nat → Prop} {bs : List DBlock} {V : Pth → Value} {ns : List (List Value)}
theorem elN_blk(bs:List DBlock)(V:Pth→Value)(ns:List (List Value)):elN bs V ns .vBlk=ns:=updP_self _ _ _
theorem elN_ne {bs:List DBlock}{V:Pth→Value}{ns:List (List Value)}{q:Pth}(h:q ≠ .vBlk):elN bs V ns q=elemsP bs V q:=updP_ne _ _ h
theorem RwSt.setSrc {b i g c n : Nat} (h : RwSt W3 W base X (okN bs) V (elN bs V ns)) (hb : b < bs.length) (hi : i < (blkOf bs b).phis.length) (hv : V (.phis b) = .slice (some ⟨g, 0, none⟩) n c)
 {v':Value} {l:List DVal} (ho:W'.ownsRow base 72 2 v' l.length (l.map cellsV).flatten) (hg:W.grownBy W' (V (.src b i)).ownBlock) (hbk:∀k,v'.ownBlock=some k→(V (.src b i)).ownBlock=some k∨W.heap.size≤k) :
 RwSt W3 (W'.setCell ⟨g,i * 2+1,none⟩ v') base X (okN (bs.set b (srcB (blkOf bs b) i l))) (updP V (.src b i) v') (elN (bs.set b (srcB (blkOf bs b) i l)) (updP V (.src b i) v') ns):=by
 obtain⟨p,hp⟩:∃p,(blkOf bs b).phis[i]?=some p:=⟨_,List.getElem?_eq_getElem hi⟩
 have hpo:(blkOf bs b).phis.getD i noPhiP=p:=by rw [List.getD_eq_getElem?_getD,hp];rfl
 have h1 := h.turn (p := .src b i) (.inl hi) (v' := v') (xss := l.map cellsV) (by rw [List.length_map]; exact ho) (fun cs hcs => by
  obtain ⟨x, _, rfl⟩ := List.mem_map.1 hcs; rfl) hg hbk
 have h2 := h1.set (p := .phis b) (.inl hb) (g := g) (n := n) (c := c) (i := i) (j := 1) (by rw [updP_ne _ _ (by simp)]; exact hv) (cs := [.int .i64 p.dst, V (.src b i)]) (by
  rw [updP_ne _ _ (by simp), elN_ne (by simp)]; simp only [elemsP]; rw [mapIdx_at, hp]; rfl) (by simp [Pth.sz]) v'
 refine (h2.less (ok':=okN (bs.set b (srcB (blkOf bs b) i l))) fun q hq=>(okN_set hb (srcB_len _ _ _) rfl q).1 hq).congr (fun q _=>rfl) (fun q hq=>?_);have hbo:∀c,blkOf (bs.set b (srcB (blkOf bs b) i l)) c=if c=b then srcB (blkOf bs b) i l else blkOf bs c:=blkOf_set hb _
 have hbs:blkOf (bs.set b (srcB (blkOf bs b) i l)) b=srcB (blkOf bs b) i l:=(hbo b).trans (if_pos rfl);have hbn:∀c,¬c=b→blkOf (bs.set b (srcB (blkOf bs b) i l)) c=blkOf bs c:=fun c hc=>(hbo c).trans (if_neg hc);cases q with
 | vBlk=>rw [elN_blk,updP_ne _ _ (by simp),updP_ne _ _ (by simp),elN_blk]
 | blks =>
   rw [elN_ne (by simp),updP_ne _ _ (by simp),updP_ne _ _ (by simp),elN_ne (by simp)];refine elemsP_blks (by simp) fun c hc=>?_;rw [hbo,updP_ne _ _ (by simp),updP_ne _ _ (by simp),updP_ne _ _ (by simp)]
   by_cases e:c=b
   · subst e;rw [if_pos rfl];rfl
   · rw [if_neg e]
 | phis c =>
   rw [elN_ne (by simp)]
   by_cases e:c=b
   · subst e
     rw [updP_self,updP_ne _ _ (by simp),elN_ne (by simp)];simp only [elemsP];rw [hbs];apply List.ext_getElem?;intro m;rw [mapIdx_at,List.getElem?_set,List.length_mapIdx,mapIdx_at];simp only [srcB,List.getElem?_set]
     by_cases em:i=m
     · subst em
       rw [if_pos rfl,if_pos hi,if_pos rfl,if_pos hi,Option.map_some,updP_self,hpo];rfl
     · rw [if_neg em,if_neg em]
       congr 1
       funext x
       rw [updP_ne _ _ (by simp;omega)]
   · rw [updP_ne _ _ (by simp [e]),updP_ne _ _ (by simp),elN_ne (by simp)]
     simp only [elemsP];rw [hbn c e];apply List.ext_getElem?;intro m;rw [mapIdx_at,mapIdx_at,updP_ne _ _ (by simp [e])]
 | src c m =>
   rw [elN_ne (by simp),updP_ne _ _ (by simp)]
   by_cases e:c=b∧m=i
   · obtain⟨rfl,rfl⟩:=e
     rw [updP_self];simp only [elemsP];rw [hbs];simp only [srcB];rw [List.getD_eq_getElem?_getD,List.getElem?_set_self hi];rfl
   · rw [updP_ne _ _ (by simp;intro h1 h2;exact e ⟨h1,h2⟩),elN_ne (by simp)]
     simp only [elemsP]
     by_cases e1:c=b
     · subst e1
       rw [hbs];simp only [srcB];rw [List.getD_eq_getElem?_getD,List.getElem?_set_ne (fun h=>e ⟨rfl,h.symm⟩),←List.getD_eq_getElem?_getD]
     · rw [hbn c e1]
 | list c =>
   rw [elN_ne (by simp),updP_ne _ _ (by simp),updP_ne _ _ (by simp),elN_ne (by simp)];simp only [elemsP]
   by_cases e:c=b
   · subst e;rw [hbs];simp [srcB,updP]
   · rw [hbn c e];simp [updP]
 | args c m =>
   rw [elN_ne (by simp),updP_ne _ _ (by simp),updP_ne _ _ (by simp),elN_ne (by simp)];simp only [elemsP]
   by_cases e:c=b
   · subst e;rw [hbs];rfl
   · rw [hbn c e]
 | «to» c =>
   rw [elN_ne (by simp),updP_ne _ _ (by simp),updP_ne _ _ (by simp),elN_ne (by simp)];simp only [elemsP]
   by_cases e:c=b
   · subst e;rw [hbs];rfl
   · rw [hbn c e]
 | vPhi=>rcases hq with h | h <;> cases h
 | vIns=>rcases hq with h | h <;> cases h
theorem RwSt.setTo {b j g c n:Nat}{t:Int}(h:RwSt W3 W base X (okN bs) V (elN bs V ns))(hb:b<bs.length)(hj:j<(blkOf bs b).fin.to.length)(hv:V (.to b) = .slice (some ⟨g,0,none⟩) n c) :
 RwSt W3 (W.setCell ⟨g,j,none⟩ (.int .i64 t)) base X (okN (bs.set b (toB (blkOf bs b) j t))) V (elN (bs.set b (toB (blkOf bs b) j t)) V ns):=by
 have h2 := h.set (p := .to b) (.inl hb) (g := g) (n := n) (c := c) (i := j) (j := 0) hv (cs := [.int .i64 ((blkOf bs b).fin.to[j])]) (by
  rw [elN_ne (by simp)]; simp only [elemsP]; rw [List.getElem?_map, List.getElem?_eq_getElem hj]; rfl) (by simp [Pth.sz]) (.int .i64 t)
 have e0:j * Pth.sz (.to b)+0=j:=by simp [Pth.sz]
 rw [e0] at h2;refine (h2.less (ok':=okN (bs.set b (toB (blkOf bs b) j t))) fun q hq=>(okN_set (y:=toB (blkOf bs b) j t) hb rfl rfl q).1 hq).congr (fun q _=>rfl) (fun q hq=>?_);have hbo:∀c,blkOf (bs.set b (toB (blkOf bs b) j t)) c=if c=b then toB (blkOf bs b) j t else blkOf bs c:=blkOf_set hb _
 have hbs:blkOf (bs.set b (toB (blkOf bs b) j t)) b=toB (blkOf bs b) j t:=(hbo b).trans (if_pos rfl);have hbn:∀c,¬c=b→blkOf (bs.set b (toB (blkOf bs b) j t)) c=blkOf bs c:=fun c hc=>(hbo c).trans (if_neg hc);cases q with
 | vBlk=>rw [elN_blk,updP_ne _ _ (by simp),elN_blk]
 | blks =>
   rw [elN_ne (by simp),updP_ne _ _ (by simp),elN_ne (by simp)];refine elemsP_blks (by simp) fun c hc=>?_;rw [hbo]
   by_cases e:c=b
   · subst e;rw [if_pos rfl];rfl
   · rw [if_neg e]
 | «to» c =>
   rw [elN_ne (by simp)]
   by_cases e:c=b
   · subst e
     rw [updP_self,elN_ne (by simp)];simp only [elemsP];rw [hbs];simp only [toB];rw [List.map_set];rfl
   · rw [updP_ne _ _ (by simp [e]),elN_ne (by simp)]
     simp only [elemsP];rw [hbn c e]
 | phis c =>
   rw [elN_ne (by simp),updP_ne _ _ (by simp),elN_ne (by simp)];simp only [elemsP]
   by_cases e:c=b
   · subst e;rw [hbs];rfl
   · rw [hbn c e]
 | src c m =>
   rw [elN_ne (by simp),updP_ne _ _ (by simp),elN_ne (by simp)];simp only [elemsP]
   by_cases e:c=b
   · subst e;rw [hbs];rfl
   · rw [hbn c e]
 | list c =>
   rw [elN_ne (by simp),updP_ne _ _ (by simp),elN_ne (by simp)];simp only [elemsP]
   by_cases e:c=b
   · subst e;rw [hbs];rfl
   · rw [hbn c e]
 | args c m =>
   rw [elN_ne (by simp),updP_ne _ _ (by simp),elN_ne (by simp)];simp only [elemsP]
   by_cases e:c=b
   · subst e;rw [hbs];rfl
   · rw [hbn c e]
 | vPhi=>rcases hq with h | h <;> cases h
 | vIns=>rcases hq with h | h <;> cases h
theorem RwSt.addBlk(h:RwSt W3 W base X (okN bs) V (elN bs V ns)){v':Value}{cs:List Value}(hcs:cs.length=6)(ho:W'.ownsRow base 76 6 v' (ns.length+1) (ns.flatten++cs))(hg:W.grownBy W' (V .vBlk).ownBlock)(hbk:∀k,v'.ownBlock=some k→(V .vBlk).ownBlock=some k∨W.heap.size≤k) :
 RwSt W3 W' base X (okN bs) (updP V .vBlk v') (elN bs (updP V .vBlk v') (ns++[cs])):=by
 have hw:=h.rows.wid .vBlk (.inr rfl);rw [elN_blk] at hw
 have h1 := h.turn (p := .vBlk) (.inr rfl) (v' := v') (xss := ns ++ [cs]) (by rw [List.length_append, List.flatten_append, List.flatten_singleton, List.length_singleton]; exact ho) (fun x hx => by
  rcases List.mem_append.1 hx with h1 | h1
  · exact hw x h1
  · rw [List.mem_singleton.1 h1]; exact hcs) hg hbk
 refine h1.congr (fun q _=>rfl) (fun q hq=>?_)
 by_cases e:q = .vBlk
 · subst e;rw [elN_blk,updP_self]
 · rw [elN_ne e,updP_ne _ _ e,elN_ne e]
   cases q <;> first | (simp [elemsP,updP];done) | exact absurd rfl e
end

end Go.Proofs.YtnkogppgacappaaGreatDoor
