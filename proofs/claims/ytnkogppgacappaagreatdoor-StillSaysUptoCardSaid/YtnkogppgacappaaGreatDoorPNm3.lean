/- tidy's namer: plain, and in memory. tidy.NamesOf, plain. tidy.NamesOf: what of a function its second pass writes, in memory. tidy.NamesOf: a block on its way through the second pass. -/
import Derived.Test.YtnkogppgacappaaGreatDoorPChains
namespace Go.Proofs.YtnkogppgacappaaGreatDoor
open Go.RowKit

structure Nm where
 now:List Int
 many:Int
def nmS(s:Nm)(r:Int):Nm:=if s.now.getD r.toNat 0<0 then ⟨s.now.set r.toNat s.many,s.many+1⟩ else s
def nmR(s:Nm)(r:Int):Int:=(nmS s r).now.getD r.toNat 0
def valS(s:Nm)(v:DVal):Nm:=if v.reg then nmS s v.n else s
def valW(s:Nm)(v:DVal):DVal:=if v.reg then ⟨true,nmR s v.n⟩ else v
structure NmOk (n:Nat)(s:Nm):Prop where
 len:s.now.length=n
 lo:∀x∈s.now,-1≤x∧x<s.many
 cnt:s.many=(s.now.countP (fun x=>decide (0≤x)):Nat)
theorem NmOk.many_le {n:Nat}{s:Nm}(h:NmOk n s):0≤s.many∧s.many≤n:=by
 have:=h.cnt;have h2:=List.countP_le_length (p:=fun x:Int=>decide (0≤x)) (l:=s.now);have:=h.len;omega
theorem countP_set_one {p : Int → Bool} : ∀ {l : List Int} {i : Nat} {x y : Int}, l[i]? = some x → p x = false → p y = true → (l.set i y).countP p = l.countP p + 1
 | [],_,_,_,h,_,_=>by simp at h
 | a :: l,0,x,y,h,h1,h2=>by
   have e:a=x:=by simpa using h
   subst e;rw [List.set_cons_zero,List.countP_cons,List.countP_cons,h1,h2];simp
 | a :: l,i+1,x,y,h,h1,h2=>by
   rw [List.set_cons_succ,List.countP_cons,List.countP_cons,countP_set_one (by simpa using h) h1 h2];omega
theorem NmOk.room {n:Nat}{s:Nm}(h:NmOk n s){r:Nat}(hr:r<n)(h0:s.now.getD r 0<0):s.many<n:=by
 have hg:s.now[r]?=some (s.now.getD r 0):=by rw [List.getD_eq_getElem?_getD,List.getElem?_eq_getElem (by rw [h.len];exact hr)];rfl
 have h1:=countP_set_one (p:=fun x:Int=>decide (0≤x)) (y:=0) hg (decide_eq_false (by omega)) (decide_eq_true (Int.le_refl _));have h2:=List.countP_le_length (p:=fun x:Int=>decide (0≤x)) (l:=s.now.set r 0);rw [List.length_set] at h2;have:=h.cnt;have:=h.len;omega
theorem NmOk.step {n:Nat}{s:Nm}(h:NmOk n s){r:Int}(hr:0≤r∧r<n):NmOk n (nmS s r):=by
 unfold nmS
 by_cases h0:s.now.getD r.toNat 0<0
 · rw [if_pos h0]
   have hg:s.now[r.toNat]?=some (s.now.getD r.toNat 0):=by rw [List.getD_eq_getElem?_getD,List.getElem?_eq_getElem (by rw [h.len];omega)];rfl
   have hm:=h.many_le;refine⟨by rw [List.length_set];exact h.len,fun x hx=>?_,?_⟩
   · rcases List.mem_or_eq_of_mem_set hx with h1 | h1
     · have:=h.lo x h1
       show -1≤x∧x<s.many+1;omega
     · subst h1
       show -1≤s.many∧s.many<s.many+1;omega
   · show s.many+1=((s.now.set r.toNat s.many).countP _:Nat)
     rw [countP_set_one hg (decide_eq_false (by omega)) (decide_eq_true (by omega))];have:=h.cnt;omega
 · rw [if_neg h0];exact h
theorem nmR_at {n:Nat}{s:Nm}(h:NmOk n s){r:Int}(hr:0≤r∧r<n):0≤nmR s r∧nmR s r<(nmS s r).many∧(nmS s r).now[r.toNat]?=some (nmR s r):=by
 have h2:=h.step hr;have hg:(nmS s r).now[r.toNat]?=some (nmR s r):=by
  unfold nmR;rw [List.getD_eq_getElem?_getD,List.getElem?_eq_getElem (by rw [h2.len];omega)];rfl
 refine⟨?_,(h2.lo _ (List.mem_of_getElem? hg)).2,hg⟩;unfold nmR nmS
 by_cases h0:s.now.getD r.toNat 0<0
 · rw [if_pos h0]
   show 0≤(s.now.set r.toNat s.many).getD r.toNat 0;rw [List.getD_eq_getElem?_getD,List.getElem?_set_self (by rw [h.len];omega)];exact h.many_le.1
 · rw [if_neg h0];omega
def InV(n:Nat)(v:DVal):Prop:=v.reg=true→0≤v.n∧v.n<n
structure NmSt (W:World)(T NB n:Nat)(s:Nm):Prop where
 row:W.heap[T]?=some (.cells (s.now.map (Value.int .i64)).toArray 3 (0,0))
 box:W.heap[NB]?=some (.cells #[.slice (some ⟨T,0,none⟩) n n,.int .i64 s.many] 154 (0,0))
 ok:NmOk n s
def NmF(T NB:Nat)(b:Nat):Prop:=b≠T∧b≠NB
theorem NmSt.later {W W':World}{T NB n:Nat}{s:Nm}(h:NmSt W T NB n s){F:Nat→Prop}(hk:Kp F W W')(h1:F T)(h2:F NB):NmSt W' T NB n s :=
 ⟨(hk.block T (Array.getElem?_eq_some_iff.1 h.row).1 h1).trans h.row,(hk.block NB (Array.getElem?_eq_some_iff.1 h.box).1 h2).trans h.box,h.ok⟩
theorem NmSt.live {W:World}{T NB n:Nat}{s:Nm}(h:NmSt W T NB n s):T<W.heap.size∧NB<W.heap.size:=⟨(Array.getElem?_eq_some_iff.1 h.row).1,(Array.getElem?_eq_some_iff.1 h.box).1⟩
theorem NmSt.below {W W':World}{T NB n:Nat}{s:Nm}(h:NmSt W T NB n s)(hb:Below W.heap.size W W'):NmSt W' T NB n s:=h.later (F:=fun _=>True) (Kp.of hb) trivial trivial
theorem NmSt.ne {W:World}{T NB n:Nat}{s:Nm}(h:NmSt W T NB n s):T≠NB:=fun e=>by
 have h1:=h.row;rw [e,h.box] at h1;have h2:=congrArg (fun o:Option Obj=>match o with | some (.cells _ t _)=>t | _=>0) h1;exact absurd (show (154:Nat)=3 from h2) (by decide)
theorem NmSt.put {W:World}{T NB n:Nat}{s:Nm}(h:NmSt W T NB n s){r:Nat}(hr:r<n)(h0:s.now.getD r 0<0):NmSt ((W.setCell ⟨T,r,none⟩ (.int .i64 s.many)).setCell ⟨NB,1,none⟩ (.int .i64 (s.many+1))) T NB n (nmS s (r:Int)):=by
 have hne:=h.ne;have h2:nmS s (r:Int)=⟨s.now.set r s.many,s.many+1⟩:=by unfold nmS;rw [Int.toNat_natCast,if_pos h0]
 refine⟨?_,?_,h.ok.step (by omega)⟩
 · rw [Below.heap_setCell _ _ _ _ hne,heap_set_row h.row,h2]
   simp
 · have hb:(W.setCell ⟨T,r,none⟩ (.int .i64 s.many)).heap[NB]?=_:=(Below.heap_setCell W ⟨T,r,none⟩ _ _ (fun e=>hne e.symm)).trans h.box
   rw [heap_set_row hb,h2];rfl

end Go.Proofs.YtnkogppgacappaaGreatDoor

namespace Go.Proofs.YtnkogppgacappaaGreatDoor
open Go.RowKit

def nmArgs(s:Nm)(l:List DVal):Nm:=l.foldl valS s
def nmDst(s:Nm)(d:Int):Nm:=if 0≤d then nmS s d else s
def nmIns(s:Nm)(y:DIns):Nm:=nmDst (nmArgs (valS (valS s y.a) y.b) y.args) y.dst
def nmPhi(s:Nm)(p:DPhi):Nm:=nmS s p.dst
def nmB1(s:Nm)(x:DBlock):Nm:=valS (x.list.foldl nmIns (x.phis.foldl nmPhi s)) x.fin.on
def nmPar(s:Nm)(p:Nat):Nm:=(List.range p).foldl (fun (s:Nm) (r:Nat)=>nmS s (r:Int)) s
def valsUp(s:Nm)(l:List DVal)(k:Nat):List DVal:=l.mapIdx fun m v=>if m<k then valW (nmArgs s (l.take m)) v else v
def phiS(s:Nm)(p:DPhi):Nm:=nmArgs (nmS s p.dst) p.src
def phiUpN(s:Nm)(p:DPhi)(k:Nat):DPhi:=⟨nmR s p.dst,valsUp (nmS s p.dst) p.src k⟩
def phiW(s:Nm)(p:DPhi):DPhi:=phiUpN s p p.src.length
def phisUp(s:Nm)(l:List DPhi)(k:Nat):List DPhi:=l.mapIdx fun i p=>if i<k then phiW ((l.take i).foldl phiS s) p else p
def argsOn(s:Nm)(y:DIns):Nm:=valS (valS s y.a) y.b
def dstW(s:Nm)(d:Int):Int:=if 0≤d then nmR s d else d
def insW(s:Nm)(y:DIns):DIns:=⟨y.op,dstW (nmArgs (argsOn s y) y.args) y.dst,valW s y.a,valW (valS s y.a) y.b,y.fn,valsUp (argsOn s y) y.args y.args.length⟩
def listUp(s:Nm)(l:List DIns)(k:Nat):List DIns:=l.mapIdx fun i y=>if i<k then insW ((l.take i).foldl nmIns s) y else y
def onOf(s:Nm)(x:DBlock):Nm:=x.list.foldl nmIns (x.phis.foldl phiS s)
def nmB2(s:Nm)(x:DBlock):Nm:=valS (onOf s x) x.fin.on
def blkW(s:Nm)(x:DBlock):DBlock:=⟨phisUp s x.phis x.phis.length,listUp (x.phis.foldl phiS s) x.list x.list.length,⟨x.fin.kind,valW (onOf s x) x.fin.on,x.fin.to⟩⟩
def blksUp(s:Nm)(l:List DBlock)(k:Nat):List DBlock:=l.mapIdx fun i x=>if i<k then blkW ((l.take i).foldl nmB2 s) x else x
def nm0(n:Nat):Nm:=⟨List.replicate n (-1),0⟩
def nmAll(p n:Nat)(bs:List DBlock):Nm:=bs.foldl nmB1 (nmPar (nm0 n) p)
def namesB(p n:Nat)(bs:List DBlock):List DBlock:=blksUp (nmAll p n bs) bs bs.length
def namesN(p n:Nat)(bs:List DBlock):Int:=(bs.foldl nmB2 (nmAll p n bs)).many

structure RegIn (n:Nat)(x:DBlock):Prop where
 phi:∀p∈x.phis,(0≤p.dst∧p.dst<n)∧∀v∈p.src,InV n v
 ins:∀y∈x.list,InV n y.a∧InV n y.b∧(∀v∈y.args,InV n v)∧y.dst<n
 on:InV n x.fin.on

theorem foldl_step {α β:Type}(f:β→α→β)(s:β){l:List α}{k:Nat}{x:α}(h:l[k]?=some x):(l.take (k+1)).foldl f s=f ((l.take k).foldl f s) x:=by
 rw [List.take_add_one,h,List.foldl_append];rfl
theorem foldl_full {α β:Type}(f:β→α→β)(s:β){l:List α}{k:Nat}(h:k=l.length):(l.take k).foldl f s=l.foldl f s:=by rw [h,List.take_length]
theorem nmPar_succ(s:Nm)(k:Nat):nmPar s (k+1)=nmS (nmPar s k) (k:Int):=by
 unfold nmPar;rw [List.range_succ,List.foldl_append];rfl
theorem up_zero {α:Type}(f:Nat→α→α)(l:List α):(l.mapIdx fun i x=>if i<0 then f i x else x)=l:=by
 apply List.ext_getElem?;intro i;rw [List.getElem?_mapIdx];cases l[i]? <;> rfl
theorem up_set {α:Type}(f:Nat→α→α){l:List α}{k:Nat}{x:α}(h:l[k]?=some x):(l.mapIdx fun i x=>if i<k then f i x else x).set k (f k x)=l.mapIdx fun i x=>if i<k+1 then f i x else x:=by
 have hk:=(List.getElem?_eq_some_iff.1 h).1;apply List.ext_getElem?;intro i;rw [List.getElem?_set,List.length_mapIdx,List.getElem?_mapIdx,List.getElem?_mapIdx]
 by_cases e:k=i
 · subst e;rw [if_pos rfl,if_pos hk,h];simp
 · rw [if_neg e]
   congr 1
   funext y
   by_cases h2:i<k
   · rw [if_pos h2,if_pos (by omega)]
   · rw [if_neg h2,if_neg (by omega)]
theorem up_at {α:Type}(f:Nat→α→α){l:List α}{k:Nat}{x:α}(h:l[k]?=some x):(l.mapIdx fun i x=>if i<k then f i x else x)[k]?=some x:=by
 rw [List.getElem?_mapIdx,h];simp
theorem valsUp_zero(s:Nm)(l:List DVal):valsUp s l 0=l:=up_zero _ _
theorem valsUp_set(s:Nm){l:List DVal}{k:Nat}{v:DVal}(h:l[k]?=some v):(valsUp s l k).set k (valW (nmArgs s (l.take k)) v)=valsUp s l (k+1):=up_set (fun m v=>valW (nmArgs s (l.take m)) v) h
theorem valsUp_at(s:Nm){l:List DVal}{k:Nat}{v:DVal}(h:l[k]?=some v):(valsUp s l k)[k]?=some v:=up_at (fun m v=>valW (nmArgs s (l.take m)) v) h
theorem phisUp_zero(s:Nm)(l:List DPhi):phisUp s l 0=l:=up_zero _ _
theorem phisUp_set(s:Nm){l:List DPhi}{k:Nat}{p:DPhi}(h:l[k]?=some p):(phisUp s l k).set k (phiW ((l.take k).foldl phiS s) p)=phisUp s l (k+1):=up_set (fun m p=>phiW ((l.take m).foldl phiS s) p) h
theorem phisUp_at(s:Nm){l:List DPhi}{k:Nat}{p:DPhi}(h:l[k]?=some p):(phisUp s l k)[k]?=some p:=up_at (fun m p=>phiW ((l.take m).foldl phiS s) p) h
theorem listUp_zero(s:Nm)(l:List DIns):listUp s l 0=l:=up_zero _ _
theorem listUp_set(s:Nm){l:List DIns}{k:Nat}{y:DIns}(h:l[k]?=some y):(listUp s l k).set k (insW ((l.take k).foldl nmIns s) y)=listUp s l (k+1):=up_set (fun m y=>insW ((l.take m).foldl nmIns s) y) h
theorem listUp_at(s:Nm){l:List DIns}{k:Nat}{y:DIns}(h:l[k]?=some y):(listUp s l k)[k]?=some y:=up_at (fun m y=>insW ((l.take m).foldl nmIns s) y) h
theorem blksUp_zero(s:Nm)(l:List DBlock):blksUp s l 0=l:=up_zero _ _
theorem blksUp_set(s:Nm){l:List DBlock}{k:Nat}{x:DBlock}(h:l[k]?=some x):(blksUp s l k).set k (blkW ((l.take k).foldl nmB2 s) x)=blksUp s l (k+1):=up_set (fun m x=>blkW ((l.take m).foldl nmB2 s) x) h
theorem blksUp_at(s:Nm){l:List DBlock}{k:Nat}{x:DBlock}(h:l[k]?=some x):(blksUp s l k)[k]?=some x:=up_at (fun m x=>blkW ((l.take m).foldl nmB2 s) x) h
theorem blksUp_len(s:Nm)(l:List DBlock)(k:Nat):(blksUp s l k).length=l.length:=by simp [blksUp]
theorem nmArgs_step(s:Nm){l:List DVal}{k:Nat}{v:DVal}(h:l[k]?=some v):nmArgs s (l.take (k+1))=valS (nmArgs s (l.take k)) v:=foldl_step _ _ h

theorem nm0_ok(n:Nat):NmOk n (nm0 n):=by
 refine⟨by simp [nm0],fun x hx=>?_,?_⟩
 · rw [List.eq_of_mem_replicate hx]
   show (-1:Int) ≤ -1∧(-1:Int)<0;omega
 · show (0:Int)=((List.replicate n (-1:Int)).countP _:Nat)
   rw [List.countP_eq_zero.2 (fun a ha=>by rw [List.eq_of_mem_replicate ha];decide)];rfl
theorem set4H {w:World}{b:Nat}{a0 a1 a2 a3 u0 u1 u2 u3:Value}{ty:TypeId}(h:w.heap[b]?=some (.cells #[a0,a1,a2,a3] ty (0,0))) :
 ((((w.setCell ⟨b,0,none⟩ u0).setCell ⟨b,1,none⟩ u1).setCell ⟨b,2,none⟩ u2).setCell ⟨b,3,none⟩ u3).heap[b]?=some (.cells #[u0,u1,u2,u3] ty (0,0)) :=
 heap_set_row (heap_set_row (heap_set_row (heap_set_row h u0) u1) u2) u3

end Go.Proofs.YtnkogppgacappaaGreatDoor

namespace Go.Proofs.YtnkogppgacappaaGreatDoor
open Go.RowKit

def sameP (x y : DBlock) (b : Nat) : Pth → Prop
 | .blks=>x.fin.kind=y.fin.kind∧x.fin.on=y.fin.on
 | .phis c=>c=b→x.phis.map (·.dst)=y.phis.map (·.dst)
 | .src c i=>c=b→(x.phis.getD i noPhiP).src=(y.phis.getD i noPhiP).src
 | .list c=>c=b→x.list.map (fun y=>(y.op,y.dst,y.a,y.b,y.fn))=y.list.map (fun y=>(y.op,y.dst,y.a,y.b,y.fn))
 | .args c i=>c=b→(x.list.getD i noInsP).args=(y.list.getD i noInsP).args
 | .to c=>c=b→x.fin.to=y.fin.to
 | _=>True
theorem mapIdx_of_map {α β γ:Type}{f:α→γ}{F:Nat→α→β}{l l':List α}(h:l.map f=l'.map f)(hF:∀i x y,f x=f y→F i x=F i y):l.mapIdx F=l'.mapIdx F:=by
 apply List.ext_getElem?;intro i;rw [List.getElem?_mapIdx,List.getElem?_mapIdx];have h1:=congrArg (·[i]?) h;simp only [List.getElem?_map] at h1;cases hx:l[i]? with
 | none =>
   rw [hx] at h1;cases hy:l'[i]? with
   | none=>rfl
   | some y=>rw [hy] at h1;cases h1
 | some x =>
   rw [hx] at h1;cases hy:l'[i]? with
   | none=>rw [hy] at h1;cases h1
   | some y =>
     rw [hy] at h1;have h2:f x=f y:=by injection h1
     show some _=some _;rw [hF i x y h2]
section
variable {bs : List DBlock} {b : Nat} {y z : DBlock} {V : Pth → Value}
theorem blkOf_here(hb:b<bs.length)(y:DBlock):blkOf (bs.set b y) b=y:=(blkOf_set hb y b).trans (if_pos rfl)
theorem blkOf_there(hb:b<bs.length)(y:DBlock){c:Nat}(hc:c≠b):blkOf (bs.set b y) c=blkOf bs c:=(blkOf_set hb y c).trans (if_neg hc)
theorem elemsP_turn(hb:b<bs.length){p:Pth}{E:List (List Value)}(hE:elemsP (bs.set b z) V p=E)(hs:∀q,q≠p→sameP z y b q)(q:Pth):elemsP (bs.set b z) V q=updP (elemsP (bs.set b y) V) p E q:=by
 by_cases e:q=p
 · subst e;rw [updP_self,hE]
 rw [updP_ne _ _ e];have h:=hs q e;cases q with
 | blks =>
   refine elemsP_blks (by simp) fun c hc=>?_
   by_cases ec:c=b
   · subst ec
     rw [blkOf_here hb,blkOf_here hb];unfold cellsB;rw [h.1,h.2]
   · rw [blkOf_there hb _ ec,blkOf_there hb _ ec]
 | phis c =>
   simp only [elemsP]
   by_cases ec:c=b
   · subst ec
     rw [blkOf_here hb,blkOf_here hb];exact mapIdx_of_map (h rfl) fun i x y hxy=>by rw [show x.dst=y.dst from hxy]
   · rw [blkOf_there hb _ ec,blkOf_there hb _ ec]
 | src c i =>
   simp only [elemsP]
   by_cases ec:c=b
   · subst ec
     rw [blkOf_here hb,blkOf_here hb,h rfl]
   · rw [blkOf_there hb _ ec,blkOf_there hb _ ec]
 | list c =>
   simp only [elemsP]
   by_cases ec:c=b
   · subst ec
     rw [blkOf_here hb,blkOf_here hb];refine mapIdx_of_map (h rfl) fun i x y hxy=>?_;simp only [Prod.mk.injEq] at hxy;unfold cellsI;rw [hxy.1,hxy.2.1,hxy.2.2.1,hxy.2.2.2.1,hxy.2.2.2.2]
   · rw [blkOf_there hb _ ec,blkOf_there hb _ ec]
 | args c i =>
   simp only [elemsP]
   by_cases ec:c=b
   · subst ec
     rw [blkOf_here hb,blkOf_here hb,h rfl]
   · rw [blkOf_there hb _ ec,blkOf_there hb _ ec]
 | «to» c =>
   simp only [elemsP]
   by_cases ec:c=b
   · subst ec
     rw [blkOf_here hb,blkOf_here hb,h rfl]
   · rw [blkOf_there hb _ ec,blkOf_there hb _ ec]
 | vBlk=>rfl
 | vPhi=>rfl
 | vIns=>rfl
theorem okP_turn(hb:b<bs.length)(h1:z.phis.length=y.phis.length)(h2:z.list.length=y.list.length)(q:Pth):okP (bs.set b z) q↔okP (bs.set b y) q:=by
 refine okP_shape (bs:=bs.set b y) (bs':=bs.set b z) (by rw [List.length_set,List.length_set]) (fun c=>?_) q
 by_cases ec:c=b
 · subst ec;rw [blkOf_here hb,blkOf_here hb];exact⟨h1,h2⟩
 · rw [blkOf_there hb _ ec,blkOf_there hb _ ec];exact⟨rfl,rfl⟩
end

section
variable {W W' : World} {base : Nat} {ok : Pth → Prop} {V : Pth → Value} {C : Pth → List (List Value)}
theorem RowsAt.kp {G:Nat→Prop}(h:RowsAt W base ok V C)(hk:Kp G W W')(hG:∀p,ok p→∀k,(V p).ownBlock=some k→G k):RowsAt W' base ok V C:=by
 refine⟨fun p hp=>⟨(h.own p hp).1,?_⟩,h.wid,h.apart⟩;rcases (h.own p hp).2 with h1 | ⟨g,cap,cur,e,h3,h4,h5⟩
 · exact .inl h1
 · exact .inr ⟨g,cap,cur,e,h3,(hk.block g (Array.getElem?_eq_some_iff.1 h4).1 (hG p hp g (by rw [e];rfl))).trans h4,h5⟩
theorem RowsAt.setTwo(h:RowsAt W base ok V C){p:Pth}(hp:ok p){g n c i j:Nat}(hv:V p = .slice (some ⟨g,0,none⟩) n c){cs:List Value}(hi:(C p)[i]?=some cs)(hj:j+1<p.sz)(u u':Value) :
 RowsAt ((W.setCell ⟨g,i * p.sz+j,none⟩ u).setCell ⟨g,i * p.sz+(j+1),none⟩ u') base ok V (updP C p ((C p).set i ((cs.set j u).set (j+1) u'))):=by
 have hil:i<(C p).length:=(List.getElem?_eq_some_iff.1 hi).1;have r1:=h.set hp hv hi (j:=j) (by omega) u;have r2:=r1.set hp hv (i:=i) (cs:=cs.set j u) (by rw [updP_self];exact List.getElem?_set_self hil) (j:=j+1) (by omega) u';refine r2.congr (fun q _=>rfl) (fun q _=>?_)
 by_cases e:q=p
 · subst e;simp only [updP_self,List.set_set]
 · simp only [updP_ne _ _ e]
end

structure NaSt (W:World)(base T NB n:Nat)(F:Nat→Prop)(bs:List DBlock)(V:Pth→Value)(s:Nm):Prop where
 rows:FunSt W base bs V
 nm:NmSt W T NB n s
 off:∀p,okP bs p→∀k,(V p).ownBlock=some k→¬F k∧k≠T∧k≠NB
 nf:¬F T∧¬F NB
section
variable {W W' : World} {base T NB n : Nat} {F : Nat → Prop} {bs : List DBlock} {V : Pth → Value} {s s' : Nm} {b : Nat} {y z : DBlock}
theorem NaSt.named(h:NaSt W base T NB n F bs V s)(hn:NmSt W' T NB n s')(hk:Kp (NmF T NB) W W'):NaSt W' base T NB n F bs V s' :=
 ⟨RowsAt.kp h.rows hk fun p hp k hk2=>(h.off p hp k hk2).2,hn,h.off,h.nf⟩
theorem NaSt.later(h:NaSt W base T NB n F bs V s)(hb:Below W.heap.size W W'):NaSt W' base T NB n F bs V s:=h.named (h.nm.below hb) (Kp.of hb)
theorem NaSt.keepN(h:NaSt W base T NB n F bs V s)(hk:Kp (NmF T NB) W W'):Kp F W W' :=
 hk.less fun b hb=>⟨fun e=>h.nf.1 (by rw [←e];exact hb),fun e=>h.nf.2 (by rw [←e];exact hb)⟩
theorem NaSt.other(h:NaSt W base T NB n F bs V s){g:Nat}(hk:Kp (fun k=>k≠g) W W')(hg:F g):NaSt W' base T NB n F bs V s :=
 ⟨RowsAt.kp h.rows hk fun p hp k hk2 e=>(h.off p hp k hk2).1 (by rw [e];exact hg),h.nm.later hk (fun e=>h.nf.1 (by rw [e];exact hg)) (fun e=>h.nf.2 (by rw [e];exact hg)),h.off,h.nf⟩
theorem NaSt.turn (h : NaSt W base T NB n F (bs.set b y) V s) (hb : b < bs.length) {p : Pth} (hp : okP (bs.set b y) p) {g pn pc : Nat} (hv : V p = .slice (some ⟨g, 0, none⟩) pn pc) {E : List (List Value)}
 (hr:RowsAt W' base (okP (bs.set b y)) V (updP (elemsP (bs.set b y) V) p E)) (hW:Kp (fun k=>k≠g) W W') (hE:elemsP (bs.set b z) V p=E) (hs:∀q,q≠p→sameP z y b q)
 (h1:z.phis.length=y.phis.length) (h2:z.list.length=y.list.length):NaSt W' base T NB n F (bs.set b z) V s∧Kp F W W':=by
 have hg:=h.off p hp g (by rw [hv];rfl);refine⟨⟨(hr.less fun q hq=>(okP_turn hb h1 h2 q).1 hq).congr (fun _ _=>rfl) (fun q _=>elemsP_turn hb hE hs q),h.nm.later hW (fun e=>hg.2.1 e.symm) (fun e=>hg.2.2 e.symm),fun q hq=>h.off q ((okP_turn hb h1 h2 q).1 hq),h.nf⟩,?_⟩;exact hW.less fun k hk e=>hg.1 (by rw [←e];exact hk)
theorem kp_one(W:World)(g o:Nat)(u:Value):Kp (fun k=>k≠g) W (W.setCell ⟨g,o,none⟩ u):=(Kp.refl _ _).set (fun h=>h rfl) _
theorem kp_more {W W':World}{g:Nat}(h:Kp (fun k=>k≠g) W W')(o:Nat)(u:Value):Kp (fun k=>k≠g) W (W'.setCell ⟨g,o,none⟩ u):=h.set (fun h=>h rfl) _
def dstB(y:DBlock)(i:Nat)(d:Int):DBlock:={ y with phis:=y.phis.set i ⟨d,(y.phis.getD i noPhiP).src⟩ }
def srcAt(y:DBlock)(i m:Nat)(v:DVal):DBlock:={ y with phis:=y.phis.set i ⟨(y.phis.getD i noPhiP).dst,(y.phis.getD i noPhiP).src.set m v⟩ }
def argAt(y:DBlock)(i m:Nat)(v:DVal):DBlock:={ y with list:=y.list.set i { y.list.getD i noInsP with args:=(y.list.getD i noInsP).args.set m v } }
def insAt(y:DBlock)(i:Nat)(z:DIns):DBlock:={ y with list:=y.list.set i { z with args:=(y.list.getD i noInsP).args } }
def onB(y:DBlock)(v:DVal):DBlock:={ y with fin:={ y.fin with on:=v } }
theorem getD_set_map {α β:Type}(f:α→β){l:List α}{i:Nat}{x d:α}(hx:f x=f (l.getD i d))(j:Nat):f ((l.set i x).getD j d)=f (l.getD j d):=by
 rw [List.getD_eq_getElem?_getD,List.getD_eq_getElem?_getD,List.getElem?_set]
 by_cases e:i=j
 · subst e
   rw [if_pos rfl]
   by_cases h:i<l.length
   · rw [if_pos h]
     show f x=_;rw [hx,List.getD_eq_getElem?_getD]
   · rw [if_neg h,List.getElem?_eq_none (by omega)]
 · rw [if_neg e]
theorem map_set_same {α β:Type}(f:α→β){l:List α}{i:Nat}{x d:α}(hx:f x=f (l.getD i d)):(l.set i x).map f=l.map f:=by
 apply List.ext_getElem?;intro j;rw [List.getElem?_map,List.getElem?_map,List.getElem?_set]
 by_cases e:i=j
 · subst e
   rw [if_pos rfl]
   by_cases h:i<l.length
   · rw [if_pos h,List.getElem?_eq_getElem h]
     show some (f x)=some _;rw [hx,List.getD_eq_getElem?_getD,List.getElem?_eq_getElem h];rfl
   · rw [if_neg h,List.getElem?_eq_none (by omega)]
 · rw [if_neg e]
theorem NaSt.setDst(h:NaSt W base T NB n F (bs.set b y) V s)(hb:b<bs.length){i:Nat}(hi:i<y.phis.length){g pn pc:Nat}(hv:V (.phis b) = .slice (some ⟨g,0,none⟩) pn pc)(d:Int) :
 NaSt (W.setCell ⟨g,i * 2,none⟩ (.int .i64 d)) base T NB n F (bs.set b (dstB y i d)) V s∧Kp F W (W.setCell ⟨g,i * 2,none⟩ (.int .i64 d)):=by
 have hc:(elemsP (bs.set b y) V (.phis b))[i]?=some [.int .i64 (y.phis.getD i noPhiP).dst,V (.src b i)]:=by
  simp only [elemsP];rw [blkOf_here hb,mapIdx_at,List.getElem?_eq_getElem hi,List.getD_eq_getElem?_getD,List.getElem?_eq_getElem hi];rfl
 have hr:=h.rows.set (p := .phis b) (by show b<_;simp;exact hb) hv hc (j:=0) (Pth.sz_pos _) (.int .i64 d);refine h.turn hb (p := .phis b) (by show b<_;simp;exact hb) hv hr (kp_one _ _ _ _) ?_ ?_ (by simp [dstB]) rfl
 · simp only [elemsP]
   rw [blkOf_here hb,blkOf_here hb];simp only [dstB,List.mapIdx_set];rfl
 · intro q hq
   cases q with
   | blks=>exact⟨rfl,rfl⟩
   | phis c=>intro e;exact absurd (by rw [e]) hq
   | src c j=>intro _;exact getD_set_map (l:=y.phis) (i:=i) (x:=⟨d,(y.phis.getD i noPhiP).src⟩) (d:=noPhiP) (fun p:DPhi=>p.src) rfl j
   | list c=>intro _;rfl
   | args c j=>intro _;rfl
   | «to» c=>intro _;rfl
   | _=>trivial
theorem NaSt.setSrc(h:NaSt W base T NB n F (bs.set b y) V s)(hb:b<bs.length){i m:Nat}(hi:i<y.phis.length)(hm:m<(y.phis.getD i noPhiP).src.length){g pn pc:Nat}(hv:V (.src b i) = .slice (some ⟨g,0,none⟩) pn pc)(v:DVal) :
 NaSt ((W.setCell ⟨g,m * 2,none⟩ (.bool v.reg)).setCell ⟨g,m * 2+1,none⟩ (.int .i64 v.n)) base T NB n F (bs.set b (srcAt y i m v)) V s∧Kp F W ((W.setCell ⟨g,m * 2,none⟩ (.bool v.reg)).setCell ⟨g,m * 2+1,none⟩ (.int .i64 v.n)):=by
 have hok:okP (bs.set b y) (.src b i):=by show i<_;rw [blkOf_here hb];exact hi
 have hc:(elemsP (bs.set b y) V (.src b i))[m]?=some (cellsV ((y.phis.getD i noPhiP).src[m])):=by
  simp only [elemsP];rw [blkOf_here hb,List.getElem?_map,List.getElem?_eq_getElem hm];rfl
 have hr:=RowsAt.setTwo h.rows hok hv hc (j:=0) (by show _<_;simp [Pth.sz]) (.bool v.reg) (.int .i64 v.n);refine h.turn hb hok hv hr (kp_more (kp_one _ _ _ _) _ _) ?_ ?_ (by simp [srcAt]) rfl
 · simp only [elemsP]
   rw [blkOf_here hb,blkOf_here hb];simp only [srcAt];rw [List.getD_eq_getElem?_getD,List.getElem?_set_self hi];show (List.set _ _ _).map cellsV=_;rw [List.map_set];rfl
 · intro q hq
   cases q with
   | blks=>exact⟨rfl,rfl⟩
   | phis c=>intro e;exact map_set_same (l:=y.phis) (i:=i) (x:=⟨(y.phis.getD i noPhiP).dst,(y.phis.getD i noPhiP).src.set m v⟩) (fun p:DPhi=>p.dst) (d:=noPhiP) rfl
   | src c j =>
     intro e;have hij:i≠j:=fun e2=>hq (by rw [e,e2]);show (List.getD (y.phis.set i _) j noPhiP).src=_;rw [List.getD_eq_getElem?_getD,List.getElem?_set_ne hij,←List.getD_eq_getElem?_getD]
   | list c=>intro _;rfl
   | args c j=>intro _;rfl
   | «to» c=>intro _;rfl
   | _=>trivial
theorem NaSt.setArg(h:NaSt W base T NB n F (bs.set b y) V s)(hb:b<bs.length){i m:Nat}(hi:i<y.list.length)(hm:m<(y.list.getD i noInsP).args.length){g pn pc:Nat}(hv:V (.args b i) = .slice (some ⟨g,0,none⟩) pn pc)(v:DVal) :
 NaSt ((W.setCell ⟨g,m * 2,none⟩ (.bool v.reg)).setCell ⟨g,m * 2+1,none⟩ (.int .i64 v.n)) base T NB n F (bs.set b (argAt y i m v)) V s∧Kp F W ((W.setCell ⟨g,m * 2,none⟩ (.bool v.reg)).setCell ⟨g,m * 2+1,none⟩ (.int .i64 v.n)):=by
 have hok:okP (bs.set b y) (.args b i):=by show i<_;rw [blkOf_here hb];exact hi
 have hc:(elemsP (bs.set b y) V (.args b i))[m]?=some (cellsV ((y.list.getD i noInsP).args[m])):=by
  simp only [elemsP];rw [blkOf_here hb,List.getElem?_map,List.getElem?_eq_getElem hm];rfl
 have hr:=RowsAt.setTwo h.rows hok hv hc (j:=0) (by show _<_;simp [Pth.sz]) (.bool v.reg) (.int .i64 v.n);refine h.turn hb hok hv hr (kp_more (kp_one _ _ _ _) _ _) ?_ ?_ rfl (by simp [argAt])
 · simp only [elemsP]
   rw [blkOf_here hb,blkOf_here hb];simp only [argAt];rw [List.getD_eq_getElem?_getD,List.getElem?_set_self hi];show (List.set _ _ _).map cellsV=_;rw [List.map_set];rfl
 · intro q hq
   cases q with
   | blks=>exact⟨rfl,rfl⟩
   | phis c=>intro _;rfl
   | src c j=>intro _;rfl
   | list c=>intro _;exact map_set_same (l:=y.list) (i:=i) (x:={ y.list.getD i noInsP with args:=(y.list.getD i noInsP).args.set m v }) (fun y:DIns=>(y.op,y.dst,y.a,y.b,y.fn)) (d:=noInsP) rfl
   | args c j =>
     intro e;have hij:i≠j:=fun e2=>hq (by rw [e,e2]);show (List.getD (y.list.set i _) j noInsP).args=_;rw [List.getD_eq_getElem?_getD,List.getElem?_set_ne hij,←List.getD_eq_getElem?_getD]
   | «to» c=>intro _;rfl
   | _=>trivial
theorem NaSt.setOn(h:NaSt W base T NB n F (bs.set b y) V s)(hb:b<bs.length){g pn pc:Nat}(hv:V .blks = .slice (some ⟨g,0,none⟩) pn pc)(v:DVal) :
 NaSt ((W.setCell ⟨g,b * 6+3,none⟩ (.bool v.reg)).setCell ⟨g,b * 6+4,none⟩ (.int .i64 v.n)) base T NB n F (bs.set b (onB y v)) V s∧Kp F W ((W.setCell ⟨g,b * 6+3,none⟩ (.bool v.reg)).setCell ⟨g,b * 6+4,none⟩ (.int .i64 v.n)):=by
 have hc:(elemsP (bs.set b y) V .blks)[b]?=some (cellsB y (V (.phis b)) (V (.list b)) (V (.to b))):=by
  simp only [elemsP];rw [mapIdx_at,List.getElem?_set_self hb];rfl
 have hr:=RowsAt.setTwo h.rows (p := .blks) trivial hv hc (j:=3) (by simp [Pth.sz]) (.bool v.reg) (.int .i64 v.n);refine h.turn hb (p := .blks) trivial hv hr (kp_more (kp_one _ _ _ _) _ _) ?_ ?_ rfl rfl
 · simp only [elemsP,List.mapIdx_set,List.set_set]
   rfl
 · intro q hq
   cases q with
   | blks=>exact absurd rfl hq
   | phis c=>intro _;rfl
   | src c j=>intro _;rfl
   | list c=>intro _;rfl
   | args c j=>intro _;rfl
   | «to» c=>intro _;rfl
   | _=>trivial
theorem NaSt.setIns(h:NaSt W base T NB n F (bs.set b y) V s)(hb:b<bs.length){i:Nat}(hi:i<y.list.length){g pn pc:Nat}(hv:V (.list b) = .slice (some ⟨g,0,none⟩) pn pc)(z:DIns){u:Value}(hu:u=V (.args b i)) :
 NaSt ((((((((W.setCell ⟨g,i * 8,none⟩ (.int .i64 z.op)).setCell ⟨g,i * 8+1,none⟩ (.int .i64 z.dst)).setCell ⟨g,i * 8+2,none⟩ (.bool z.a.reg)).setCell ⟨g,i * 8+3,none⟩ (.int .i64 z.a.n)).setCell ⟨g,i * 8+4,none⟩ (.bool z.b.reg)).setCell ⟨g,i * 8+5,none⟩ (.int .i64 z.b.n)).setCell ⟨g,i * 8+6,none⟩ (.int .i64 z.fn)).setCell ⟨g,i * 8+7,none⟩ u) base T NB n F (bs.set b (insAt y i z)) V s ∧
 Kp F W ((((((((W.setCell ⟨g,i * 8,none⟩ (.int .i64 z.op)).setCell ⟨g,i * 8+1,none⟩ (.int .i64 z.dst)).setCell ⟨g,i * 8+2,none⟩ (.bool z.a.reg)).setCell ⟨g,i * 8+3,none⟩ (.int .i64 z.a.n)).setCell ⟨g,i * 8+4,none⟩ (.bool z.b.reg)).setCell ⟨g,i * 8+5,none⟩ (.int .i64 z.b.n)).setCell ⟨g,i * 8+6,none⟩ (.int .i64 z.fn)).setCell ⟨g,i * 8+7,none⟩ u):=by
 have hok:okP (bs.set b y) (.list b):=by show b<_;simp;exact hb
 obtain⟨x,hx⟩:∃x,y.list[i]?=some x:=⟨_,List.getElem?_eq_getElem hi⟩
 have hc:(elemsP (bs.set b y) V (.list b))[i]?=some (cellsI x (V (.args b i))):=by
  simp only [elemsP];rw [blkOf_here hb,mapIdx_at,hx];rfl
 have hil:i<(elemsP (bs.set b y) V (.list b)).length:=(List.getElem?_eq_some_iff.1 hc).1;have r0:=RowsAt.setTwo h.rows hok hv hc (j:=0) (by show _<_;simp [Pth.sz]) (.int .i64 z.op) (.int .i64 z.dst);have r1:=r0.setTwo hok hv (i:=i) (by rw [updP_self];exact List.getElem?_set_self hil) (j:=2) (by simp [Pth.sz]) (.bool z.a.reg) (.int .i64 z.a.n);have r2:=r1.setTwo hok hv (i:=i) (by rw [updP_self,updP_self,List.set_set];exact List.getElem?_set_self hil) (j:=4) (by simp [Pth.sz]) (.bool z.b.reg) (.int .i64 z.b.n);have r3:=r2.setTwo hok hv (i:=i) (by rw [updP_self,updP_self,updP_self,List.set_set,List.set_set];exact List.getElem?_set_self hil) (j:=6) (by simp [Pth.sz]) (.int .i64 z.fn) u
 have hr := r3.congr (V' := V) (C' := updP (elemsP (bs.set b y) V) (.list b) ((elemsP (bs.set b y) V (.list b)).set i (cellsI z (V (.args b i))))) (fun q _ => rfl) (fun q _ => by
  by_cases e : q = .list b
  · subst e
    simp only [updP_self, List.set_set]
    rw [hu]; rfl
  · simp only [updP_ne _ _ e])
 refine h.turn hb hok hv hr (kp_more (kp_more (kp_more (kp_more (kp_more (kp_more (kp_more (kp_one _ _ _ _) _ _) _ _) _ _) _ _) _ _) _ _) _ _) ?_ ?_ rfl (by simp [insAt])
 · simp only [elemsP]
   rw [blkOf_here hb,blkOf_here hb];simp only [insAt,List.mapIdx_set];rfl
 · intro q hq
   cases q with
   | blks=>exact⟨rfl,rfl⟩
   | phis c=>intro _;rfl
   | src c j=>intro _;rfl
   | list c=>intro e;exact absurd (by rw [e]) hq
   | args c j=>intro _;exact getD_set_map (l:=y.list) (i:=i) (x:={ z with args:=(y.list.getD i noInsP).args }) (d:=noInsP) (fun p:DIns=>p.args) rfl j
   | «to» c=>intro _;rfl
   | _=>trivial
end

end Go.Proofs.YtnkogppgacappaaGreatDoor

namespace Go.Proofs.YtnkogppgacappaaGreatDoor
open Go.RowKit

def phB(s1 s':Nm)(x:DBlock)(i:Nat)(ph:DPhi)(d:Int)(m:Nat):DBlock:=⟨(phisUp s1 x.phis i).set i ⟨d,valsUp s' ph.src m⟩,x.list,x.fin⟩
def phA(s1:Nm)(x:DBlock)(i:Nat):DBlock:=⟨phisUp s1 x.phis i,x.list,x.fin⟩
theorem phisUp_len(s:Nm)(l:List DPhi)(k:Nat):(phisUp s l k).length=l.length:=by simp [phisUp]
theorem listUp_len(s:Nm)(l:List DIns)(k:Nat):(listUp s l k).length=l.length:=by simp [listUp]
theorem valsUp_len(s:Nm)(l:List DVal)(k:Nat):(valsUp s l k).length=l.length:=by simp [valsUp]
theorem getD_at {α:Type}{l:List α}{i:Nat}{x d:α}(h:l[i]?=some x):l.getD i d=x:=by rw [List.getD_eq_getElem?_getD,h];rfl
section
variable {s1 s' s2 s4 : Nm} {x : DBlock} {i : Nat} {ph : DPhi} {d : Int} {m : Nat} {y : DIns}
theorem phA_zero(s1:Nm)(x:DBlock):phA s1 x 0=x:=by unfold phA;rw [phisUp_zero]
theorem phB_start(h:x.phis[i]?=some ph)(s':Nm)(d:Int):dstB (phA s1 x i) i d=phB s1 s' x i ph d 0:=by
 unfold dstB phB;rw [valsUp_zero];show DBlock.mk (List.set (phisUp s1 x.phis i) i ⟨d,((phisUp s1 x.phis i).getD i noPhiP).src⟩) x.list x.fin=_;rw [getD_at (phisUp_at s1 h)]
theorem phB_at(h:x.phis[i]?=some ph):(phB s1 s' x i ph d m).phis[i]?=some ⟨d,valsUp s' ph.src m⟩:=by
 unfold phB;exact List.getElem?_set_self (by rw [phisUp_len];exact (List.getElem?_eq_some_iff.1 h).1)
theorem phB_step(h:x.phis[i]?=some ph){v:DVal}(hv:ph.src[m]?=some v):srcAt (phB s1 s' x i ph d m) i m (valW (nmArgs s' (ph.src.take m)) v)=phB s1 s' x i ph d (m+1):=by
 unfold srcAt;rw [getD_at (phB_at h)];unfold phB;rw [List.set_set];show DBlock.mk (List.set _ i ⟨d,(valsUp s' ph.src m).set m _⟩) x.list x.fin=_;rw [valsUp_set s' hv]
theorem phB_end(h:x.phis[i]?=some ph):phB s1 (nmS ((x.phis.take i).foldl phiS s1) ph.dst) x i ph (nmR ((x.phis.take i).foldl phiS s1) ph.dst) ph.src.length=phA s1 x (i+1):=by
 unfold phB phA;rw [←phisUp_set s1 h];rfl
def lsA(P:List DPhi)(s2:Nm)(x:DBlock)(i:Nat):DBlock:=⟨P,listUp s2 x.list i,x.fin⟩
def lsB(P:List DPhi)(s2 s4:Nm)(x:DBlock)(i:Nat)(y:DIns)(m:Nat):DBlock:=⟨P,(listUp s2 x.list i).set i { y with args:=valsUp s4 y.args m },x.fin⟩
theorem lsA_zero(s1 s2:Nm)(x:DBlock):phA s1 x x.phis.length=lsA (phisUp s1 x.phis x.phis.length) s2 x 0:=by unfold phA lsA;rw [listUp_zero]
theorem lsB_zero(P:List DPhi)(s4:Nm)(h:x.list[i]?=some y):lsA P s2 x i=lsB P s2 s4 x i y 0:=by
 unfold lsA lsB;rw [valsUp_zero]
 congr 1
 exact (list_set_self (listUp_at s2 h)).symm
theorem lsB_at {P:List DPhi}(h:x.list[i]?=some y):(lsB P s2 s4 x i y m).list[i]?=some { y with args:=valsUp s4 y.args m }:=by
 unfold lsB;exact List.getElem?_set_self (by rw [listUp_len];exact (List.getElem?_eq_some_iff.1 h).1)
theorem lsB_step {P:List DPhi}(h:x.list[i]?=some y){v:DVal}(hv:y.args[m]?=some v):argAt (lsB P s2 s4 x i y m) i m (valW (nmArgs s4 (y.args.take m)) v)=lsB P s2 s4 x i y (m+1):=by
 unfold argAt;rw [getD_at (lsB_at h)];unfold lsB;rw [List.set_set];show DBlock.mk P (List.set _ i { y with args:=(valsUp s4 y.args m).set m _ }) x.fin=_;rw [valsUp_set s4 hv]
theorem lsB_end {P:List DPhi}(h:x.list[i]?=some y)(z:DIns)(hz:{ z with args:=valsUp (argsOn ((x.list.take i).foldl nmIns s2) y) y.args y.args.length }=insW ((x.list.take i).foldl nmIns s2) y) :
 insAt (lsB P s2 (argsOn ((x.list.take i).foldl nmIns s2) y) x i y y.args.length) i z=lsA P s2 x (i+1):=by
 unfold insAt;rw [getD_at (lsB_at h)];unfold lsB lsA;rw [List.set_set];show DBlock.mk P (List.set _ i { z with args:=valsUp _ y.args y.args.length }) x.fin=_;rw [hz,listUp_set s2 h]
theorem blkW_end(s1:Nm)(x:DBlock):onB (lsA (phisUp s1 x.phis x.phis.length) (x.phis.foldl phiS s1) x x.list.length) (valW (onOf s1 x) x.fin.on)=blkW s1 x:=rfl
end

end Go.Proofs.YtnkogppgacappaaGreatDoor
