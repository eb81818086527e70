import Derived.Test.YtgekbfgplclmeaaDoorPBack
/- A loop over a function whose variable lies in a box of its own, made anew each round. -/
namespace Go.Proofs.YtgekbfgplclmeaaDoor
open Go.RowKit
theorem aiD(W:World)(o p:Obj){l:Nat}(hl:l<W.heap.size):(W.alloc o).putObj l p=(W.putObj l p).alloc o:=by
 rw [<-World.alloc_eq,<-World.alloc_eq];cases W with
 | mk heap tape drawn os output =>
   simp only [World.putObj] at hl ⊢
   congr 1
   apply Array.ext_getElem?;intro i;simp only [Abn,Array.getElem?_push,Array.size_setIfInBounds,Array.size_push]
   by_cases h1:l=i
   . subst h1
     rw [if_pos rfl,if_pos (by omega),if_neg (by omega),if_pos rfl,if_pos hl]
   . rw [if_neg h1]
     by_cases h2:i=heap.size
     . rw [if_pos h2,if_pos h2]
     . rw [if_neg h2,if_neg h2,if_neg h1]
structure ada (L D:Nat)(r:Loop)(W:World):Prop where
 loop:W.heap[L]?=some (.loop r)
 mark:W.heap[D]?=some (.deferred (some []))
section
variable {L D : Nat} {r r' : Loop} {W W' : World}
theorem ada.grown(h:ada L D r W){B:Nat}{row:Option Nat}(hg:W.grownBy W' row)(hr:∀k,row=some k->B<=k∧∃o:Obj,W.heap[k]?=some o∧o.isWalk=true):ada L D r W' :=
 ⟨(grownBy_keeps hg (fun k e=>(hr k e).2) h.loop rfl).trans h.loop,(grownBy_keeps hg (fun k e=>(hr k e).2) h.mark rfl).trans h.mark⟩
theorem ada.put(h:ada L D r W)(aI:D≠L):ada L D r' (W.putObj L (.loop r')) :=
 ⟨World.putObj_heap_same (Aan.1 h.loop).1,(World.putObj_heap_other aI).trans h.mark⟩
theorem ada.others(h:ada L D r W)(hk:KeepsOthers W W'):ada L D r W':=⟨hk.same _ _ h.loop rfl,hk.same _ _ h.mark rfl⟩
end
theorem ac6 {F : Fence} {n : Nat} {P : Program} {α : Type} {g : Operand} {ps : Array Tmp} {assign body : Code} {Q : Exit -> Act -> World -> Prop} {a : Act} {w : World}
 (aQ:F.round=none) (h1:1<=n) {gf:Nat} {lb:Array Value} (hg:a.eval g = .func (.func gf) #[] lb) (aG:F.fn gf) (eg:∀args w,(callFunc gf args).run P w = .ok (.enter gf args) w)
 {af:α->Array Value} {Kp:World->World->Prop} {S Sp:List α->Prop} {N:Nat} {w0:World} (aB:SeqStopsK F (n - 1) P gf lb af Kp S Sp N w0)
 (aD:∀{A B C:World},Kp A B->Kp B C->Kp A C) (aC:∀(W:World) (l:Nat) (o o':Obj),w.heap.size<=l->W.heap[l]?=some o->o.isCells=false->o.isWalk=false->Kp W (W.putObj l o')) (aE:Below w0.heap.size w0 w) (aP:∀x,(af x).size=ps.size)
 (I:List α->World->Prop) (Ix:Code->List α->World->Prop) (hI:OwnFrom w.heap.size I) (hIx:∀c,OwnFrom w.heap.size (Ix c)) (h0:I [] w) (bx:α->Obj) (a₁:α->Nat->Act)
 (ag : ∀ (l : Nat) (x : α) (W : World) (K : Act -> World -> Prop), K (a₁ x W.heap.size) (W.alloc (bx x)) ->
   assign.wpIn (F.inRound l) (n - 1 - 1) P (Exit.then K (fun _ _ _ => False)) { tmps := (ps.zip (af x)).foldl (fun t (p, v) => t.setIfInBounds p v) a.tmps, defers := [] } W)
 (ar:∀(l:Nat) (pre:List α) (x:α) (W:World),I pre W->pre.length<N->body.wpIn (F.inRound l) (n - 1 - 1) P (ownPostK Kp I Ix (pre++[x]) W) (a₁ x W.heap.size) (W.alloc (bx x)))
 (au:∀(D:Nat) (xs:List α) (W:World),w.heap.size<=D->S xs->I xs W->W.heap[D]?=some (.deferred (some []))->Q .normal { a with defers:={ target := .collected D,args:=#[] } :: a.defers } W)
 (aw:∀(D:Nat) (c:Code) (pre:List α) (W:World),w.heap.size<=D->Sp pre->Ix c pre W->W.heap[D]?=some (.deferred (some []))->c.wpIn F n P Q { a with defers:={ target := .collected D,args:=#[] } :: a.defers } W) :
 (Code.rangeFunc g ps assign body).wpIn F n P Q a w:=by
 refine wpIn_rangeFunc ?_;intro fn aL;rw [aQ];obtain⟨D,hD⟩:∃D,D=w.heap.size:=⟨_,rfl⟩
 obtain⟨rc,ak⟩:∃rc:LoopState->Option Code->Loop,rc=fun st pe=>{ state:=st,pending:=pe,fn,tmps:=a.tmps,params:=ps,assign,body,defers:=w.heap.size }:=⟨_,rfl⟩
 have an:D≠D+1:=by omega
 obtain⟨W1,ao⟩:∃W1,W1=(w.alloc (.deferred (some []))).alloc (.loop (rc .ready none)):=⟨_,rfl⟩
 have ay:ada (D+1) D (rc .ready none) W1:=by
  refine⟨?_,?_⟩
  . have h:=World.alloc_heap_new (w.alloc (.deferred (some []))) (.loop (rc .ready none))
    rw [World.size_alloc,<-hD,<-ao] at h;exact h
  . rw [ao,hD];exact (Below.heap_alloc _ _ _ (by simp)).trans (World.alloc_heap_new w _)
 have aq:Below w.heap.size w W1:=by rw [ao];exact ((Below.refl _ w).alloc (Aad _) _).alloc (by simp) _
 have aR:w.heap.size<=W1.heap.size:=aq.size
 refine ⟨D + 1, [{ target := .collected D, args := #[] }], W1, { target := .fn (.func gf) lb, args := #[.func (.yield (D + 1)) #[] #[]] }, W1, gf,
  #[.func (.yield (D + 1)) #[] #[]] ++ lb, W1, ?_, ?_, ?_, ?_, fun _ => h1, ?_⟩
 . rw [ao,ak,hD];exact run_enterLoop_outer _ _ _ _ _
 . simp only [resolve,hg]
   simp [go_sem]
 . intro f' aF;simp [Target.leads] at aF;subst aF;exact aG
 . simp [invoke,go_sem,eg]
 have al:∀{A:World} {row:Option Nat},(∀k,row=some k->W1.heap.size<=k∧∃o:Obj,A.heap[k]?=some o∧o.isWalk=true)->(∀k,row=some k->w.heap.size<=k∧∃o:Obj,A.heap[k]?=some o∧o.isCells=false):=fun hr k e=>by
  obtain⟨q1,o,q2,q3⟩:=hr k e;exact⟨Aaj aR q1,o,q2,Obj.not_cells_of_walk q3⟩
 refine (aB (D + 1) (fun pre W => I pre W ∧ ada (D + 1) D (rc .ready none) W) (fun pre W => ∃ c, Ix c pre W ∧ ada (D + 1) D (rc .done (some c)) W) W1 (aE.trans (aq.mono aE.size))
  (fun s A B row hs av hr => ⟨hI s A B row hs.1 av (al hr), hs.2.grown av hr⟩)
  (fun s A B row hs av hr => hs.elim fun c hc => ⟨c, hIx c s A B row hc.1 av (al hr), hc.2.grown av hr⟩)
  ?round ⟨by rw [ao]; exact hI.alloc _ (hI.alloc _ h0), ay⟩).mono ?behind
 case round =>
  rintro pre x W ⟨hi,ae⟩ hlen;have aO:D+1<W.heap.size:=(Aan.1 ae.loop).1;have ax:=run_yield (P:=P) (args:=af x) ae.loop (by rw [ak];exact aP x);rw [ak] at ax
  -- the world in which the body begins,but for the box
  obtain⟨V,hV⟩:∃V,V=W.putObj (D+1) (.loop { rc .ready none with state := .busy }):=⟨_,rfl⟩
  have aK:V.heap.size=W.heap.size:=by rw [hV];exact World.putObj_size
  have ai:ada (D+1) D { rc .ready none with state := .busy } V:=by rw [hV];exact ae.put an
  have aH:Kp W V:=by rw [hV];exact aC _ _ _ _ (by omega) ae.loop rfl rfl
  have az:ada (D+1) D (rc .ready none) (W.alloc (bx x)):=ae.others (KeepsOthers.alloc _ _);refine⟨fn,_,assign,body,ax,roundIn_of_wpIn aL (ag _ x W _ ⟨_,run_beginRound az.loop (by rw [ak]),?_⟩)⟩;rw [aiD W _ _ aO,<-hV,<-aK];refine wpIn_mono (ar _ pre x V (by rw [hV];exact hI.putObj _ hi (by omega) ae.loop rfl) hlen) ?_;have aj:∀(jump:Option Code) (W3:World),ada (D+1) D { rc .ready none with state := .busy } W3 ->
   (Instr.endRound (D+1) jump).run P W3 = .ok (.bool jump.isNone) (W3.putObj (D+1) (.loop (rc (if jump.isNone then .ready else .done) jump))):=fun jump W3 ad=>by
   have h:=run_endRound (P:=P) jump ad.loop;rw [ak] at h ⊢;exact h
  rintro e a3 W3 hp;cases e with
  | normal =>
    obtain⟨aN,aA,aM⟩:=hp;have ad:=ai.others aN;exact⟨_,_,aj none W3 ad,.inl ⟨rfl,⟨hI.putObj _ aM (by omega) ad.loop rfl,ad.put an⟩,aD (aD aH aA) (aC _ _ _ _ (by omega) ad.loop rfl rfl)⟩⟩
  | ret =>
    have ad:=ai.others hp.1;exact⟨_,_,aj (some .ret) W3 ad,.inr ⟨rfl,.ret,(hIx _).putObj _ hp.2 (by omega) ad.loop rfl,ad.put an⟩⟩
  | exit id =>
    have ad:=ai.others hp.1;exact⟨_,_,aj (some (.exit id)) W3 ad,.inr ⟨rfl,.exit id,(hIx _).putObj _ hp.2 (by omega) ad.loop rfl,ad.put an⟩⟩
  | goto t =>
    have ad:=ai.others hp.1;exact⟨_,_,aj (some (.goto t)) W3 ad,.inr ⟨rfl,.goto t,(hIx _).putObj _ hp.2 (by omega) ad.loop rfl,ad.put an⟩⟩
  | panic ch=>exact hp.elim
  | outgrown=>exact hp.elim
 case behind =>
  rintro e W2 ⟨⟨v,rfl⟩,(⟨xs,hS,hi,ae⟩ | ⟨pre,aJ,c,hi,ae⟩)⟩
  . exact⟨none,_,by have h:=run_endLoop (P:=P) ae.loop (by rw [ak];simp);rw [ak] at h;exact h,au D xs _ (by omega) hS (hI.putObj _ hi (by omega) ae.loop rfl) ((World.putObj_heap_other an).trans ae.mark)⟩
  . exact⟨some c,_,by have h:=run_endLoop (P:=P) ae.loop (by rw [ak];simp);rw [ak] at h;exact h,aw D c pre _ (by omega) aJ ((hIx c).putObj _ hi (by omega) ae.loop rfl) ((World.putObj_heap_other an).trans ae.mark)⟩
end Go.Proofs.YtgekbfgplclmeaaDoor
