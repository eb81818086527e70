import Derived.Test.YtpeejlpcikefcaaGreatDoorPVals
import Derived.Test.YtpeejlpcikefcaaGreatDoorPWrites
/- A loop over a function whose variable lies in a box of its own, made anew each round. ssa.checker.uses: is what is taken known? -/
namespace Go.Proofs.YtpeejlpcikefcaaGreatDoor
section
open Go.RowKit
theorem apV(W:World)(o p:Obj){l:Nat}(hl:l<W.heap.size):(W.alloc o).putObj l p=(W.putObj l p).alloc o:=by
 rw [<-World.alloc_eq,<-World.alloc_eq];cases W with
 | mk heap tape drawn os output =>
   simp only [World.putObj] at hl ⊢
   congr 1
   apply Array.ext_getElem?;intro i;simp only [Acp,Array.getElem?_push,Array.size_setIfInBounds,Array.size_push]
   by_cases h1:l=i
   . subst h1
     rw [if_pos rfl,if_pos (by omega),if_neg (by omega),if_pos rfl,if_pos hl]
   . rw [if_neg h1]
     by_cases h2:i=heap.size
     . rw [if_pos h2,if_pos h2]
     . rw [if_neg h2,if_neg h2,if_neg h1]
structure afw (L D:Nat)(r:Loop)(W:World):Prop where
 loop:W.heap[L]?=some (.loop r)
 mark:W.heap[D]?=some (.deferred (some []))
section
variable {L D : Nat} {r r' : Loop} {W W' : World}
theorem afw.grown(h:afw L D r W){B:Nat}{row:Option Nat}(hg:W.grownBy W' row)(hr:∀k,row=some k->B<=k∧∃o:Obj,W.heap[k]?=some o∧o.isWalk=true):afw L D r W' :=
 ⟨(grownBy_keeps hg (fun k e=>(hr k e).2) h.loop rfl).trans h.loop,(grownBy_keeps hg (fun k e=>(hr k e).2) h.mark rfl).trans h.mark⟩
theorem afw.put(h:afw L D r W)(eE:D≠L):afw L D r' (W.putObj L (.loop r')) :=
 ⟨World.putObj_heap_same (Aag.1 h.loop).1,(World.putObj_heap_other eE).trans h.mark⟩
theorem afw.others(h:afw L D r W)(hk:KeepsOthers W W'):afw L D r W':=⟨hk.same _ _ h.loop rfl,hk.same _ _ h.mark rfl⟩
end
theorem ac4 {F : Fence} {n : Nat} {P : Program} {α : Type} {g : Operand} {ps : Array Tmp} {assign body : Code} {Q : Exit -> Act -> World -> Prop} {a : Act} {w : World}
 (cq:F.round=none) (h1:1<=n) {gf:Nat} {lb:Array Value} (hg:a.eval g = .func (.func gf) #[] lb) (eV:F.fn gf) (eg:∀args w,(callFunc gf args).run P w = .ok (.enter gf args) w)
 {aI:α->Array Value} {Kp:World->World->Prop} {S Sp:List α->Prop} {N:Nat} {w0:World} (cy:SeqStopsK F (n - 1) P gf lb aI Kp S Sp N w0)
 (dJ:∀{A B C:World},Kp A B->Kp B C->Kp A C) (dG:∀(W:World) (l:Nat) (o o':Obj),w.heap.size<=l->W.heap[l]?=some o->o.isCells=false->o.isWalk=false->Kp W (W.putObj l o')) (dr:Below w0.heap.size w0 w) (eQ:∀x,(aI x).size=ps.size)
 (I:List α->World->Prop) (Ix:Code->List α->World->Prop) (hI:OwnFrom w.heap.size I) (hIx:∀c,OwnFrom w.heap.size (Ix c)) (h0:I [] w) (bx:α->Obj) (a₁:α->Nat->Act)
 (aF : ∀ (l : Nat) (x : α) (W : World) (K : Act -> World -> Prop), K (a₁ x W.heap.size) (W.alloc (bx x)) ->
   assign.wpIn (F.inRound l) (n - 1 - 1) P (Exit.then K (fun _ _ _ => False)) { tmps := (ps.zip (aI x)).foldl (fun t (p, v) => t.setIfInBounds p v) a.tmps, defers := [] } W)
 (bG:∀(l:Nat) (pre:List α) (x:α) (W:World),I pre W->pre.length<N->body.wpIn (F.inRound l) (n - 1 - 1) P (ownPostK Kp I Ix (pre++[x]) W) (a₁ x W.heap.size) (W.alloc (bx x)))
 (bP:∀(D:Nat) (xs:List α) (W:World),w.heap.size<=D->S xs->I xs W->W.heap[D]?=some (.deferred (some []))->Q .normal { a with defers:={ target := .collected D,args:=#[] } :: a.defers } W)
 (bw:∀(D:Nat) (c:Code) (pre:List α) (W:World),w.heap.size<=D->Sp pre->Ix c pre W->W.heap[D]?=some (.deferred (some []))->c.wpIn F n P Q { a with defers:={ target := .collected D,args:=#[] } :: a.defers } W) :
 (Code.rangeFunc g ps assign body).wpIn F n P Q a w:=by
 refine wpIn_rangeFunc ?_;intro fn ea;rw [cq];obtain⟨D,hD⟩:∃D,D=w.heap.size:=⟨_,rfl⟩
 obtain⟨rc,aH⟩:∃rc:LoopState->Option Code->Loop,rc=fun st pe=>{ state:=st,pending:=pe,fn,tmps:=a.tmps,params:=ps,assign,body,defers:=w.heap.size }:=⟨_,rfl⟩
 have a8:D≠D+1:=by omega
 obtain⟨W1,al⟩:∃W1,W1=(w.alloc (.deferred (some []))).alloc (.loop (rc .ready none)):=⟨_,rfl⟩
 have b9:afw (D+1) D (rc .ready none) W1:=by
  refine⟨?_,?_⟩
  . have h:=World.alloc_heap_new (w.alloc (.deferred (some []))) (.loop (rc .ready none))
    rw [World.size_alloc,<-hD,<-al] at h;exact h
  . rw [al,hD];exact (Below.heap_alloc _ _ _ (by simp)).trans (World.alloc_heap_new w _)
 have bM:Below w.heap.size w W1:=by rw [al];exact ((Below.refl _ w).alloc (Aac _) _).alloc (by simp) _
 have dO:w.heap.size<=W1.heap.size:=bM.size
 refine ⟨D + 1, [{ target := .collected D, args := #[] }], W1, { target := .fn (.func gf) lb, args := #[.func (.yield (D + 1)) #[] #[]] }, W1, gf,
  #[.func (.yield (D + 1)) #[] #[]] ++ lb, W1, ?_, ?_, ?_, ?_, fun _ => h1, ?_⟩
 . rw [al,aH,hD];exact run_enterLoop_outer _ _ _ _ _
 . simp only [resolve,hg]
   simp [go_sem]
 . intro f' dn;simp [Target.leads] at dn;subst dn;exact eV
 . simp [invoke,go_sem,eg]
 have aR:∀{A:World} {row:Option Nat},(∀k,row=some k->W1.heap.size<=k∧∃o:Obj,A.heap[k]?=some o∧o.isWalk=true)->(∀k,row=some k->w.heap.size<=k∧∃o:Obj,A.heap[k]?=some o∧o.isCells=false):=fun hr k e=>by
  obtain⟨q1,o,q2,q3⟩:=hr k e;exact⟨Aai dO q1,o,q2,Obj.not_cells_of_walk q3⟩
 refine (cy (D + 1) (fun pre W => I pre W ∧ afw (D + 1) D (rc .ready none) W) (fun pre W => ∃ c, Ix c pre W ∧ afw (D + 1) D (rc .done (some c)) W) W1 (dr.trans (bM.mono dr.size))
  (fun s A B row hs br hr => ⟨hI s A B row hs.1 br (aR hr), hs.2.grown br hr⟩)
  (fun s A B row hs br hr => hs.elim fun c hc => ⟨c, hIx c s A B row hc.1 br (aR hr), hc.2.grown br hr⟩)
  ?round ⟨by rw [al]; exact hI.alloc _ (hI.alloc _ h0), b9⟩).mono ?behind
 case round =>
  rintro pre x W ⟨hi,ae⟩ hlen;have eJ:D+1<W.heap.size:=(Aag.1 ae.loop).1;have bu:=run_yield (P:=P) (args:=aI x) ae.loop (by rw [aH];exact eQ x);rw [aH] at bu
  -- the world in which the body begins,but for the box
  obtain⟨V,hV⟩:∃V,V=W.putObj (D+1) (.loop { rc .ready none with state := .busy }):=⟨_,rfl⟩
  have eU:V.heap.size=W.heap.size:=by rw [hV];exact World.putObj_size
  have aJ:afw (D+1) D { rc .ready none with state := .busy } V:=by rw [hV];exact ae.put a8
  have eS:Kp W V:=by rw [hV];exact dG _ _ _ _ (by omega) ae.loop rfl rfl
  have cA:afw (D+1) D (rc .ready none) (W.alloc (bx x)):=ae.others (KeepsOthers.alloc _ _);refine⟨fn,_,assign,body,bu,roundIn_of_wpIn ea (aF _ x W _ ⟨_,run_beginRound cA.loop (by rw [aH]),?_⟩)⟩;rw [apV W _ _ eJ,<-hV,<-eU];refine wpIn_mono (bG _ pre x V (by rw [hV];exact hI.putObj _ hi (by omega) ae.loop rfl) hlen) ?_;have aG:∀(jump:Option Code) (W3:World),afw (D+1) D { rc .ready none with state := .busy } W3 ->
   (Instr.endRound (D+1) jump).run P W3 = .ok (.bool jump.isNone) (W3.putObj (D+1) (.loop (rc (if jump.isNone then .ready else .done) jump))):=fun jump W3 ad=>by
   have h:=run_endRound (P:=P) jump ad.loop;rw [aH] at h ⊢;exact h
  rintro e a3 W3 hp;cases e with
  | normal =>
    obtain⟨bn,cE,dW⟩:=hp;have ad:=aJ.others bn;exact⟨_,_,aG none W3 ad,.inl ⟨rfl,⟨hI.putObj _ dW (by omega) ad.loop rfl,ad.put a8⟩,dJ (dJ eS cE) (dG _ _ _ _ (by omega) ad.loop rfl rfl)⟩⟩
  | ret =>
    have ad:=aJ.others hp.1;exact⟨_,_,aG (some .ret) W3 ad,.inr ⟨rfl,.ret,(hIx _).putObj _ hp.2 (by omega) ad.loop rfl,ad.put a8⟩⟩
  | exit id =>
    have ad:=aJ.others hp.1;exact⟨_,_,aG (some (.exit id)) W3 ad,.inr ⟨rfl,.exit id,(hIx _).putObj _ hp.2 (by omega) ad.loop rfl,ad.put a8⟩⟩
  | goto t =>
    have ad:=aJ.others hp.1;exact⟨_,_,aG (some (.goto t)) W3 ad,.inr ⟨rfl,.goto t,(hIx _).putObj _ hp.2 (by omega) ad.loop rfl,ad.put a8⟩⟩
  | panic ch=>exact hp.elim
  | outgrown=>exact hp.elim
 case behind =>
  rintro e W2 ⟨⟨v,rfl⟩,(⟨xs,hS,hi,ae⟩ | ⟨pre,ek,c,hi,ae⟩)⟩
  . exact⟨none,_,by have h:=run_endLoop (P:=P) ae.loop (by rw [aH];simp);rw [aH] at h;exact h,bP D xs _ (by omega) hS (hI.putObj _ hi (by omega) ae.loop rfl) ((World.putObj_heap_other a8).trans ae.mark)⟩
  . exact⟨some c,_,by have h:=run_endLoop (P:=P) ae.loop (by rw [aH];simp);rw [aH] at h;exact h,bw D c pre _ (by omega) ek ((hIx c).putObj _ hi (by omega) ae.loop rfl) ((World.putObj_heap_other a8).trans ae.mark)⟩
end
section
open Go.RowKit Go.Shelf Go.Sort
attribute [local go_sem] Oper.semAt_some
theorem acu {F : Fence} {n : Nat} {P : Program} {id : Nat} {Q : Exit -> Act -> World -> Prop} {a : Act} {w : World} {l : List Oper} (cq : F.round = none) (hm : P.follows .mixedOrders = true) (hB : Region.lexB .any l.toArray = true)
 (h:wpQuietIn F n P l.toArray (fun w'=>∃p:Regrown,w'=grow (redrawn w p.d) p.os) (fun a'=>∀w',(∃p:Regrown,w'=grow (redrawn w p.d) p.os)->Q .normal a' w') l a):(Code.region id l.toArray true).wpIn F n P Q a w :=
 wpIn_region_quiet (C:=fun w'=>∃p:Regrown,w'=grow (redrawn w p.d) p.os) cq hm hB ⟨⟨w.drawn+1,#[]⟩,by rw [grow_empty];rfl⟩ (by simpa using h)
structure as4 (CB RB cap:Nat)(nm:ByteArray)(ba ua:Option Addr)(bc uc:Nat)(f:aaz)(t:List (Int×Int))(W:World):Prop where
 box:aal W CB 0 [.string nm,.int .i64 f.params,.int .i64 f.regs,.slice ba f.blocks.length bc,.slice ua f.blocks.length uc,.slice (some ⟨RB,0,none⟩) f.regs.toNat cap]
 row:W.heap[RB]?=some (.cells (amX t) 96 (0,0))
 up:SlAt (fun _=>True) W 1 acx (.slice ua f.blocks.length uc) (agu f.blocks)
 bs:SlAt (fun _=>True) W 6 aa0 (.slice ba f.blocks.length bc) f.blocks
 len:t.length=f.regs.toNat
theorem as4.later {CB RB cap:Nat}{nm:ByteArray}{ba ua:Option Addr}{bc uc:Nat}{f:aaz}{t:List (Int×Int)}{W W':World}(h:as4 CB RB cap nm ba ua bc uc f t W)(hb:Below W.heap.size W W'):as4 CB RB cap nm ba ua bc uc f t W' :=
 ⟨h.box.later hb,by rw [hb.block RB (Aag.1 h.row).1];exact h.row,h.up.later aaw hb,h.bs.later aat hb,h.len⟩
theorem ajS {CB RB cap:Nat}{nm:ByteArray}{ba ua:Option Addr}{bc uc:Nat}{f:aaz}{t:List (Int×Int)}{W:World}(h:as4 CB RB cap nm ba ua bc uc f t W)(hf:arR f){v:aay}(hv:VOk f.regs v){blk:Nat}(hb:blk<f.blocks.length)(a:Int) :
 Calls Tryz.prog 80 #[.pointer (some ⟨CB,0,none⟩),.agg #[.bool v.reg,.int .i64 v.n],.int .i64 (blk:Int),.int .i64 a] W fun e W'=>e = .returned (.bool (adV f.blocks t v (blk:Int) a))∧Below W.heap.size W W':=by
 have e3:=hf.pr;obtain⟨-,-,-,-,c4,c5⟩:=h.box.get6;unfold adV;cases hr:v.reg with
 | true =>
   obtain⟨h0,h1⟩:=hv hr;obtain⟨q,hq⟩:=Abb h0;have aT:q<t.length:=by rw [h.len];omega
   rw [hq,Aan,aiq aT];have d0:W.cell? ⟨RB,q * 2,none⟩=some (.int .i64 t[q].1):=by rw [aaX h.row];exact (ajU aT).1
   have d1:W.cell? ⟨RB,q * 2+1,none⟩=some (.int .i64 t[q].2):=by rw [aaX h.row];exact (ajU aT).2
   exact aoK CB RB _ cap q (blk:Int) a _ _ ua uc f.blocks.length (agu f.blocks) (psF f.blocks) W c5 c4 h.up (aid _) (by have:=hf.len;omega) (ark hf.toOk) (by omega) d0 d1 (by rw [<-h.len];exact aT) (by omega)
 | false =>
   unfold afL;rw [if_pos rfl];exact aoL _ _ _ _ _
theorem aeZ {b c : Bool} (w w1 V : World) (ds : List Deferred) (tmps : Array Value) (h2 : tmps[2]? = some (.pointer (some ⟨w.heap.size + 1, 0, none⟩))) (hm : adG w1.heap.size V.heap.size ds V) (hc : V.cell? ⟨w.heap.size + 1, 0, none⟩ = some (.bool c)) (eG : c = b)
 (hb:RowKit.Below w.heap.size w V) (hz:w.heap.size+1<w1.heap.size) (ev:w1.heap.size<=V.heap.size) :
 bodyPostM Fence.wide 6 Tryz.prog Tryz.f51 (fun e w'=>e = .returned (.bool b)∧RowKit.Below w.heap.size w w') .ret { tmps:=tmps,defers:=ds } V:=by
 subst eG;refine aeH (B:=w1.heap.size) (C:=V.heap.size) ds _ ev hm (fun W' hW=>?_);have dZ:W'.cell? ⟨w.heap.size+1,0,none⟩=some (.bool c):=by
  have h:=hW.1.block (w.heap.size+1) hz;rw [World.cell?_of_block (w:=V) (a:=⟨w.heap.size+1,0,none⟩) h,hc]
 refine⟨.bool c,?_,rfl,hb.trans (hW.1.mono (by omega))⟩;have cg:Tryz.f51.results=#[.cell 2 4]:=rfl;unfold results;rw [cg];simp [go_sem,h2,dZ]
theorem ajj {n:Nat}{p:Nat->Bool}{i:Nat}(hi:i<n)(h:p i=false):(List.range n).all p=false:=by
 rw [List.all_eq_false];exact⟨i,Abx.2 hi,by simp [h]⟩
set_option maxRecDepth 100000 in
set_option maxHeartbeats 8000000 in
theorem ars(CB RB cap:Nat)(nm:ByteArray)(ba ua:Option Addr)(bc uc:Nat)(f:aaz)(t:List (Int×Int))(w:World)(hf:arR f)(hk:as4 CB RB cap nm ba ua bc uc f t w) :
 Calls Tryz.prog 51 #[.pointer (some ⟨CB,0,none⟩)] w fun e w'=>e = .returned (.bool (ajN f t))∧Below w.heap.size w w':=by
 have Hf:=hid hf;have Hk:=hid hk;obtain⟨bs,b3⟩:∃bs,bs=f.blocks:=⟨_,rfl⟩
 have eZ:bs.length<=40:=by rw [b3];exact hf.len.2
 have ag:=hid b3;obtain⟨c0,c1,c2,c3,c4,c5⟩:=hk.box.get6;have zC:CB<w.heap.size:=aac c0;rw [<-b3] at c3 c4;have dE:=adO (S:=fun _=>True) nm f.params f.regs ba bc bs;have dD:=hid dE;clear hf hk b3 dE c4 c5;refine (callsIn_wide (n:=6)).1 ?_;refine callsIn_of_wp_marks Tryz.func51 rfl trivial ?_ rfl;simp only [Tryz.ntmps51,Abn,Aba,Ab5,Nat.reduceAdd,Nat.reduceSub,Ace,Acf,List.push_toArray,Acg,Abc,Ab6]
 gi_wp2_with (first
  | (refine ⟨trivial, ?_⟩; gi_at_call 74; refine (callsIn_wide.2 (dD.out _ ?_ (by omega) (by rw [ag.out]; exact Hf.out.tgt))).mono ?_
     . have h := Hk.out.bs
       rw [<- ag.out] at h
       exact h.later aat bE
     rintro e w1 ⟨v, rfl, hv, az⟩
     obtain ⟨va, vc, eK, -⟩ := hv.val
     subst eK
     have cU : (aheadF bs).length = bs.length := by unfold aheadF; simp
     rw [cU] at hv ⊢
     have Hv := hid (hv.mono acX (S' := fun _ => True) (fun _ _ => trivial) (aaS.refl _ _))
     have r0 : ((w.alloc (.cells #[.pointer (some ⟨CB, 0, none⟩)] 91)).alloc (.cells #[.bool false] 4)).cell? ⟨w.heap.size, 0, none⟩ = some (.pointer (some ⟨CB, 0, none⟩)) := by simp
     have r1 : ((w.alloc (.cells #[.pointer (some ⟨CB, 0, none⟩)] 91)).alloc (.cells #[.bool false] 4)).cell? ⟨w.heap.size + 1, 0, none⟩ = some (.bool false) := by simp
     have r2 : ((w.alloc (.cells #[.pointer (some ⟨CB, 0, none⟩)] 91)).alloc (.cells #[.bool false] 4)).frozen? ⟨w.heap.size + 1, 0, none⟩ = false := by simp
     have r0 := aab r0 az
     have ct := aab r1 az
     have r2 := (az.frozen (p := ⟨w.heap.size + 1, 0, none⟩) (aac r1)).trans r2
     have cK : Below w.heap.size w w1 := by exact bE1 az
     have z0 : w.heap.size < w1.heap.size := aac r0
     have z1 : w.heap.size + 1 < w1.heap.size := aac ct
     have g3 := aab c3 cK
     have fe : CB < w1.heap.size := aac g3
     have ay := hid cK
     have R0 := hid r0
     have R1 := hid ct
     have R2 := hid r2
     clear hv az r1 ct r2 cU cK))
 have dL:=hid Hv.out;clear r0 g3 Hv dD;have dU:=hid (Hk.out.later ay.out);obtain⟨PU,cO⟩:∃PU:Nat->Bool,PU=fun i=>ajM bs t i (bs.getD i ajs):=⟨_,rfl⟩
 have dN:=hid cO;have aC:Hid (ajN f t=(List.range bs.length).all PU):=by show _=_;unfold ajN;rw [<-ag.out,cO]
 clear cO Hk
 refine wpIn_loop (fun a W => ∃ (i : Nat) (ds : List Deferred) (u4 u5 u7 u8 u9 u10 u11 u12 u13 u26 u27 u28 u29 u30 u31 u32 u33 u34 u35 u36 u37 u38 u39 u40 u41 u42 u43 u44 u45 u46 u47 u48 u49 u50 u51 u52 u53 u54 u55 u56 u57 u58 u59 u60 u61 u62 u63 u64 u65 u66 u67 u68 u69 u70 u71 u72 u73 u74 u75 u76 u77 u78 u79 u80 u81 u82 u83 u84 u85 u86 u87 u88 u89 u90 u91 u92 u93 u94 u95 u96 u97 : Value), a = { tmps := #[(.pointer (some ⟨CB, 0, none⟩)), (.pointer (some ⟨w.heap.size, 0, none⟩)), (.pointer (some ⟨w.heap.size + 1, 0, none⟩)), (.slice va bs.length vc), u4, u5, undef, u7, u8, u9, u10, u11, u12, u13, (.pointer (some ⟨CB, 0, none⟩)), (.pointer (some ⟨CB, 0, none⟩)), (.pointer (some ⟨CB, 0, none⟩)), (.agg #[.string nm, .int .i64 f.params, .int .i64 f.regs, .slice ba bs.length bc]), (.slice va bs.length vc), (.pointer (some ⟨CB, 0, none⟩)), (.pointer (some ⟨CB, 0, none⟩)), (.pointer (some ⟨CB, 0, none⟩)), (.pointer (some ⟨CB, 3, none⟩)), (.slice ba bs.length bc), (.int .i64 (bs.length : Int)), (.int .i64 (i : Int)), u26, u27, u28, u29, u30, u31, u32, u33, u34, u35, u36, u37, u38, u39, u40, u41, u42, u43, u44, u45, u46, u47, u48, u49, u50, u51, u52, u53, u54, u55, u56, u57, u58, u59, u60, u61, u62, u63, u64, u65, u66, u67, u68, u69, u70, u71, u72, u73, u74, u75, u76, u77, u78, u79, u80, u81, u82, u83, u84, u85, u86, u87, u88, u89, u90, u91, u92, u93, u94, u95, u96, u97], defers := ds } ∧ i <= bs.length ∧ (∀ j, j < i -> PU j = true) ∧ Below w1.heap.size w1 W ∧ adG w1.heap.size W.heap.size ds W)
  (fun a _=>bs.length - (intOf (a.tmps.getD 25 undef)).toNat) ?h0 ?round
 case h0=>exact⟨0,[],undef,undef,undef,undef,undef,undef,undef,undef,undef,undef,undef,undef,undef,undef,undef,undef,undef,undef,undef,undef,undef,undef,undef,undef,undef,undef,undef,undef,undef,undef,undef,undef,undef,undef,undef,undef,undef,undef,undef,undef,undef,undef,undef,undef,undef,undef,undef,undef,undef,undef,undef,undef,undef,undef,undef,undef,undef,undef,undef,undef,undef,undef,undef,undef,undef,undef,undef,undef,undef,undef,undef,undef,undef,undef,undef,undef,undef,undef,undef,undef,undef,rfl,Aaj _,fun j hj=>by omega,Below.refl _ _,adG.nil _ _ _⟩
 case round =>
  intro _ wo hinv;obtain⟨i,ds,hinv⟩:=hinv;obtain⟨u4,hinv⟩:=hinv;obtain⟨u5,hinv⟩:=hinv;obtain⟨u7,hinv⟩:=hinv;obtain⟨u8,hinv⟩:=hinv;obtain⟨u9,hinv⟩:=hinv;obtain⟨u10,hinv⟩:=hinv;obtain⟨u11,hinv⟩:=hinv;obtain⟨u12,hinv⟩:=hinv;obtain⟨u13,hinv⟩:=hinv;obtain⟨u26,hinv⟩:=hinv;obtain⟨u27,hinv⟩:=hinv;obtain⟨u28,hinv⟩:=hinv;obtain⟨u29,hinv⟩:=hinv;obtain⟨u30,hinv⟩:=hinv;obtain⟨u31,hinv⟩:=hinv;obtain⟨u32,hinv⟩:=hinv;obtain⟨u33,hinv⟩:=hinv;obtain⟨u34,hinv⟩:=hinv;obtain⟨u35,hinv⟩:=hinv;obtain⟨u36,hinv⟩:=hinv;obtain⟨u37,hinv⟩:=hinv;obtain⟨u38,hinv⟩:=hinv;obtain⟨u39,hinv⟩:=hinv;obtain⟨u40,hinv⟩:=hinv;obtain⟨u41,hinv⟩:=hinv;obtain⟨u42,hinv⟩:=hinv;obtain⟨u43,hinv⟩:=hinv;obtain⟨u44,hinv⟩:=hinv;obtain⟨u45,hinv⟩:=hinv;obtain⟨u46,hinv⟩:=hinv;obtain⟨u47,hinv⟩:=hinv;obtain⟨u48,hinv⟩:=hinv;obtain⟨u49,hinv⟩:=hinv;obtain⟨u50,hinv⟩:=hinv;obtain⟨u51,hinv⟩:=hinv;obtain⟨u52,hinv⟩:=hinv;obtain⟨u53,hinv⟩:=hinv;obtain⟨u54,hinv⟩:=hinv;obtain⟨u55,hinv⟩:=hinv;obtain⟨u56,hinv⟩:=hinv;obtain⟨u57,hinv⟩:=hinv;obtain⟨u58,hinv⟩:=hinv;obtain⟨u59,hinv⟩:=hinv;obtain⟨u60,hinv⟩:=hinv;obtain⟨u61,hinv⟩:=hinv;obtain⟨u62,hinv⟩:=hinv;obtain⟨u63,hinv⟩:=hinv;obtain⟨u64,hinv⟩:=hinv;obtain⟨u65,hinv⟩:=hinv;obtain⟨u66,hinv⟩:=hinv;obtain⟨u67,hinv⟩:=hinv;obtain⟨u68,hinv⟩:=hinv;obtain⟨u69,hinv⟩:=hinv;obtain⟨u70,hinv⟩:=hinv;obtain⟨u71,hinv⟩:=hinv;obtain⟨u72,hinv⟩:=hinv;obtain⟨u73,hinv⟩:=hinv;obtain⟨u74,hinv⟩:=hinv;obtain⟨u75,hinv⟩:=hinv;obtain⟨u76,hinv⟩:=hinv;obtain⟨u77,hinv⟩:=hinv;obtain⟨u78,hinv⟩:=hinv;obtain⟨u79,hinv⟩:=hinv;obtain⟨u80,hinv⟩:=hinv;obtain⟨u81,hinv⟩:=hinv;obtain⟨u82,hinv⟩:=hinv;obtain⟨u83,hinv⟩:=hinv;obtain⟨u84,hinv⟩:=hinv;obtain⟨u85,hinv⟩:=hinv;obtain⟨u86,hinv⟩:=hinv;obtain⟨u87,hinv⟩:=hinv;obtain⟨u88,hinv⟩:=hinv;obtain⟨u89,hinv⟩:=hinv;obtain⟨u90,hinv⟩:=hinv;obtain⟨u91,hinv⟩:=hinv;obtain⟨u92,hinv⟩:=hinv;obtain⟨u93,hinv⟩:=hinv;obtain⟨u94,hinv⟩:=hinv;obtain⟨u95,hinv⟩:=hinv;obtain⟨u96,hinv⟩:=hinv;obtain⟨u97,hinv⟩:=hinv;obtain⟨ha,hi,bK,bk,cZ⟩:=hinv;subst ha;have bO:=hid bK;have aN:=hid bk;have a1:=hid cZ;have r0:=aab R0.out bk;have r1:=aab R1.out bk;have r2:=(bk.frozen (p:=⟨w.heap.size+1,0,none⟩) z1).trans R2.out;have b8:=hid (dU.out.later bk);obtain⟨et,ee,ef,c3,eu,dS⟩:=b8.out.box.get6;rw [<-ag.out] at c3;have e9:CB<wo.heap.size:=aac c3;have z2:w.heap.size<wo.heap.size:=aac r0;have z3:w.heap.size+1<wo.heap.size:=aac r1;have z4:=bk.size;clear bK bk cZ et ee ef eu dS
  by_cases hib:i<bs.length
  . have bd:=b8.out.bs
    rw [<-ag.out] at bd;obtain⟨xb,ai,cs,eN,-,hx,-,ar⟩:=bd.get hib;subst eN;obtain⟨pa,pc,la,lc,ta,tc,rfl,cG,b7,-,ez,eF,-,-,-⟩:=hx.opens;obtain⟨d0,d1,d2,d3,d4,d5⟩:=ar.get6;have zx:xb<wo.heap.size:=aac d0;obtain⟨x,bW⟩:∃x,x=bs[i]:=⟨_,rfl⟩
    rw [<-bW] at cG b7 ez eF d0 d1 d2 d3 d4 d5;have c8:f.blocks[i]?=some x:=by rw [<-ag.out,bW,Aaa hib]
    have bX:=hid c8;have dg:Hid (PU i=ajM bs t i x):=by
     show _=_;rw [dN.out];dsimp only;rw [Aaf,Aaa hib,<-bW];rfl
    obtain⟨W1,al⟩:∃W1,W1=(wo.alloc (.cells #[.int .i64 (i:Int)] 3)).alloc (.cells #[.slice pa x.phis.length pc,.slice la x.list.length lc,.int .i64 x.fin.kind,.bool x.fin.on.reg,.int .i64 x.fin.on.n,.slice ta x.fin.to.length tc] 46):=⟨_,rfl⟩
    have az:Below wo.heap.size wo W1:=by rw [al];exact bE
    have bS:W1.heap.size=wo.heap.size+2:=by rw [al];simp
    have e0:W1.cell? ⟨wo.heap.size,0,none⟩=some (.int .i64 (i:Int)):=by rw [al];simp
    have e1:aal W1 (wo.heap.size+1) 0 [.slice pa x.phis.length pc,.slice la x.list.length lc,.int .i64 x.fin.kind,.bool x.fin.on.reg,.int .i64 x.fin.on.n,.slice ta x.fin.to.length tc]:=by
     rw [al];exact .cons (by simp) (.cons (by simp) (.cons (by simp) (.cons (by simp) (.cons (by simp) (.cons (by simp) (.nil _ _ _))))))
    have c6:=hid al;have eI:=hid (cG.later ace az);have eO:=hid (b7.later aax az);have E0:=hid e0;have E1:=hid e1;have aA:=hid az;have aV:=hid bS;clear cG b7 hx ar c8 bW al e0 e1 az bd bS
    gi_wp2
    clear d0 d1 d2 d3 d4 d5;rw [<-c6.out];have cu:=hid (aab r0 aA.out);have bl:=hid (aab r1 aA.out);have cL:=hid ((aA.out.frozen (p:=⟨w.heap.size+1,0,none⟩) z3).trans r2);have cT:=hid (b8.out.later aA.out);clear r0 r1 r2 c3;obtain⟨IB,cw⟩:∃IB,IB=wo.heap.size:=⟨_,rfl⟩
    rw [<-cw] at E0 E1 ⊢;have e8:=hid cw;have zI:IB+1<W1.heap.size:=by rw [aV.out];omega
    clear cw c6;obtain⟨PH,cH⟩:∃PH:Nat->Bool,PH=fun k=>(List.range (x.phis.getD k apB).src.length).all fun j=>aeW bs t (aaf bs 0 i) (x.phis.getD k apB).src j:=⟨_,rfl⟩
    obtain⟨IN,cx⟩:∃IN:Nat->Bool,IN=fun j=>afZ bs t i j (x.list.getD j asI):=⟨_,rfl⟩
    have bg:Hid (PU i=((List.range x.phis.length).all PH&&((List.range x.list.length).all IN&&adV bs t x.fin.on i x.list.length))):=by
     show _=_;rw [dg.out,cH,cx];rfl
    have eP:=hid cH;have dX:=hid cx;clear cH cx dg
    gi_loopw [33] (fun s33 wi=>∃(k:Nat),k<=x.phis.length∧s33 = .int .i64 k∧(∀k',k'<k->PH k'=true)∧Below W1.heap.size W1 wi) (fun s33 _=>x.phis.length - (intOf s33).toNat)
    case atStart=>exact⟨0,Aaj _,rfl,fun k' aX=>by omega,Below.refl _ _⟩
    case round =>
     obtain⟨k,hk,rfl,aS,ae⟩:=hrel;have aw:=hid aS;have aU:=hid ae;clear aS ae
     by_cases hkl:k<x.phis.length
     . obtain⟨pb,aD,cs,rfl,-,hp,-,ar⟩:=(eI.out.later ace aU.out).get hkl
       obtain⟨sa,sc,rfl,a7,eh,-⟩:=hp.opens;obtain⟨d0,d1⟩:=ar.get2;have zp:pb<wr.heap.size:=aac d0;obtain⟨y,hy⟩:∃y,y=x.phis[k]:=⟨_,rfl⟩
       rw [<-hy] at d0 d1 a7 eh;have bm:y∈x.phis:=by rw [hy];exact Aaq _
       have dc:=hid (Hf.out.phi i x bX.out y bm);have di:Hid (PH k=(List.range y.src.length).all fun j=>aeW bs t (aaf bs 0 i) y.src j):=by
        show _=_;rw [eP.out];dsimp only;rw [Aaf,Aaa hkl,<-hy];rfl
       obtain⟨W2,aE⟩:∃W2,W2=wr.alloc (.cells #[.int .i64 y.dst,.slice sa y.src.length sc] 115):=⟨_,rfl⟩
       have b6:Below wr.heap.size wr W2:=by rw [aE];exact bE
       have e1:W2.cell? ⟨wr.heap.size,1,none⟩=some (.slice sa y.src.length sc):=by rw [aE];simp
       have b0:=hid (aU.out.trans (b6.mono aU.out.size));have cj:=hid (a7.later aaN b6);have dp:=hid aE;have zw:wr.heap.size<W2.heap.size:=aac e1;clear hp ar hy bm a7 aE b6
       gi_wp2
       clear d0 d1;rw [<-dp.out];clear dp;obtain⟨PB,dk⟩:∃PB,PB=wr.heap.size:=⟨_,rfl⟩
       rw [<-dk] at e1 zw ⊢;clear dk
       gi_loopw [40] (fun s40 wj=>∃(j:Nat),j<=y.src.length∧s40 = .int .i64 j∧(∀j',j'<j->aeW bs t (aaf bs 0 i) y.src j'=true)∧Below W2.heap.size W2 wj) (fun s40 _=>y.src.length - (intOf s40).toNat)
       case atStart=>exact⟨0,Aaj _,rfl,fun k' aX=>by omega,Below.refl _ _⟩
       case round =>
        obtain⟨j,hj,rfl,aQ,bo⟩:=hrel;have aK:=hid aQ;have ah:=hid bo;have aq:Hid (Below W1.heap.size W1 wr):=b0.out.trans (bo.mono b0.out.size);clear aQ bo
        by_cases hjl:j<y.src.length
        . obtain⟨vb,eD,cs,rfl,-,ec,-,ar⟩:=(cj.out.later aaN ah.out).get hjl
          obtain⟨rfl,-⟩:=ec;obtain⟨d0,d1⟩:=ar.get2;have zv:vb<wr.heap.size:=aac d0;obtain⟨v,hv⟩:∃v,v=y.src[j]:=⟨_,rfl⟩
          rw [<-hv] at d0 d1;have bN:VOk f.regs v:=dc.out.2.2 v (by rw [hv];exact Aaq _);have bR:j<(aaf bs 0 i).length:=by rw [ag.out,<-dc.out.2.1];exact hjl
          have cS:i<(aheadF bs).length:=by unfold aheadF;simpa using hib
          have dA:Below w1.heap.size w1 wr:=aN.out.trans (((aA.out.mono (Aac _)).trans (aq.out.mono (by rw [aV.out];omega))).mono aN.out.size);obtain⟨rb,dP,fi,rfl,-,⟨rv,rfl,av⟩,-,bH⟩:=(dL.out.later acX dA).get cS;have c7:(aheadF bs)[i]=aaf bs 0 i:=by
           have h:=acF hib;rw [Aaf,Aaa cS] at h;exact h
          rw [c7] at av;obtain⟨ra,rc,eo,dz⟩:=av.val;subst eo;have g0:=bH.get1;rw [Abd] at g0;obtain⟨R,hR⟩:∃R,R=(aaf bs 0 i).length:=⟨_,rfl⟩
          have e5:j<R:=by rw [hR];exact bR
          rw [<-hR] at g0 av dz;obtain⟨ib,eR,dV,g1⟩:=adw av bR;subst dV;have au:=abr (Aaq bR);obtain⟨q,hq⟩:=Abb au.1;rw [hq] at g1;have aT:q<bs.length:=by omega
          have e0:=aab E0.out aq.out;have zr:rb<wr.heap.size:=aac g0;have zi:ib<wr.heap.size:=aac g1;have fh:IB<wr.heap.size:=aac e0;obtain⟨W3,bU⟩:∃W3,W3=wr.alloc (.cells #[.bool v.reg,.int .i64 v.n] 41):=⟨_,rfl⟩
          have ad:Below wr.heap.size wr W3:=by rw [bU];exact bE
          have an:Hid (Below W1.heap.size W1 W3):=aq.out.trans (ad.mono aq.out.size);have bn:=cT.out.later an.out;have aW:=bn.bs;rw [<-ag.out] at aW;obtain⟨fb,c9,fg,cP,-,dd,-,bq⟩:=aW.get aT;cases cP;obtain⟨eX,ff,eB,ep,e7,e2,rfl,-,-,-,-,-,-,-,-⟩:=dd.opens;have m1:W3.cell? ⟨xb,ai+q * 6+1,none⟩=some (.slice eB bs[q].list.length ep):=bq 1 _ rfl;have cm:((bs[q].list.length:Nat):Int)=apD f.blocks (q:Int):=by
           unfold apD;rw [Aan,Aaf,<-ag.out,Aaa aT,Option.getD_some]
          obtain⟨ln,dF⟩:∃ln,ln=bs[q].list.length:=⟨_,rfl⟩
          rw [<-dF] at m1 cm;have m0:=aab cu.out an.out;obtain⟨-,-,-,m3,-,-⟩:=bn.box.get6;rw [<-ag.out] at m3;have bZ:W3.cell? ⟨wr.heap.size,0,none⟩=some (.bool v.reg):=by rw [bU];simp
          have b4:W3.cell? ⟨wr.heap.size,1,none⟩=some (.int .i64 v.n):=by rw [bU];simp
          have mr:=aab bl.out an.out;have mf:=(an.out.frozen (p:=⟨w.heap.size+1,0,none⟩) (aac bl.out)).trans cL.out;have MR:=hid mr;have MF:=hid mf;obtain⟨kv,ak⟩:∃kv,kv=aeW bs t (aaf bs 0 i) y.src j:=⟨_,rfl⟩
          have bQ:adV f.blocks t v (q:Int) (ln:Int)=kv:=by
           rw [ak,cm,<-ag.out];unfold aeW;rw [Aaf,Aaa hjl,Aaf,Aaa bR,<-hv];show adV bs t v (q:Int) (apD bs (q:Int))=adV bs t v ((aaf bs 0 i)[j]) (apD bs ((aaf bs 0 i)[j]));rw [hq]
          have cW:∀m d os,CallsIn Fence.wide m Tryz.prog 80 #[.pointer (some ⟨CB,0,none⟩),.agg #[.bool v.reg,.int .i64 v.n],.int .i64 (q:Int),.int .i64 (ln:Int)] (grow (redrawn W3 d) os) fun e eM=>e = .returned (.bool kv)∧∃p:Regrown,eM=grow (redrawn W3 p.d) p.os:=fun m d os=>by
           have h:=callsIn_wide (n:=m).2 (ajS (bn.later (below_regrown W3 d os)) Hf.out bN (by rw [<-ag.out];exact aT) (ln:Int));rw [bQ] at h;exact CallsIn.regrown_of h
          have dy:=hid cW;have bp:=hid ak;have dm:=hid bU;have er:(0:Int)<=(q:Int):=by omega
          have dq:=hid ad;clear ar hv bN av bH c7 hR dz au hq bU ad bn aW dd bq cm dF ak bQ cW mr mf bR cS dA
          gi_wp2
          rw [<-dm.out];clear d0 d1 g0 g1 e0;have k0:=cell_regrown m0;have k1:=cell_regrown m1;have k3:=cell_regrown m3;have ck:=cell_regrown bZ;have cr:=cell_regrown b4;obtain⟨VB,dj⟩:∃VB,VB=wr.heap.size:=⟨_,rfl⟩
          rw [<-dj] at bZ b4 ck cr ⊢;have zq:(q:Int)<(bs.length:Int):=by omega
          clear dj dm;cases kv with
          | true =>
            refine acu rfl (by kernel_rfl) (by kernel_rfl) ?_
            repeat (gi_big_quiet_step (fail))
            refine wpQuietIn_step (fun _ _ _ _=>trivial) (fun K hK=>?_);go_simp;refine⟨_,fun _=>dy.out _ _ _,hK _ ?_⟩;clear hK K
            repeat (gi_big_quiet_step (fail))
            refine wpQuietIn_nil ?_;intro W' cN;obtain⟨rg,bJ⟩:=cN;have aZ:Below W3.heap.size W3 W':=by rw [bJ];exact below_regrown _ _ _
            clear bJ k0 k1 k3 ck cr m0 m1 m3 bZ b4;have eL:=hid (ah.out.trans ((dq.out.trans (aZ.mono dq.out.size)).mono ah.out.size));clear aZ
            gi_wp2
            go_roundw
            case rel=>exact⟨j+1,by omega,by go_num,abY aK.out bp.out.symm,eL.out⟩
            case measure=>simp [intOf];omega
          | false =>
            refine acu rfl (by kernel_rfl) (by kernel_rfl) ?_
            repeat (gi_big_quiet_step (fail))
            refine wpQuietIn_step (fun _ _ _ _=>trivial) (fun K hK=>?_);go_simp;refine⟨_,fun _=>dy.out _ _ _,hK _ ?_⟩;clear hK K
            repeat (gi_big_quiet_step (fail))
            refine wpQuietIn_nil ?_;intro W' cN;obtain⟨rg,bJ⟩:=cN;have aZ:Below W3.heap.size W3 W':=by rw [bJ];exact below_regrown _ _ _
            clear bJ k0 k1 k3 ck cr m0 m1 m3 bZ b4;have bz:Below W1.heap.size W1 W':=an.out.trans (aZ.mono an.out.size);have mr:=aab MR.out aZ;have mf:=(aZ.frozen (p:=⟨w.heap.size+1,0,none⟩) (aac MR.out)).trans MF.out;have zR:w.heap.size+1<W'.heap.size:=aac mr;have be:=hid bz;have ew:=hid mr;clear aZ bz
            gi_wp2
            have bL:ajN f t=false:=by
             rw [aC.out];refine ajj hib ?_;rw [bg.out,ajj hkl (by rw [di.out];exact ajj hjl bp.out.symm)];rfl
            have aL:(W'.setCell ⟨w.heap.size+1,0,none⟩ (.bool false)).heap.size=W'.heap.size:=by simp [World.setCell]
            have eY:=be.out.size;have du:=aV.out;have dw:=ay.out.size;have aB:RowKit.Below w.heap.size w W':=ay.out.trans ((aN.out.trans ((aA.out.trans (be.out.mono (by omega))).mono (by omega))).mono (by omega));refine aeZ w w1 _ ds _ rfl ?_ (c:=false) (by rw [aaE ew.out,if_pos rfl]) bL.symm (aB.setCell (by dsimp only;omega) _) z1 (by rw [aL];omega);rw [aL];exact (a1.out.keep (by omega) (fun b h1 h2 h3=>by rw [be.out.block b (by omega),aA.out.block b h2];exact h3)).set _ (by omega)
        . have bF:j=y.src.length:=by omega
          have el : Hid (∀ k', k' < k + 1 -> PH k' = true) := abY aw.out (by
           rw [di.out]
           exact List.all_eq_true.2 fun j' eb => aK.out j' (by rw [bF]; exact Abx.1 eb))
          clear bF
          gi_wp2
          go_roundw
          case rel=>exact⟨k+1,by omega,by go_num,el.out,aq.out⟩
          case measure=>simp [intOf];omega
     . have db:k=x.phis.length:=by omega
       have en:Hid ((List.range x.phis.length).all PH=true):=List.all_eq_true.2 fun k' aX=>aw.out k' (by rw [db];exact Abx.1 aX);have e1:=E1.out.later aU.out;obtain⟨cp,l1,ca,cz,dI,cc⟩:=e1.get6;have fj:IB+1<wr.heap.size:=aac l1;clear db aw e1 cp ca cz dI cc
       gi_wp2
       clear l1
       refine wpIn_loop (fun a W => ∃ (j : Nat) (ds : List Deferred) (v11 v12 cY dt da v75 v76 v77 v78 v79 v80 cn v82 cv cF v85 cR : Value), a = { tmps := #[(.pointer (some ⟨CB, 0, none⟩)), (.pointer (some ⟨w.heap.size, 0, none⟩)), (.pointer (some ⟨w.heap.size + 1, 0, none⟩)), (.slice va bs.length vc), (.pointer (some ⟨IB, 0, none⟩)), (.pointer (some ⟨IB + 1, 0, none⟩)), undef, (u7), (u8), (u9), (u10), v11, v12, cY, (.pointer (some ⟨CB, 0, none⟩)), (.pointer (some ⟨CB, 0, none⟩)), (.pointer (some ⟨CB, 0, none⟩)), (.agg #[.string nm, .int .i64 f.params, .int .i64 f.regs, .slice (some ⟨xb, ai, none⟩) bs.length bc]), (.slice va bs.length vc), (.pointer (some ⟨CB, 0, none⟩)), (.pointer (some ⟨CB, 0, none⟩)), (.pointer (some ⟨CB, 0, none⟩)), (.pointer (some ⟨CB, 3, none⟩)), (.slice (some ⟨xb, ai, none⟩) bs.length bc), (.int .i64 (bs.length : Int)), (.int .i64 (i : Int)), (.bool true), (.int .i64 (i : Int)), (.pointer (some ⟨xb, ai + i * 6, none⟩)), (.agg #[.slice pa x.phis.length pc, .slice la x.list.length lc, .int .i64 x.fin.kind, .bool x.fin.on.reg, .int .i64 x.fin.on.n, .slice ta x.fin.to.length tc]), (.pointer (some ⟨IB + 1, 0, none⟩)), (.slice pa x.phis.length pc), (.int .i64 (x.phis.length : Int)), (.int .i64 (k : Int)), (.bool false), (u35), (u36), (u37), (u38), (u39), (u40), (u41), (u42), (u43), (u44), (u45), (u46), (u47), (u48), (u49), (u50), (u51), (u52), (u53), (u54), (u55), (u56), (u57), (u58), (u59), (u60), (u61), (u62), (u63), (u64), (u65), (u66), (u67), (u68), (.pointer (some ⟨IB + 1, 1, none⟩)), (.slice la x.list.length lc), (.int .i64 (x.list.length : Int)), (.int .i64 (j : Int)), dt, da, v75, v76, v77, v78, v79, v80, cn, v82, cv, cF, v85, cR, (u87), (u88), (u89), (u90), (u91), (u92), (u93), (u94), (u95), (u96), (u97)], defers := ds } ∧ j <= x.list.length ∧ (∀ j', j' < j -> IN j' = true) ∧ Below W1.heap.size W1 W ∧ adG w1.heap.size W.heap.size ds W)
        (fun a _=>x.list.length - (intOf (a.tmps.getD 72 undef)).toNat) ?h1 ?round4
       case h1 =>
        have eW:=aV.out;exact⟨0,ds,u11,u12,u13,u73,u74,u75,u76,u77,u78,u79,u80,u81,u82,u83,u84,u85,u86,rfl,Aaj _,fun j hj=>by omega,aU.out,(a1.out.keep (by have:=aU.out.size;omega) (fun b h1 h2 h3=>by rw [aU.out.block b (by omega),aA.out.block b h2];exact h3))⟩
       case round4 =>
        clear aU a1;intro _ wr hinv;obtain⟨j,ds,hinv⟩:=hinv;obtain⟨v11,hinv⟩:=hinv;obtain⟨v12,hinv⟩:=hinv;obtain⟨cY,hinv⟩:=hinv;obtain⟨dt,hinv⟩:=hinv;obtain⟨da,hinv⟩:=hinv;obtain⟨v75,hinv⟩:=hinv;obtain⟨v76,hinv⟩:=hinv;obtain⟨v77,hinv⟩:=hinv;obtain⟨v78,hinv⟩:=hinv;obtain⟨v79,hinv⟩:=hinv;obtain⟨v80,hinv⟩:=hinv;obtain⟨cn,hinv⟩:=hinv;obtain⟨v82,hinv⟩:=hinv;obtain⟨cv,hinv⟩:=hinv;obtain⟨cF,hinv⟩:=hinv;obtain⟨v85,hinv⟩:=hinv;obtain⟨cR,hinv⟩:=hinv;obtain⟨ha,hj,aP,bo,df⟩:=hinv;subst ha;have aO:=hid aP;have ah:=hid bo;have cJ:=hid df;clear aP bo df
        by_cases hjl:j<x.list.length
        . obtain⟨pb,aD,cs,rfl,-,hp,-,ar⟩:=(eO.out.later aax ah.out).get hjl
          obtain⟨fa,fc,rfl,ao,ham,-⟩:=hp.opens;obtain⟨d0,d1,d2,d3,d4,d5,d6,d7⟩:=ar.get8;have zp:pb<wr.heap.size:=aac d0;obtain⟨y,hy⟩:∃y,y=x.list[j]:=⟨_,rfl⟩
          rw [<-hy] at d0 d1 d2 d3 d4 d5 d6 d7 ao ham;have bm:y∈x.list:=by rw [hy];exact Aaq _
          have bC:Hid (IN j=afZ bs t i j y):=by
           show _=_;rw [dX.out];dsimp only;rw [Aaf,Aaa hjl,<-hy];rfl
          have bB:∀v∈adm y,VOk f.regs v:=fun v hv=>by
           have h:=Hf.out.ins i x bX.out y bm;unfold adm at hv;rcases Aa7.1 hv with hv | hv
           . split at hv
             . rw [Aax] at hv;rw [hv];exact h.a
             . cases hv
           . rcases Aa7.1 hv with hv | hv
             . split at hv
               . rw [Aax] at hv;rw [hv];exact h.b
               . cases hv
             . exact h.args v hv
          have aY:y.args.length<=1048576:=Hf.out.args i x bX.out y bm;have cI:=fun w=>asR 5 y fa fc w;simp only [acO] at cI;obtain⟨W2,aE⟩:∃W2,W2=(wr.alloc (.cells #[.int .i64 (j:Int)] 3)).alloc (.cells #[.int .i64 y.op,.int .i64 y.dst,.bool y.a.reg,.int .i64 y.a.n,.bool y.b.reg,.int .i64 y.b.n,.int .i64 y.fn,.slice fa y.args.length fc] 49):=⟨_,rfl⟩
          have cM:=hid bB;have bt:=hid ao;clear hp ar hy bm bB ao
          gi_wp2_with (first | (refine⟨trivial,?_⟩;gi_at_call 81;refine (cI _).mono ?_;rintro e w' ⟨rfl,rfl⟩))
          obtain⟨Wk,bI⟩:∃Wk,Wk=((wr.alloc (.cells #[.int .i64 (j:Int)] 3)).alloc (.cells #[.int .i64 y.op,.int .i64 y.dst,.bool y.a.reg,.int .i64 y.a.n,.bool y.b.reg,.int .i64 y.b.n,.int .i64 y.fn,.slice fa y.args.length fc] 49)).alloc (.cells #[.int .i64 y.op,.int .i64 y.dst,.bool y.a.reg,.int .i64 y.a.n,.bool y.b.reg,.int .i64 y.b.n,.int .i64 y.fn,.slice fa y.args.length fc] 49):=⟨_,rfl⟩
          rw [<-bI];have ae:Below wr.heap.size wr Wk:=by rw [bI];exact bE
          have cC:Wk.heap.size=wr.heap.size+3:=by rw [bI];simp
          have cV:W2.heap.size=wr.heap.size+1+1:=by rw [aE];simp
          have bj:Wk=W2.alloc (.cells #[.int .i64 y.op,.int .i64 y.dst,.bool y.a.reg,.int .i64 y.a.n,.bool y.b.reg,.int .i64 y.b.n,.int .i64 y.fn,.slice fa y.args.length fc] 49):=by rw [bI,aE]
          have cX:W2.cell? ⟨wr.heap.size,0,none⟩=some (.int .i64 (j:Int)):=by rw [aE];simp
          have kj:Wk.cell? ⟨wr.heap.size,0,none⟩=some (.int .i64 (j:Int)):=aab cX (by rw [bj];exact bE);have kb:aal Wk (wr.heap.size+1+1) 0 (acO y fa fc):=by
           rw [bj,<-cV];unfold acO;exact .cons (by simp) (.cons (by simp) (.cons (by simp) (.cons (by simp) (.cons (by simp) (.cons (by simp) (.cons (by simp) (.cons (by simp) (.nil _ _ _))))))))
          clear bj cX cV;obtain⟨JB,dH⟩:∃JB,JB=wr.heap.size:=⟨_,rfl⟩
          have aM:Hid (Below W1.heap.size W1 Wk):=ah.out.trans (ae.mono ah.out.size);have eA:=hid (cT.out.later aM.out);have ed:=hid (aab cu.out aM.out);have de:=hid (aab bl.out aM.out);have dT:=hid ((aM.out.frozen (p:=⟨w.heap.size+1,0,none⟩) (aac bl.out)).trans cL.out);have eT:=hid (aab E0.out aM.out);have bf:=bt.out.later aaN ae;have a1:=hid (cJ.out.keep (C':=Wk.heap.size) (by omega) (fun b h1 h2 h3=>by rw [ae.block b h2];exact h3));have a6:Hid (Wk.heap.size=JB+3∧w1.heap.size<=JB∧w.heap.size+1<w1.heap.size):=by
           have q1:=ah.out.size;have q2:=aV.out;have q3:=aN.out.size;exact⟨by omega,by omega,z1⟩
          have bh:Hid (RowKit.Below w.heap.size w Wk):=by
           have q2:=aV.out;have q3:=aN.out.size;have q4:=ay.out.size;exact ay.out.trans ((aN.out.trans ((aA.out.trans (aM.out.mono (by omega))).mono (by omega))).mono (by omega))
          rw [<-dH] at kj kb ⊢;clear bI ae cC aE dH cI d0 d1 d2 d3 d4 d5 d6 d7
          refine ac4 (α := atQ y) rfl (by decide) (gf := 108) (lb := #[.pointer (some ⟨JB + 1 + 1, 0, none⟩)]) rfl trivial (enters_of Tryz.func108 (by kernel_rfl) rfl)
           (anW (6 - 1) (by decide) (JB+1+1) (fun _=>True) y fa fc Wk aY bf kb)
           (fun h k=>afx h k) (fun W l o o' h1 h2 h3 h4=>asP (n:=Wk.heap.size) W l o o' h1 h2 h3 h4) (Below.refl _ _) (fun _=>rfl)
           (fun pre W=>(∀v∈pre.map valOf,adV bs t v i j=true)∧RowKit.Below Wk.heap.size Wk W)
           (fun c pre W=>(c = .ret∧∃v∈pre.map valOf,adV bs t v i j=false)∧RowKit.Below w.heap.size w W∧W.cell? ⟨w.heap.size+1,0,none⟩=some (.bool false)∧adG w1.heap.size Wk.heap.size ds W)
           ?hI ?hIx ?h0r (fun v => .cells #[.bool (valOf v).reg,.int .i64 (valOf v).n] 41) (fun v m=>{ tmps:=#[(.pointer (some ⟨CB,0,none⟩)),(.pointer (some ⟨w.heap.size,0,none⟩)),(.pointer (some ⟨w.heap.size+1,0,none⟩)),(.slice va bs.length vc),(.pointer (some ⟨IB,0,none⟩)),(.pointer (some ⟨IB+1,0,none⟩)),undef,(u7),(u8),(u9),(u10),(.pointer (some ⟨JB,0,none⟩)),(.pointer (some ⟨JB+1,0,none⟩)),(.pointer (some ⟨m,0,none⟩)),(.pointer (some ⟨CB,0,none⟩)),(.pointer (some ⟨CB,0,none⟩)),(.pointer (some ⟨CB,0,none⟩)),(.agg #[.string nm,.int .i64 f.params,.int .i64 f.regs,.slice (some ⟨xb,ai,none⟩) bs.length bc]),(.slice va bs.length vc),(.pointer (some ⟨CB,0,none⟩)),(.pointer (some ⟨CB,0,none⟩)),(.pointer (some ⟨CB,0,none⟩)),(.pointer (some ⟨CB,3,none⟩)),(.slice (some ⟨xb,ai,none⟩) bs.length bc),(.int .i64 (bs.length:Int)),(.int .i64 (i:Int)),(.bool true),(.int .i64 (i:Int)),(.pointer (some ⟨xb,ai+i * 6,none⟩)),(.agg #[.slice pa x.phis.length pc,.slice (some ⟨pb,aD,none⟩) x.list.length lc,.int .i64 x.fin.kind,.bool x.fin.on.reg,.int .i64 x.fin.on.n,.slice ta x.fin.to.length tc]),(.pointer (some ⟨IB+1,0,none⟩)),(.slice pa x.phis.length pc),(.int .i64 (x.phis.length:Int)),(.int .i64 (k:Int)),(.bool false),(u35),(u36),(u37),(u38),(u39),(u40),(u41),(u42),(u43),(u44),(u45),(u46),(u47),(u48),(u49),(u50),(u51),(u52),(u53),(u54),(u55),(u56),(u57),(u58),(u59),(u60),(u61),(u62),(u63),(u64),(u65),(u66),(u67),(u68),(.pointer (some ⟨IB+1,1,none⟩)),(.slice (some ⟨pb,aD,none⟩) x.list.length lc),(.int .i64 (x.list.length:Int)),(.int .i64 (j:Int)),(.bool true),(.int .i64 (j:Int)),(.pointer (some ⟨pb,aD+j * 8,none⟩)),(.agg #[.int .i64 y.op,.int .i64 y.dst,.bool y.a.reg,.int .i64 y.a.n,.bool y.b.reg,.int .i64 y.b.n,.int .i64 y.fn,.slice fa y.args.length fc]),(.agg #[.int .i64 y.op,.int .i64 y.dst,.bool y.a.reg,.int .i64 y.a.n,.bool y.b.reg,.int .i64 y.b.n,.int .i64 y.fn,.slice fa y.args.length fc]),(.func (.func 108) #[] #[.pointer (some ⟨JB+1+1,0,none⟩)]),(.agg #[.bool (valOf v).reg,.int .i64 (valOf v).n]),(v80),(cn),(v82),(cv),(cF),(v85),(cR),(u87),(u88),(u89),(u90),(u91),(u92),(u93),(u94),(u95),(u96),(u97)],defers:=[] }) ?assign ?body ?done ?stop
          case hI =>
           rintro pre A B row ⟨h1,h2⟩ hg hr;exact⟨h1,h2.grown hg h2.size (fun r e=>(hr r e).1)⟩
          case hIx =>
           rintro c pre A B row ⟨hp,hb,hc,hm⟩ hg hr;have q:=bh.out.size;refine⟨hp,hb.grown hg hb.size (fun r e=>by have:=(hr r e).1;omega),cell_kept hc hg (fun r e=>(hr r e).2),hm.keep (Aac _) (fun b k1 k2 k3=>?_)⟩;rw [hg.block b (Aag.1 k3).1 (fun e=>by have:=(hr b e.symm).1;omega)];exact k3
          case h0r=>exact⟨fun v hv=>(by cases hv),Below.refl _ _⟩
          case assign =>
           intro l v W K hK;unfold aue
           gi_wp2
           exact hK
          case body =>
           rintro l pre v W ⟨h1,h2⟩ _;have dY:=hid h1;have bY:=hid h2;obtain⟨dv,bT⟩:∃dv,dv=valOf v:=⟨_,rfl⟩
           have dC:VOk f.regs dv:=cM.out dv (by rw [bT];exact v.2);have au:(pre++[v]).map valOf=pre.map valOf++[dv]:=by rw [Aa8,bT];rfl
           rw [<-bT];obtain⟨V,hV⟩:∃V,V=W.alloc (.cells #[.bool dv.reg,.int .i64 dv.n] 41):=⟨_,rfl⟩
           have b1:Below W.heap.size W V:=by rw [hV];exact bE
           have af:Below Wk.heap.size Wk V:=h2.trans (b1.mono h2.size);have v0:V.cell? ⟨W.heap.size,0,none⟩=some (.bool dv.reg):=by rw [hV];simp
           have v1:V.cell? ⟨W.heap.size,1,none⟩=some (.int .i64 dv.n):=by rw [hV];simp
           have q0:=aab ed.out af;have q1:=aab eT.out af;have q2:=aab kj af;have q3:=aab de.out af;have q4:=(af.frozen (p:=⟨w.heap.size+1,0,none⟩) (aac de.out)).trans dT.out;have Q3:=hid q3;have Q4:=hid q4;have hc:=ajS (eA.out.later af) Hf.out dC (by rw [<-ag.out];exact hib) (j:Int);rw [<-ag.out] at hc;have cB:=b1;rw [<-hV];obtain⟨kv,ak⟩:∃kv,kv=adV bs t dv i j:=⟨_,rfl⟩
           rw [<-ak] at hc;have Hc:=hid hc;have bp:=hid ak;have b2:=hid b1;have ei:=hid af;have bV:=hid au;have e4:=hid bT;have cp:w.heap.size<V.heap.size:=aac q0;have dM:IB<V.heap.size:=aac q1;have ca:JB<V.heap.size:=aac q2;have cz:w.heap.size+1<V.heap.size:=aac q3;have dI:W.heap.size<V.heap.size:=aac v0;clear h1 h2 dC au hV b1 af hc ak cB q3 q4 bT;cases kv with
           | true =>
             gi_wp2_with (first | (refine⟨trivial,?_⟩;gi_at_call 80;refine (CallsIn.inRound l (callsIn_wide.2 Hc.out)).mono ?_;rintro e V' ⟨rfl,aj⟩;have ax:=hid aj;clear aj))
             have aB:=b2.out.trans (ax.out.mono b2.out.size);refine⟨acE aB,aeg aB,fun u hu=>?_,bY.out.trans (aB.mono bY.out.size)⟩;rw [bV.out] at hu;rcases Aa7.1 hu with hu | hu
             . exact dY.out u hu
             . rw [Aax] at hu
               rw [hu];exact bp.out.symm
           | false =>
             gi_wp2_with (first
              | (refine ⟨trivial, ?_⟩; gi_at_call 80; refine (CallsIn.inRound l (callsIn_wide.2 Hc.out)).mono ?_; rintro e V' ⟨rfl, aj⟩
                 have ax := hid aj
                 have q3 := aab Q3.out aj
                 have q4 := (aj.frozen (p := ⟨w.heap.size + 1, 0, none⟩) (aac Q3.out)).trans Q4.out
                 have Q5 := hid q3
                 have cc : w.heap.size + 1 < V'.heap.size := aac q3
                 clear aj))
             have aB:=b2.out.trans (ax.out.mono b2.out.size);have bD:=bY.out.trans (aB.mono bY.out.size);have ej:=bh.out.size;refine⟨(acE aB).trans (KeepsOthers.setCell _ _ _),⟨rfl,dv,by rw [bV.out];simp,bp.out.symm⟩,(bh.out.trans (bD.mono ej)).setCell (by dsimp only;omega) _,by rw [aaE Q5.out,if_pos rfl],?_⟩;exact (a1.out.keep (Aac _) (fun b k1 k2 k3=>by rw [bD.block b k2];exact k3)).set _ a6.out.2.2
          case done =>
           rintro D xs W hD dh ⟨h1,h2⟩ hd;have cQ:D<W.heap.size:=(Aag.1 hd).1;have q:=a6.out;have b5:adG w1.heap.size W.heap.size ({ target := .collected D,args:=#[] } :: ds) W:=(a1.out.keep (Aac _) (fun b k1 k2 k3=>by rw [h2.block b k2];exact k3)).cons hD (by omega) cQ hd;have dx:IN j=true:=by
            rw [bC.out];unfold afZ;rw [<-dh];exact List.all_eq_true.2 h1
           have cf:=hid (abY aO.out dx);have dK:=hid b5;have b0:=hid (aM.out.trans (h2.mono aM.out.size));clear h1 h2 b5 dx hd dh
           gi_wp2
           refine⟨⟨j+1,{ target := .collected D,args:=#[] } :: ds,_,_,_,_,_,_,_,_,_,_,_,_,_,_,_,_,_,rfl,by omega,cf.out,b0.out,dK.out⟩,?_⟩;show x.list.length - (j+1)<x.list.length - j;omega
          case stop =>
           rintro D c pre W hD cD ⟨⟨rfl,v,hv,ak⟩,hb,hc,hm⟩ hd;have cQ:D<W.heap.size:=(Aag.1 hd).1;have q:=a6.out;have b5:adG w1.heap.size W.heap.size ({ target := .collected D,args:=#[] } :: ds) W:=hm.cons hD (by omega) cQ hd;have bL:ajN f t=false:=by
            rw [aC.out];refine ajj hib ?_;have h9:IN j=false:=by
             rw [bC.out];unfold afZ;rw [List.all_eq_false];exact⟨v,cD.subset hv,by rw [ak];simp⟩
            rw [bg.out,ajj hjl h9];simp
           gi_wp2
           exact aeZ w w1 _ _ _ rfl b5 hc bL.symm hb z1 (by omega)
        . have bF:j=x.list.length:=by omega
          have ey:Hid ((List.range x.list.length).all IN=true):=List.all_eq_true.2 fun k' aX=>aO.out k' (by rw [bF];exact Abx.1 aX);obtain⟨-,q1,-,q3,q4,-⟩:=(E1.out.later ah.out).get6;have q0:=aab cu.out ah.out;have q2:=aab E0.out ah.out;have q5:=aab bl.out ah.out;have q6:=(ah.out.frozen (p:=⟨w.heap.size+1,0,none⟩) (aac bl.out)).trans cL.out;have Q5:=hid q5;have Q6:=hid q6;have hc:=ajS (cT.out.later ah.out) Hf.out (Hf.out.on i x bX.out) (by rw [<-ag.out];exact hib) (x.list.length:Int);rw [<-ag.out] at hc;obtain⟨kv,ak⟩:∃kv,kv=adV bs t x.fin.on i x.list.length:=⟨_,rfl⟩
          rw [<-ak] at hc;have Hc:=hid hc;have bp:=hid ak;have cp:w.heap.size<wr.heap.size:=aac q0;have dM:IB+1<wr.heap.size:=aac q1;have ca:IB<wr.heap.size:=aac q2;have cz:w.heap.size+1<wr.heap.size:=aac q5;have du:=aV.out;have dw:=ay.out.size;have dQ:=ah.out.size;have an:Hid (RowKit.Below w1.heap.size w1 wr):=aN.out.trans ((aA.out.trans (ah.out.mono (by omega))).mono (by omega));have bA:Hid (PU i=kv):=by show _=_;rw [bg.out,en.out,ey.out,<-ak];simp
          clear bF hc ak q5 q6 du dw dQ;cases kv with
          | true =>
            gi_wp2_with (first
             | (refine ⟨trivial, ?_⟩; gi_at_call 80; refine (callsIn_wide.2 Hc.out).mono ?_; rintro e V' ⟨rfl, aj⟩
                have ax := hid aj
                clear aj))
            refine⟨⟨i+1,ds,_,_,_,_,_,_,_,_,_,_,_,_,_,_,_,_,_,_,_,_,_,_,_,_,_,_,_,_,_,_,_,_,_,_,_,_,_,_,_,_,_,_,_,_,_,_,_,_,_,_,_,_,_,_,_,_,_,_,_,_,_,_,_,_,_,_,_,_,_,_,_,_,_,_,_,_,_,_,_,_,_,rfl,by omega,abY bO.out bA.out,an.out.trans (ax.out.mono an.out.size),cJ.out.keep ax.out.size (fun b h1 h2 h3=>by rw [ax.out.block b h2];exact h3)⟩,?_⟩;show bs.length - (i+1)<bs.length - i;omega
          | false =>
            gi_wp2_with (first
             | (refine ⟨trivial, ?_⟩; gi_at_call 80; refine (callsIn_wide.2 Hc.out).mono ?_; rintro e V' ⟨rfl, aj⟩
                have ax := hid aj
                have q5 := aab Q5.out aj
                have q6 := (aj.frozen (p := ⟨w.heap.size + 1, 0, none⟩) (aac Q5.out)).trans Q6.out
                have Q7 := hid q5
                have cc : w.heap.size + 1 < V'.heap.size := aac q5
                clear aj))
            have bL:ajN f t=false:=by
             rw [aC.out];exact ajj hib bA.out
            have aL:(V'.setCell ⟨w.heap.size+1,0,none⟩ (.bool false)).heap.size=V'.heap.size:=by simp [World.setCell]
            have eH:=ax.out.size;have e6:=an.out.size;have cb:=ay.out.size;have aB:RowKit.Below w.heap.size w V':=ay.out.trans ((an.out.trans (ax.out.mono an.out.size)).mono cb);refine aeZ w w1 _ ds _ rfl ?_ (c:=false) (by rw [aaE Q7.out,if_pos rfl]) bL.symm (aB.setCell (by dsimp only;omega) _) z1 (by rw [aL];omega);rw [aL];exact (cJ.out.keep eH (fun b h1 h2 h3=>by rw [ax.out.block b h2];exact h3)).set _ z1
  . have dB:i=bs.length:=by omega
    have dR:Hid (ajN f t=true):=by
     show _=_;rw [aC.out];exact List.all_eq_true.2 fun k' aX=>bO.out k' (by rw [dB];exact Abx.1 aX)
    have eC:=hid r1;clear dB
    gi_wp2
    have aL:(wo.setCell ⟨w.heap.size+1,0,none⟩ (.bool true)).heap.size=wo.heap.size:=by simp [World.setCell]
    have cb:=ay.out.size;refine aeZ w w1 _ ds _ rfl ?_ (c:=true) (by rw [aaE eC.out,if_pos rfl]) dR.out.symm ((ay.out.trans (aN.out.mono cb)).setCell (by dsimp only;omega) _) z1 (by rw [aL];exact z4);rw [aL];exact a1.out.set _ z1
end
end Go.Proofs.YtpeejlpcikefcaaGreatDoor
