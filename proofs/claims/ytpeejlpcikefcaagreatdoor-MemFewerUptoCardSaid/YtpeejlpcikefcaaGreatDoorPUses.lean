import Derived.Test.YtpeejlpcikefcaaGreatDoorPVals
import Derived.Test.YtpeejlpcikefcaaGreatDoorPWrites
/- A loop over a function whose variable lies in a box of its own, made anew each round. ssa.checker.uses: is what is taken known? -/
namespace Go.Proofs.YtpeejlpcikefcaaGreatDoor
section
open Go.RowKit
theorem apZ(W:World)(o p:Obj){l:Nat}(hl:l<W.heap.size):(W.alloc o).putObj l p=(W.putObj l p).alloc o:=by
 rw [<-World.alloc_eq,<-World.alloc_eq];cases W with
 | mk heap tape drawn os output =>
   simp only [World.putObj] at hl ⊢
   congr 1
   apply Array.ext_getElem?;intro i;simp only [Acr,Array.getElem?_push,Array.size_setIfInBounds,Array.size_push]
   by_cases h1:l=i
   . subst h1
     rw [if_pos rfl,if_pos (by omega),if_neg (by omega),if_pos rfl,if_pos hl]
   . rw [if_neg h1]
     by_cases h2:i=heap.size
     . rw [if_pos h2,if_pos h2]
     . rw [if_neg h2,if_neg h2,if_neg h1]
structure afx (L D:Nat)(r:Loop)(W:World):Prop where
 loop:W.heap[L]?=some (.loop r)
 mark:W.heap[D]?=some (.deferred (some []))
section
variable {L D : Nat} {r r' : Loop} {W W' : World}
theorem afx.grown(h:afx L D r W){B:Nat}{row:Option Nat}(hg:W.grownBy W' row)(hr:∀k,row=some k->B<=k∧∃o:Obj,W.heap[k]?=some o∧o.isWalk=true):afx L D r W' :=
 ⟨(grownBy_keeps hg (fun k e=>(hr k e).2) h.loop rfl).trans h.loop,(grownBy_keeps hg (fun k e=>(hr k e).2) h.mark rfl).trans h.mark⟩
theorem afx.put(h:afx L D r W)(ek:D≠L):afx L D r' (W.putObj L (.loop r')) :=
 ⟨World.putObj_heap_same (Aag.1 h.loop).1,(World.putObj_heap_other ek).trans h.mark⟩
theorem afx.others(h:afx L D r W)(hk:KeepsOthers W W'):afx L D r W':=⟨hk.same _ _ h.loop rfl,hk.same _ _ h.mark rfl⟩
end
theorem ac8 {F : Fence} {n : Nat} {P : Program} {α : Type} {g : Operand} {ps : Array Tmp} {assign body : Code} {Q : Exit -> Act -> World -> Prop} {a : Act} {w : World}
 (cg:F.round=none) (h1:1<=n) {gf:Nat} {lb:Array Value} (hg:a.eval g = .func (.func gf) #[] lb) (er:F.fn gf) (eg:∀args w,(callFunc gf args).run P w = .ok (.enter gf args) w)
 {aH:α->Array Value} {Kp:World->World->Prop} {S Sp:List α->Prop} {N:Nat} {w0:World} (b8:SeqStopsK F (n - 1) P gf lb aH Kp S Sp N w0)
 (cV:∀{A B C:World},Kp A B->Kp B C->Kp A C) (dq:∀(W:World) (l:Nat) (o o':Obj),w.heap.size<=l->W.heap[l]?=some o->o.isCells=false->o.isWalk=false->Kp W (W.putObj l o')) (c6:Below w0.heap.size w0 w) (dO:∀x,(aH x).size=ps.size)
 (I:List α->World->Prop) (Ix:Code->List α->World->Prop) (hI:OwnFrom w.heap.size I) (hIx:∀c,OwnFrom w.heap.size (Ix c)) (h0:I [] w) (bx:α->Obj) (a₁:α->Nat->Act)
 (aE : ∀ (l : Nat) (x : α) (W : World) (K : Act -> World -> Prop), K (a₁ x W.heap.size) (W.alloc (bx x)) ->
   assign.wpIn (F.inRound l) (n - 1 - 1) P (Exit.then K (fun _ _ _ => False)) { tmps := (ps.zip (aH x)).foldl (fun t (p, v) => t.setIfInBounds p v) a.tmps, defers := [] } W)
 (bq:∀(l:Nat) (pre:List α) (x:α) (W:World),I pre W->pre.length<N->body.wpIn (F.inRound l) (n - 1 - 1) P (ownPostK Kp I Ix (pre++[x]) W) (a₁ x W.heap.size) (W.alloc (bx x)))
 (bO:∀(D:Nat) (xs:List α) (W:World),w.heap.size<=D->S xs->I xs W->W.heap[D]?=some (.deferred (some []))->Q .normal { a with defers:={ target := .collected D,args:=#[] } :: a.defers } W)
 (bw:∀(D:Nat) (c:Code) (pre:List α) (W:World),w.heap.size<=D->Sp pre->Ix c pre W->W.heap[D]?=some (.deferred (some []))->c.wpIn F n P Q { a with defers:={ target := .collected D,args:=#[] } :: a.defers } W) :
 (Code.rangeFunc g ps assign body).wpIn F n P Q a w:=by
 refine wpIn_rangeFunc ?_;intro fn eM;rw [cg];obtain⟨D,hD⟩:∃D,D=w.heap.size:=⟨_,rfl⟩
 obtain⟨rc,aJ⟩:∃rc:LoopState->Option Code->Loop,rc=fun st pe=>{ state:=st,pending:=pe,fn,tmps:=a.tmps,params:=ps,assign,body,defers:=w.heap.size }:=⟨_,rfl⟩
 have bk:D≠D+1:=by omega
 obtain⟨W1,an⟩:∃W1,W1=(w.alloc (.deferred (some []))).alloc (.loop (rc .ready none)):=⟨_,rfl⟩
 have b6:afx (D+1) D (rc .ready none) W1:=by
  refine⟨?_,?_⟩
  . have h:=World.alloc_heap_new (w.alloc (.deferred (some []))) (.loop (rc .ready none))
    rw [World.size_alloc,<-hD,<-an] at h;exact h
  . rw [an,hD];exact (Below.heap_alloc _ _ _ (by simp)).trans (World.alloc_heap_new w _)
 have bJ:Below w.heap.size w W1:=by rw [an];exact ((Below.refl _ w).alloc (Aac _) _).alloc (by simp) _
 have eF:w.heap.size<=W1.heap.size:=bJ.size
 refine ⟨D + 1, [{ target := .collected D, args := #[] }], W1, { target := .fn (.func gf) lb, args := #[.func (.yield (D + 1)) #[] #[]] }, W1, gf,
  #[.func (.yield (D + 1)) #[] #[]] ++ lb, W1, ?_, ?_, ?_, ?_, fun _ => h1, ?_⟩
 . rw [an,aJ,hD];exact run_enterLoop_outer _ _ _ _ _
 . simp only [resolve,hg]
   simp [go_sem]
 . intro f' dH;simp [Target.leads] at dH;subst dH;exact er
 . simp [invoke,go_sem,eg]
 have aN:∀{A:World} {row:Option Nat},(∀k,row=some k->W1.heap.size<=k∧∃o:Obj,A.heap[k]?=some o∧o.isWalk=true)->(∀k,row=some k->w.heap.size<=k∧∃o:Obj,A.heap[k]?=some o∧o.isCells=false):=fun hr k e=>by
  obtain⟨q1,o,q2,q3⟩:=hr k e;exact⟨Aai eF q1,o,q2,Obj.not_cells_of_walk q3⟩
 refine (b8 (D + 1) (fun pre W => I pre W ∧ afx (D + 1) D (rc .ready none) W) (fun pre W => ∃ c, Ix c pre W ∧ afx (D + 1) D (rc .done (some c)) W) W1 (c6.trans (bJ.mono c6.size))
  (fun s A B row hs bU hr => ⟨hI s A B row hs.1 bU (aN hr), hs.2.grown bU hr⟩)
  (fun s A B row hs bU hr => hs.elim fun c hc => ⟨c, hIx c s A B row hc.1 bU (aN hr), hc.2.grown bU hr⟩)
  ?round ⟨by rw [an]; exact hI.alloc _ (hI.alloc _ h0), b6⟩).mono ?behind
 case round =>
  rintro pre x W ⟨hi,ad⟩ hlen;have eP:D+1<W.heap.size:=(Aag.1 ad.loop).1;have bH:=run_yield (P:=P) (args:=aH x) ad.loop (by rw [aJ];exact dO x);rw [aJ] at bH
  -- the world in which the body begins,but for the box
  obtain⟨V,hV⟩:∃V,V=W.putObj (D+1) (.loop { rc .ready none with state := .busy }):=⟨_,rfl⟩
  have ed:V.heap.size=W.heap.size:=by rw [hV];exact World.putObj_size
  have aI:afx (D+1) D { rc .ready none with state := .busy } V:=by rw [hV];exact ad.put bk
  have eB:Kp W V:=by rw [hV];exact dq _ _ _ _ (by omega) ad.loop rfl rfl
  have cn:afx (D+1) D (rc .ready none) (W.alloc (bx x)):=ad.others (KeepsOthers.alloc _ _);refine⟨fn,_,assign,body,bH,roundIn_of_wpIn eM (aE _ x W _ ⟨_,run_beginRound cn.loop (by rw [aJ]),?_⟩)⟩;rw [apZ W _ _ eP,<-hV,<-ed];refine wpIn_mono (bq _ pre x V (by rw [hV];exact hI.putObj _ hi (by omega) ad.loop rfl) hlen) ?_;have aG:∀(jump:Option Code) (W3:World),afx (D+1) D { rc .ready none with state := .busy } W3 ->
   (Instr.endRound (D+1) jump).run P W3 = .ok (.bool jump.isNone) (W3.putObj (D+1) (.loop (rc (if jump.isNone then .ready else .done) jump))):=fun jump W3 ae=>by
   have h:=run_endRound (P:=P) jump ae.loop;rw [aJ] at h ⊢;exact h
  rintro e a3 W3 hp;cases e with
  | normal =>
    obtain⟨bl,cR,eA⟩:=hp;have ae:=aI.others bl;exact⟨_,_,aG none W3 ae,.inl ⟨rfl,⟨hI.putObj _ eA (by omega) ae.loop rfl,ae.put bk⟩,cV (cV eB cR) (dq _ _ _ _ (by omega) ae.loop rfl rfl)⟩⟩
  | ret =>
    have ae:=aI.others hp.1;exact⟨_,_,aG (some .ret) W3 ae,.inr ⟨rfl,.ret,(hIx _).putObj _ hp.2 (by omega) ae.loop rfl,ae.put bk⟩⟩
  | exit id =>
    have ae:=aI.others hp.1;exact⟨_,_,aG (some (.exit id)) W3 ae,.inr ⟨rfl,.exit id,(hIx _).putObj _ hp.2 (by omega) ae.loop rfl,ae.put bk⟩⟩
  | goto t =>
    have ae:=aI.others hp.1;exact⟨_,_,aG (some (.goto t)) W3 ae,.inr ⟨rfl,.goto t,(hIx _).putObj _ hp.2 (by omega) ae.loop rfl,ae.put bk⟩⟩
  | panic ch=>exact hp.elim
  | outgrown=>exact hp.elim
 case behind =>
  rintro e W2 ⟨⟨v,rfl⟩,(⟨xs,hS,hi,ad⟩ | ⟨pre,eJ,c,hi,ad⟩)⟩
  . exact⟨none,_,by have h:=run_endLoop (P:=P) ad.loop (by rw [aJ];simp);rw [aJ] at h;exact h,bO D xs _ (by omega) hS (hI.putObj _ hi (by omega) ad.loop rfl) ((World.putObj_heap_other bk).trans ad.mark)⟩
  . exact⟨some c,_,by have h:=run_endLoop (P:=P) ad.loop (by rw [aJ];simp);rw [aJ] at h;exact h,bw D c pre _ (by omega) eJ ((hIx c).putObj _ hi (by omega) ad.loop rfl) ((World.putObj_heap_other bk).trans ad.mark)⟩
end
section
open Go.RowKit Go.Shelf Go.Sort
attribute [local go_sem] Oper.semAt_some
theorem acw {F : Fence} {n : Nat} {P : Program} {id : Nat} {Q : Exit -> Act -> World -> Prop} {a : Act} {w : World} {l : List Oper} (cg : F.round = none) (hm : P.follows .mixedOrders = true) (hB : Region.lexB .any l.toArray = true)
 (h:wpQuietIn F n P l.toArray (fun w'=>∃p:Regrown,w'=grow (redrawn w p.d) p.os) (fun a'=>∀w',(∃p:Regrown,w'=grow (redrawn w p.d) p.os)->Q .normal a' w') l a):(Code.region id l.toArray true).wpIn F n P Q a w :=
 wpIn_region_quiet (C:=fun w'=>∃p:Regrown,w'=grow (redrawn w p.d) p.os) cg hm hB ⟨⟨w.drawn+1,#[]⟩,by rw [grow_empty];rfl⟩ (by simpa using h)
structure atc (CB RB cap:Nat)(nm:ByteArray)(ba ua:Option Addr)(bc uc:Nat)(f:aav)(t:List (Int×Int))(W:World):Prop where
 box:aal W CB 0 [.string nm,.int .i64 f.params,.int .i64 f.regs,.slice ba f.blocks.length bc,.slice ua f.blocks.length uc,.slice (some ⟨RB,0,none⟩) f.regs.toNat cap]
 row:W.heap[RB]?=some (.cells (amV t) 96 (0,0))
 up:SlAt (fun _=>True) W 1 acz (.slice ua f.blocks.length uc) (agx f.blocks)
 bs:SlAt (fun _=>True) W 6 aa2 (.slice ba f.blocks.length bc) f.blocks
 len:t.length=f.regs.toNat
theorem atc.later {CB RB cap:Nat}{nm:ByteArray}{ba ua:Option Addr}{bc uc:Nat}{f:aav}{t:List (Int×Int)}{W W':World}(h:atc CB RB cap nm ba ua bc uc f t W)(hb:Below W.heap.size W W'):atc CB RB cap nm ba ua bc uc f t W' :=
 ⟨h.box.later hb,by rw [hb.block RB (Aag.1 h.row).1];exact h.row,h.up.later aax hb,h.bs.later aau hb,h.len⟩
theorem ajO {CB RB cap:Nat}{nm:ByteArray}{ba ua:Option Addr}{bc uc:Nat}{f:aav}{t:List (Int×Int)}{W:World}(h:atc CB RB cap nm ba ua bc uc f t W)(hf:ar0 f){v:aaA}(hv:VOk f.regs v){blk:Nat}(hb:blk<f.blocks.length)(a:Int) :
 Calls Tryz.prog 80 #[.pointer (some ⟨CB,0,none⟩),.agg #[.bool v.reg,.int .i64 v.n],.int .i64 (blk:Int),.int .i64 a] W fun e W'=>e = .returned (.bool (adV f.blocks t v (blk:Int) a))∧Below W.heap.size W W':=by
 have fg:=hf.pr;obtain⟨-,-,-,-,c4,c5⟩:=h.box.get6;unfold adV;cases hr:v.reg with
 | true =>
   obtain⟨h0,h1⟩:=hv hr;obtain⟨q,hq⟩:=Abc h0;have aU:q<t.length:=by rw [h.len];omega
   rw [hq,Aan,aim aU];have d0:W.cell? ⟨RB,q * 2,none⟩=some (.int .i64 t[q].1):=by rw [aaW h.row];exact (ajR aU).1
   have d1:W.cell? ⟨RB,q * 2+1,none⟩=some (.int .i64 t[q].2):=by rw [aaW h.row];exact (ajR aU).2
   exact aoI CB RB _ cap q (blk:Int) a _ _ ua uc f.blocks.length (agx f.blocks) (psF f.blocks) W c5 c4 h.up (aia _) (by have:=hf.len;omega) (arw hf.toOk) (by omega) d0 d1 (by rw [<-h.len];exact aU) (by omega)
 | false =>
   unfold afM;rw [if_pos rfl];exact aoJ _ _ _ _ _
theorem ae0 {b c : Bool} (w w1 V : World) (ds : List Deferred) (tmps : Array Value) (h2 : tmps[2]? = some (.pointer (some ⟨w.heap.size + 1, 0, none⟩))) (hm : adH w1.heap.size V.heap.size ds V) (hc : V.cell? ⟨w.heap.size + 1, 0, none⟩ = some (.bool c)) (eT : c = b)
 (hb:RowKit.Below w.heap.size w V) (hz:w.heap.size+1<w1.heap.size) (dV:w1.heap.size<=V.heap.size) :
 bodyPostM Fence.wide 6 Tryz.prog Tryz.f51 (fun e w'=>e = .returned (.bool b)∧RowKit.Below w.heap.size w w') .ret { tmps:=tmps,defers:=ds } V:=by
 subst eT;refine aeJ (B:=w1.heap.size) (C:=V.heap.size) ds _ dV hm (fun W' hW=>?_);have dZ:W'.cell? ⟨w.heap.size+1,0,none⟩=some (.bool c):=by
  have h:=hW.1.block (w.heap.size+1) hz;rw [World.cell?_of_block (w:=V) (a:=⟨w.heap.size+1,0,none⟩) h,hc]
 refine⟨.bool c,?_,rfl,hb.trans (hW.1.mono (by omega))⟩;have b7:Tryz.f51.results=#[.cell 2 4]:=rfl;unfold results;rw [b7];simp [go_sem,h2,dZ]
theorem ajd {n:Nat}{p:Nat->Bool}{i:Nat}(hi:i<n)(h:p i=false):(List.range n).all p=false:=by
 rw [List.all_eq_false];exact⟨i,Abv.2 hi,by simp [h]⟩
set_option maxRecDepth 100000 in
set_option maxHeartbeats 8000000 in
theorem arC(CB RB cap:Nat)(nm:ByteArray)(ba ua:Option Addr)(bc uc:Nat)(f:aav)(t:List (Int×Int))(w:World)(hf:ar0 f)(hk:atc CB RB cap nm ba ua bc uc f t w) :
 Calls Tryz.prog 51 #[.pointer (some ⟨CB,0,none⟩)] w fun e w'=>e = .returned (.bool (ajH f t))∧Below w.heap.size w w':=by
 have Hf:=hid hf;have Hk:=hid hk;obtain⟨bs,b4⟩:∃bs,bs=f.blocks:=⟨_,rfl⟩
 have fe:bs.length<=40:=by rw [b4];exact hf.len.2
 have ah:=hid b4;obtain⟨c0,c1,c2,c3,c4,c5⟩:=hk.box.get6;have zC:CB<w.heap.size:=aac c0;rw [<-b4] at c3 c4;have dE:=adQ (S:=fun _=>True) nm f.params f.regs ba bc bs;have cY:=hid dE;clear hf hk b4 dE c4 c5;refine (callsIn_wide (n:=6)).1 ?_;refine callsIn_of_wp_marks Tryz.func51 rfl trivial ?_ rfl;simp only [Tryz.ntmps51,Abo,Aa8,Ab6,Nat.reduceAdd,Nat.reduceSub,Ach,Aci,List.push_toArray,Acj,Abg,List.cons_append]
 gi_wp2_with (first
  | (refine ⟨trivial, ?_⟩; gi_at_call 74; refine (callsIn_wide.2 (cY.out _ ?_ (by omega) (by rw [ah.out]; exact Hf.out.tgt))).mono ?_
     . have h := Hk.out.bs
       rw [<- ah.out] at h
       exact h.later aau bE
     rintro e w1 ⟨v, rfl, hv, az⟩
     obtain ⟨va, vc, eQ, -⟩ := hv.val
     subst eQ
     have dh : (aheadF bs).length = bs.length := by unfold aheadF; simp
     rw [dh] at hv ⊢
     have Hv := hid (hv.mono acW (S' := fun _ => True) (fun _ _ => trivial) (aaS.refl _ _))
     have r0 : ((w.alloc (.cells #[.pointer (some ⟨CB, 0, none⟩)] 91)).alloc (.cells #[.bool false] 4)).cell? ⟨w.heap.size, 0, none⟩ = some (.pointer (some ⟨CB, 0, none⟩)) := by simp
     have r1 : ((w.alloc (.cells #[.pointer (some ⟨CB, 0, none⟩)] 91)).alloc (.cells #[.bool false] 4)).cell? ⟨w.heap.size + 1, 0, none⟩ = some (.bool false) := by simp
     have r2 : ((w.alloc (.cells #[.pointer (some ⟨CB, 0, none⟩)] 91)).alloc (.cells #[.bool false] 4)).frozen? ⟨w.heap.size + 1, 0, none⟩ = false := by simp
     have r0 := aab r0 az
     have cf := aab r1 az
     have r2 := (az.frozen (p := ⟨w.heap.size + 1, 0, none⟩) (aac r1)).trans r2
     have cJ : Below w.heap.size w w1 := by exact bE1 az
     have z0 : w.heap.size < w1.heap.size := aac r0
     have z1 : w.heap.size + 1 < w1.heap.size := aac cf
     have g3 := aab c3 cJ
     have e2 : CB < w1.heap.size := aac g3
     have aA := hid cJ
     have R0 := hid r0
     have R1 := hid cf
     have R2 := hid r2
     clear hv az r1 cf r2 dh cJ))
 have en:=hid Hv.out;clear r0 g3 Hv cY;have eK:=hid (Hk.out.later aA.out);obtain⟨PU,cp⟩:∃PU:Nat->Bool,PU=fun i=>ajG bs t i (bs.getD i ajm):=⟨_,rfl⟩
 have eC:=hid cp;have aF:Hid (ajH f t=(List.range bs.length).all PU):=by show _=_;unfold ajH;rw [<-ah.out,cp]
 clear cp Hk
 refine wpIn_loop (fun a W => ∃ (i : Nat) (ds : List Deferred) (u4 u5 u7 u8 u9 u10 u11 u12 u13 u26 u27 u28 u29 u30 u31 u32 u33 u34 u35 u36 u37 u38 u39 u40 u41 u42 u43 u44 u45 u46 u47 u48 u49 u50 u51 u52 u53 u54 u55 u56 u57 u58 u59 u60 u61 u62 u63 u64 u65 u66 u67 u68 u69 u70 u71 u72 u73 u74 u75 u76 u77 u78 u79 u80 u81 u82 u83 u84 u85 u86 u87 u88 u89 u90 u91 u92 u93 u94 u95 u96 u97 : Value), a = { tmps := #[(.pointer (some ⟨CB, 0, none⟩)), (.pointer (some ⟨w.heap.size, 0, none⟩)), (.pointer (some ⟨w.heap.size + 1, 0, none⟩)), (.slice va bs.length vc), u4, u5, undef, u7, u8, u9, u10, u11, u12, u13, (.pointer (some ⟨CB, 0, none⟩)), (.pointer (some ⟨CB, 0, none⟩)), (.pointer (some ⟨CB, 0, none⟩)), (.agg #[.string nm, .int .i64 f.params, .int .i64 f.regs, .slice ba bs.length bc]), (.slice va bs.length vc), (.pointer (some ⟨CB, 0, none⟩)), (.pointer (some ⟨CB, 0, none⟩)), (.pointer (some ⟨CB, 0, none⟩)), (.pointer (some ⟨CB, 3, none⟩)), (.slice ba bs.length bc), (.int .i64 (bs.length : Int)), (.int .i64 (i : Int)), u26, u27, u28, u29, u30, u31, u32, u33, u34, u35, u36, u37, u38, u39, u40, u41, u42, u43, u44, u45, u46, u47, u48, u49, u50, u51, u52, u53, u54, u55, u56, u57, u58, u59, u60, u61, u62, u63, u64, u65, u66, u67, u68, u69, u70, u71, u72, u73, u74, u75, u76, u77, u78, u79, u80, u81, u82, u83, u84, u85, u86, u87, u88, u89, u90, u91, u92, u93, u94, u95, u96, u97], defers := ds } ∧ i <= bs.length ∧ (∀ j, j < i -> PU j = true) ∧ Below w1.heap.size w1 W ∧ adH w1.heap.size W.heap.size ds W)
  (fun a _=>bs.length - (intOf (a.tmps.getD 25 undef)).toNat) ?h0 ?round
 case h0=>exact⟨0,[],undef,undef,undef,undef,undef,undef,undef,undef,undef,undef,undef,undef,undef,undef,undef,undef,undef,undef,undef,undef,undef,undef,undef,undef,undef,undef,undef,undef,undef,undef,undef,undef,undef,undef,undef,undef,undef,undef,undef,undef,undef,undef,undef,undef,undef,undef,undef,undef,undef,undef,undef,undef,undef,undef,undef,undef,undef,undef,undef,undef,undef,undef,undef,undef,undef,undef,undef,undef,undef,undef,undef,undef,undef,undef,undef,undef,undef,undef,undef,undef,undef,rfl,Aaj _,fun j hj=>by omega,Below.refl _ _,adH.nil _ _ _⟩
 case round =>
  intro _ wo hinv;obtain⟨i,ds,hinv⟩:=hinv;obtain⟨u4,hinv⟩:=hinv;obtain⟨u5,hinv⟩:=hinv;obtain⟨u7,hinv⟩:=hinv;obtain⟨u8,hinv⟩:=hinv;obtain⟨u9,hinv⟩:=hinv;obtain⟨u10,hinv⟩:=hinv;obtain⟨u11,hinv⟩:=hinv;obtain⟨u12,hinv⟩:=hinv;obtain⟨u13,hinv⟩:=hinv;obtain⟨u26,hinv⟩:=hinv;obtain⟨u27,hinv⟩:=hinv;obtain⟨u28,hinv⟩:=hinv;obtain⟨u29,hinv⟩:=hinv;obtain⟨u30,hinv⟩:=hinv;obtain⟨u31,hinv⟩:=hinv;obtain⟨u32,hinv⟩:=hinv;obtain⟨u33,hinv⟩:=hinv;obtain⟨u34,hinv⟩:=hinv;obtain⟨u35,hinv⟩:=hinv;obtain⟨u36,hinv⟩:=hinv;obtain⟨u37,hinv⟩:=hinv;obtain⟨u38,hinv⟩:=hinv;obtain⟨u39,hinv⟩:=hinv;obtain⟨u40,hinv⟩:=hinv;obtain⟨u41,hinv⟩:=hinv;obtain⟨u42,hinv⟩:=hinv;obtain⟨u43,hinv⟩:=hinv;obtain⟨u44,hinv⟩:=hinv;obtain⟨u45,hinv⟩:=hinv;obtain⟨u46,hinv⟩:=hinv;obtain⟨u47,hinv⟩:=hinv;obtain⟨u48,hinv⟩:=hinv;obtain⟨u49,hinv⟩:=hinv;obtain⟨u50,hinv⟩:=hinv;obtain⟨u51,hinv⟩:=hinv;obtain⟨u52,hinv⟩:=hinv;obtain⟨u53,hinv⟩:=hinv;obtain⟨u54,hinv⟩:=hinv;obtain⟨u55,hinv⟩:=hinv;obtain⟨u56,hinv⟩:=hinv;obtain⟨u57,hinv⟩:=hinv;obtain⟨u58,hinv⟩:=hinv;obtain⟨u59,hinv⟩:=hinv;obtain⟨u60,hinv⟩:=hinv;obtain⟨u61,hinv⟩:=hinv;obtain⟨u62,hinv⟩:=hinv;obtain⟨u63,hinv⟩:=hinv;obtain⟨u64,hinv⟩:=hinv;obtain⟨u65,hinv⟩:=hinv;obtain⟨u66,hinv⟩:=hinv;obtain⟨u67,hinv⟩:=hinv;obtain⟨u68,hinv⟩:=hinv;obtain⟨u69,hinv⟩:=hinv;obtain⟨u70,hinv⟩:=hinv;obtain⟨u71,hinv⟩:=hinv;obtain⟨u72,hinv⟩:=hinv;obtain⟨u73,hinv⟩:=hinv;obtain⟨u74,hinv⟩:=hinv;obtain⟨u75,hinv⟩:=hinv;obtain⟨u76,hinv⟩:=hinv;obtain⟨u77,hinv⟩:=hinv;obtain⟨u78,hinv⟩:=hinv;obtain⟨u79,hinv⟩:=hinv;obtain⟨u80,hinv⟩:=hinv;obtain⟨u81,hinv⟩:=hinv;obtain⟨u82,hinv⟩:=hinv;obtain⟨u83,hinv⟩:=hinv;obtain⟨u84,hinv⟩:=hinv;obtain⟨u85,hinv⟩:=hinv;obtain⟨u86,hinv⟩:=hinv;obtain⟨u87,hinv⟩:=hinv;obtain⟨u88,hinv⟩:=hinv;obtain⟨u89,hinv⟩:=hinv;obtain⟨u90,hinv⟩:=hinv;obtain⟨u91,hinv⟩:=hinv;obtain⟨u92,hinv⟩:=hinv;obtain⟨u93,hinv⟩:=hinv;obtain⟨u94,hinv⟩:=hinv;obtain⟨u95,hinv⟩:=hinv;obtain⟨u96,hinv⟩:=hinv;obtain⟨u97,hinv⟩:=hinv;obtain⟨ha,hi,bK,bh,dj⟩:=hinv;subst ha;have bL:=hid bK;have aP:=hid bh;have bj:=hid dj;have r0:=aab R0.out bh;have r1:=aab R1.out bh;have r2:=(bh.frozen (p:=⟨w.heap.size+1,0,none⟩) z1).trans R2.out;have cK:=hid (eK.out.later bh);obtain⟨eO,eb,dW,c3,dN,eU⟩:=cK.out.box.get6;rw [<-ah.out] at c3;have e4:CB<wo.heap.size:=aac c3;have z2:w.heap.size<wo.heap.size:=aac r0;have z3:w.heap.size+1<wo.heap.size:=aac r1;have z4:=bh.size;clear bK bh dj eO eb dW dN eU
  by_cases hib:i<bs.length
  . have a6:=cK.out.bs
    rw [<-ah.out] at a6;obtain⟨xb,ai,cs,eL,-,hx,-,aw⟩:=a6.get hib;subst eL;obtain⟨pa,pc,la,lc,ta,tc,rfl,cA,cD,-,ep,dY,-,-,-⟩:=hx.opens;obtain⟨d0,d1,d2,d3,d4,d5⟩:=aw.get6;have zx:xb<wo.heap.size:=aac d0;obtain⟨x,bW⟩:∃x,x=bs[i]:=⟨_,rfl⟩
    rw [<-bW] at cA cD ep dY d0 d1 d2 d3 d4 d5;have dr:f.blocks[i]?=some x:=by rw [<-ah.out,bW,Aaa hib]
    have b5:=hid dr;have dD:Hid (PU i=ajG bs t i x):=by
     show _=_;rw [eC.out];dsimp only;rw [Aaf,Aaa hib,<-bW];rfl
    obtain⟨W1,an⟩:∃W1,W1=(wo.alloc (.cells #[.int .i64 (i:Int)] 3)).alloc (.cells #[.slice pa x.phis.length pc,.slice la x.list.length lc,.int .i64 x.fin.kind,.bool x.fin.on.reg,.int .i64 x.fin.on.n,.slice ta x.fin.to.length tc] 46):=⟨_,rfl⟩
    have az:Below wo.heap.size wo W1:=by rw [an];exact bE
    have bV:W1.heap.size=wo.heap.size+2:=by rw [an];simp
    have e0:W1.cell? ⟨wo.heap.size,0,none⟩=some (.int .i64 (i:Int)):=by rw [an];simp
    have e1:aal W1 (wo.heap.size+1) 0 [.slice pa x.phis.length pc,.slice la x.list.length lc,.int .i64 x.fin.kind,.bool x.fin.on.reg,.int .i64 x.fin.on.n,.slice ta x.fin.to.length tc]:=by
     rw [an];exact .cons (by simp) (.cons (by simp) (.cons (by simp) (.cons (by simp) (.cons (by simp) (.cons (by simp) (.nil _ _ _))))))
    have dF:=hid an;have dR:=hid (cA.later acg az);have ez:=hid (cD.later aay az);have E0:=hid e0;have E1:=hid e1;have ay:=hid az;have bd:=hid bV;clear cA cD hx aw dr bW an e0 e1 az a6 bV
    gi_wp2
    clear d0 d1 d2 d3 d4 d5;rw [<-dF.out];have cq:=hid (aab r0 ay.out);have bp:=hid (aab r1 ay.out);have cB:=hid ((ay.out.frozen (p:=⟨w.heap.size+1,0,none⟩) z3).trans r2);have cN:=hid (cK.out.later ay.out);clear r0 r1 r2 c3;obtain⟨IB,cz⟩:∃IB,IB=wo.heap.size:=⟨_,rfl⟩
    rw [<-cz] at E0 E1 ⊢;have e6:=hid cz;have zI:IB+1<W1.heap.size:=by rw [bd.out];omega
    clear cz dF;obtain⟨PH,cx⟩:∃PH:Nat->Bool,PH=fun k=>(List.range (x.phis.getD k apH).src.length).all fun j=>aeX bs t (aaf bs 0 i) (x.phis.getD k apH).src j:=⟨_,rfl⟩
    obtain⟨IN,cm⟩:∃IN:Nat->Bool,IN=fun j=>af3 bs t i j (x.list.getD j asP):=⟨_,rfl⟩
    have be:Hid (PU i=((List.range x.phis.length).all PH&&((List.range x.list.length).all IN&&adV bs t x.fin.on i x.list.length))):=by
     show _=_;rw [dD.out,cx,cm];rfl
    have ev:=hid cx;have ew:=hid cm;clear cx cm dD
    gi_loopw [33] (fun s33 wi=>∃(k:Nat),k<=x.phis.length∧s33 = .int .i64 k∧(∀k',k'<k->PH k'=true)∧Below W1.heap.size W1 wi) (fun s33 _=>x.phis.length - (intOf s33).toNat)
    case atStart=>exact⟨0,Aaj _,rfl,fun k' bg=>by omega,Below.refl _ _⟩
    case round =>
     obtain⟨k,hk,rfl,aK,ad⟩:=hrel;have av:=hid aK;have aR:=hid ad;clear aK ad
     by_cases hkl:k<x.phis.length
     . obtain⟨pb,aC,cs,rfl,-,hp,-,aw⟩:=(dR.out.later acg aR.out).get hkl
       obtain⟨sa,sc,rfl,a1,eu,-⟩:=hp.opens;obtain⟨d0,d1⟩:=aw.get2;have zp:pb<wr.heap.size:=aac d0;obtain⟨y,hy⟩:∃y,y=x.phis[k]:=⟨_,rfl⟩
       rw [<-hy] at d0 d1 a1 eu;have bm:y∈x.phis:=by rw [hy];exact Aas _
       have dd:=hid (Hf.out.phi i x b5.out y bm);have dA:Hid (PH k=(List.range y.src.length).all fun j=>aeX bs t (aaf bs 0 i) y.src j):=by
        show _=_;rw [ev.out];dsimp only;rw [Aaf,Aaa hkl,<-hy];rfl
       obtain⟨W2,aD⟩:∃W2,W2=wr.alloc (.cells #[.int .i64 y.dst,.slice sa y.src.length sc] 115):=⟨_,rfl⟩
       have cO:Below wr.heap.size wr W2:=by rw [aD];exact bE
       have e1:W2.cell? ⟨wr.heap.size,1,none⟩=some (.slice sa y.src.length sc):=by rw [aD];simp
       have b3:=hid (aR.out.trans (cO.mono aR.out.size));have b9:=hid (a1.later aaM cO);have dz:=hid aD;have zw:wr.heap.size<W2.heap.size:=aac e1;clear hp aw hy bm a1 aD cO
       gi_wp2
       clear d0 d1;rw [<-dz.out];clear dz;obtain⟨PB,c8⟩:∃PB,PB=wr.heap.size:=⟨_,rfl⟩
       rw [<-c8] at e1 zw ⊢;clear c8
       gi_loopw [40] (fun s40 wj=>∃(j:Nat),j<=y.src.length∧s40 = .int .i64 j∧(∀j',j'<j->aeX bs t (aaf bs 0 i) y.src j'=true)∧Below W2.heap.size W2 wj) (fun s40 _=>y.src.length - (intOf s40).toNat)
       case atStart=>exact⟨0,Aaj _,rfl,fun k' bg=>by omega,Below.refl _ _⟩
       case round =>
        obtain⟨j,hj,rfl,aS,bn⟩:=hrel;have aL:=hid aS;have ag:=hid bn;have au:Hid (Below W1.heap.size W1 wr):=b3.out.trans (bn.mono b3.out.size);clear aS bn
        by_cases hjl:j<y.src.length
        . obtain⟨vb,ef,cs,rfl,-,eG,-,aw⟩:=(b9.out.later aaM ag.out).get hjl
          obtain⟨rfl,-⟩:=eG;obtain⟨d0,d1⟩:=aw.get2;have zv:vb<wr.heap.size:=aac d0;obtain⟨v,hv⟩:∃v,v=y.src[j]:=⟨_,rfl⟩
          rw [<-hv] at d0 d1;have bA:VOk f.regs v:=dd.out.2.2 v (by rw [hv];exact Aas _);have bQ:j<(aaf bs 0 i).length:=by rw [ah.out,<-dd.out.2.1];exact hjl
          have cS:i<(aheadF bs).length:=by unfold aheadF;simpa using hib
          have dw:Below w1.heap.size w1 wr:=aP.out.trans (((ay.out.mono (Aac _)).trans (au.out.mono (by rw [bd.out];omega))).mono aP.out.size);obtain⟨rb,ey,fb,rfl,-,⟨rv,rfl,ao⟩,-,bS⟩:=(en.out.later acW dw).get cS;have c7:(aheadF bs)[i]=aaf bs 0 i:=by
           have h:=acF hib;rw [Aaf,Aaa cS] at h;exact h
          rw [c7] at ao;obtain⟨ra,rc,eo,dC⟩:=ao.val;subst eo;have g0:=bS.get1;rw [Abd] at g0;obtain⟨R,hR⟩:∃R,R=(aaf bs 0 i).length:=⟨_,rfl⟩
          have fh:j<R:=by rw [hR];exact bQ
          rw [<-hR] at g0 ao dC;obtain⟨ib,eR,ej,g1⟩:=adv ao bQ;subst ej;have ax:=abu (Aas bQ);obtain⟨q,hq⟩:=Abc ax.1;rw [hq] at g1;have aU:q<bs.length:=by omega
          have e0:=aab E0.out au.out;have zr:rb<wr.heap.size:=aac g0;have zi:ib<wr.heap.size:=aac g1;have e7:IB<wr.heap.size:=aac e0;obtain⟨W3,bF⟩:∃W3,W3=wr.alloc (.cells #[.bool v.reg,.int .i64 v.n] 41):=⟨_,rfl⟩
          have ae:Below wr.heap.size wr W3:=by rw [bF];exact bE
          have al:Hid (Below W1.heap.size W1 W3):=au.out.trans (ae.mono au.out.size);have bl:=cN.out.later al.out;have a8:=bl.bs;rw [<-ah.out] at a8;obtain⟨eZ,dm,fi,cr,-,du,-,bT⟩:=a8.get aU;cases cr;obtain⟨eX,eW,dU,ei,e3,e9,rfl,-,-,-,-,-,-,-,-⟩:=du.opens;have m1:W3.cell? ⟨xb,ai+q * 6+1,none⟩=some (.slice dU bs[q].list.length ei):=bT 1 _ rfl;have cQ:((bs[q].list.length:Nat):Int)=apJ f.blocks (q:Int):=by
           unfold apJ;rw [Aan,Aaf,<-ah.out,Aaa aU,Option.getD_some]
          obtain⟨ln,dB⟩:∃ln,ln=bs[q].list.length:=⟨_,rfl⟩
          rw [<-dB] at m1 cQ;have m0:=aab cq.out al.out;obtain⟨-,-,-,m3,-,-⟩:=bl.box.get6;rw [<-ah.out] at m3;have b0:W3.cell? ⟨wr.heap.size,0,none⟩=some (.bool v.reg):=by rw [bF];simp
          have b2:W3.cell? ⟨wr.heap.size,1,none⟩=some (.int .i64 v.n):=by rw [bF];simp
          have mr:=aab bp.out al.out;have mf:=(al.out.frozen (p:=⟨w.heap.size+1,0,none⟩) (aac bp.out)).trans cB.out;have MR:=hid mr;have MF:=hid mf;obtain⟨kv,ak⟩:∃kv,kv=aeX bs t (aaf bs 0 i) y.src j:=⟨_,rfl⟩
          have bB:adV f.blocks t v (q:Int) (ln:Int)=kv:=by
           rw [ak,cQ,<-ah.out];unfold aeX;rw [Aaf,Aaa hjl,Aaf,Aaa bQ,<-hv];show adV bs t v (q:Int) (apJ bs (q:Int))=adV bs t v ((aaf bs 0 i)[j]) (apJ bs ((aaf bs 0 i)[j]));rw [hq]
          have cW:∀m d os,CallsIn Fence.wide m Tryz.prog 80 #[.pointer (some ⟨CB,0,none⟩),.agg #[.bool v.reg,.int .i64 v.n],.int .i64 (q:Int),.int .i64 (ln:Int)] (grow (redrawn W3 d) os) fun e eI=>e = .returned (.bool kv)∧∃p:Regrown,eI=grow (redrawn W3 p.d) p.os:=fun m d os=>by
           have h:=callsIn_wide (n:=m).2 (ajO (bl.later (below_regrown W3 d os)) Hf.out bA (by rw [<-ah.out];exact aU) (ln:Int));rw [bB] at h;exact CallsIn.regrown_of h
          have db:=hid cW;have bo:=hid ak;have dy:=hid bF;have dX:(0:Int)<=(q:Int):=by omega
          have dI:=hid ae;clear aw hv bA ao bS c7 hR dC ax hq bF ae bl a8 du bT cQ dB ak bB cW mr mf bQ cS dw
          gi_wp2
          rw [<-dy.out];clear d0 d1 g0 g1 e0;have k0:=cell_regrown m0;have k1:=cell_regrown m1;have k3:=cell_regrown m3;have cH:=cell_regrown b0;have cP:=cell_regrown b2;obtain⟨VB,de⟩:∃VB,VB=wr.heap.size:=⟨_,rfl⟩
          rw [<-de] at b0 b2 cH cP ⊢;have zq:(q:Int)<(bs.length:Int):=by omega
          clear de dy;cases kv with
          | true =>
            refine acw rfl (by kernel_rfl) (by kernel_rfl) ?_
            repeat (gi_big_quiet_step (fail))
            refine wpQuietIn_step (fun _ _ _ _=>trivial) (fun K hK=>?_);go_simp;refine⟨_,fun _=>db.out _ _ _,hK _ ?_⟩;clear hK K
            repeat (gi_big_quiet_step (fail))
            refine wpQuietIn_nil ?_;intro W' cF;obtain⟨rg,bM⟩:=cF;have bf:Below W3.heap.size W3 W':=by rw [bM];exact below_regrown _ _ _
            clear bM k0 k1 k3 cH cP m0 m1 m3 b0 b2;have ec:=hid (ag.out.trans ((dI.out.trans (bf.mono dI.out.size)).mono ag.out.size));clear bf
            gi_wp2
            go_roundw
            case rel=>exact⟨j+1,by omega,by go_num,abY aL.out bo.out.symm,ec.out⟩
            case measure=>simp [intOf];omega
          | false =>
            refine acw rfl (by kernel_rfl) (by kernel_rfl) ?_
            repeat (gi_big_quiet_step (fail))
            refine wpQuietIn_step (fun _ _ _ _=>trivial) (fun K hK=>?_);go_simp;refine⟨_,fun _=>db.out _ _ _,hK _ ?_⟩;clear hK K
            repeat (gi_big_quiet_step (fail))
            refine wpQuietIn_nil ?_;intro W' cF;obtain⟨rg,bM⟩:=cF;have bf:Below W3.heap.size W3 W':=by rw [bM];exact below_regrown _ _ _
            clear bM k0 k1 k3 cH cP m0 m1 m3 b0 b2;have bR:Below W1.heap.size W1 W':=al.out.trans (bf.mono al.out.size);have mr:=aab MR.out bf;have mf:=(bf.frozen (p:=⟨w.heap.size+1,0,none⟩) (aac MR.out)).trans MF.out;have zR:w.heap.size+1<W'.heap.size:=aac mr;have aV:=hid bR;have ee:=hid mr;clear bf bR
            gi_wp2
            have bz:ajH f t=false:=by
             rw [aF.out];refine ajd hib ?_;rw [be.out,ajd hkl (by rw [dA.out];exact ajd hjl bo.out.symm)];rfl
            have aQ:(W'.setCell ⟨w.heap.size+1,0,none⟩ (.bool false)).heap.size=W'.heap.size:=by simp [World.setCell]
            have fj:=aV.out.size;have dJ:=bd.out;have df:=aA.out.size;have aB:RowKit.Below w.heap.size w W':=aA.out.trans ((aP.out.trans ((ay.out.trans (aV.out.mono (by omega))).mono (by omega))).mono (by omega));refine ae0 w w1 _ ds _ rfl ?_ (c:=false) (by rw [aaF ee.out,if_pos rfl]) bz.symm (aB.setCell (by dsimp only;omega) _) z1 (by rw [aQ];omega);rw [aQ];exact (bj.out.keep (by omega) (fun b h1 h2 h3=>by rw [aV.out.block b (by omega),ay.out.block b h2];exact h3)).set _ (by omega)
        . have bt:j=y.src.length:=by omega
          have eS : Hid (∀ k', k' < k + 1 -> PH k' = true) := abY av.out (by
           rw [dA.out]
           exact List.all_eq_true.2 fun j' eH => aL.out j' (by rw [bt]; exact Abv.1 eH))
          clear bt
          gi_wp2
          go_roundw
          case rel=>exact⟨k+1,by omega,by go_num,eS.out,au.out⟩
          case measure=>simp [intOf];omega
     . have dg:k=x.phis.length:=by omega
       have dP:Hid ((List.range x.phis.length).all PH=true):=List.all_eq_true.2 fun k' bg=>av.out k' (by rw [dg];exact Abv.1 bg);have e1:=E1.out.later aR.out;obtain⟨cj,l1,cv,cL,c9,cT⟩:=e1.get6;have e5:IB+1<wr.heap.size:=aac l1;clear dg av e1 cj cv cL c9 cT
       gi_wp2
       clear l1
       refine wpIn_loop (fun a W => ∃ (j : Nat) (ds : List Deferred) (v11 v12 cZ dG cU v75 v76 v77 v78 v79 v80 ct v82 cE cy v85 cC : Value), a = { tmps := #[(.pointer (some ⟨CB, 0, none⟩)), (.pointer (some ⟨w.heap.size, 0, none⟩)), (.pointer (some ⟨w.heap.size + 1, 0, none⟩)), (.slice va bs.length vc), (.pointer (some ⟨IB, 0, none⟩)), (.pointer (some ⟨IB + 1, 0, none⟩)), undef, (u7), (u8), (u9), (u10), v11, v12, cZ, (.pointer (some ⟨CB, 0, none⟩)), (.pointer (some ⟨CB, 0, none⟩)), (.pointer (some ⟨CB, 0, none⟩)), (.agg #[.string nm, .int .i64 f.params, .int .i64 f.regs, .slice (some ⟨xb, ai, none⟩) bs.length bc]), (.slice va bs.length vc), (.pointer (some ⟨CB, 0, none⟩)), (.pointer (some ⟨CB, 0, none⟩)), (.pointer (some ⟨CB, 0, none⟩)), (.pointer (some ⟨CB, 3, none⟩)), (.slice (some ⟨xb, ai, none⟩) bs.length bc), (.int .i64 (bs.length : Int)), (.int .i64 (i : Int)), (.bool true), (.int .i64 (i : Int)), (.pointer (some ⟨xb, ai + i * 6, none⟩)), (.agg #[.slice pa x.phis.length pc, .slice la x.list.length lc, .int .i64 x.fin.kind, .bool x.fin.on.reg, .int .i64 x.fin.on.n, .slice ta x.fin.to.length tc]), (.pointer (some ⟨IB + 1, 0, none⟩)), (.slice pa x.phis.length pc), (.int .i64 (x.phis.length : Int)), (.int .i64 (k : Int)), (.bool false), (u35), (u36), (u37), (u38), (u39), (u40), (u41), (u42), (u43), (u44), (u45), (u46), (u47), (u48), (u49), (u50), (u51), (u52), (u53), (u54), (u55), (u56), (u57), (u58), (u59), (u60), (u61), (u62), (u63), (u64), (u65), (u66), (u67), (u68), (.pointer (some ⟨IB + 1, 1, none⟩)), (.slice la x.list.length lc), (.int .i64 (x.list.length : Int)), (.int .i64 (j : Int)), dG, cU, v75, v76, v77, v78, v79, v80, ct, v82, cE, cy, v85, cC, (u87), (u88), (u89), (u90), (u91), (u92), (u93), (u94), (u95), (u96), (u97)], defers := ds } ∧ j <= x.list.length ∧ (∀ j', j' < j -> IN j' = true) ∧ Below W1.heap.size W1 W ∧ adH w1.heap.size W.heap.size ds W)
        (fun a _=>x.list.length - (intOf (a.tmps.getD 72 undef)).toNat) ?h1 ?round4
       case h1 =>
        have e8:=bd.out;exact⟨0,ds,u11,u12,u13,u73,u74,u75,u76,u77,u78,u79,u80,u81,u82,u83,u84,u85,u86,rfl,Aaj _,fun j hj=>by omega,aR.out,(bj.out.keep (by have:=aR.out.size;omega) (fun b h1 h2 h3=>by rw [aR.out.block b (by omega),ay.out.block b h2];exact h3))⟩
       case round4 =>
        clear aR bj;intro _ wr hinv;obtain⟨j,ds,hinv⟩:=hinv;obtain⟨v11,hinv⟩:=hinv;obtain⟨v12,hinv⟩:=hinv;obtain⟨cZ,hinv⟩:=hinv;obtain⟨dG,hinv⟩:=hinv;obtain⟨cU,hinv⟩:=hinv;obtain⟨v75,hinv⟩:=hinv;obtain⟨v76,hinv⟩:=hinv;obtain⟨v77,hinv⟩:=hinv;obtain⟨v78,hinv⟩:=hinv;obtain⟨v79,hinv⟩:=hinv;obtain⟨v80,hinv⟩:=hinv;obtain⟨ct,hinv⟩:=hinv;obtain⟨v82,hinv⟩:=hinv;obtain⟨cE,hinv⟩:=hinv;obtain⟨cy,hinv⟩:=hinv;obtain⟨v85,hinv⟩:=hinv;obtain⟨cC,hinv⟩:=hinv;obtain⟨ha,hj,aT,bn,dp⟩:=hinv;subst ha;have aO:=hid aT;have ag:=hid bn;have cu:=hid dp;clear aT bn dp
        by_cases hjl:j<x.list.length
        . obtain⟨pb,aC,cs,rfl,-,hp,-,aw⟩:=(ez.out.later aay ag.out).get hjl
          obtain⟨fa,fc,rfl,aq,ham,-⟩:=hp.opens;obtain⟨d0,d1,d2,d3,d4,d5,d6,d7⟩:=aw.get8;have zp:pb<wr.heap.size:=aac d0;obtain⟨y,hy⟩:∃y,y=x.list[j]:=⟨_,rfl⟩
          rw [<-hy] at d0 d1 d2 d3 d4 d5 d6 d7 aq ham;have bm:y∈x.list:=by rw [hy];exact Aas _
          have bD:Hid (IN j=af3 bs t i j y):=by
           show _=_;rw [ew.out];dsimp only;rw [Aaf,Aaa hjl,<-hy];rfl
          have bC:∀v∈adp y,VOk f.regs v:=fun v hv=>by
           have h:=Hf.out.ins i x b5.out y bm;unfold adp at hv;rcases Aa7.1 hv with hv | hv
           . split at hv
             . rw [Aax] at hv;rw [hv];exact h.a
             . cases hv
           . rcases Aa7.1 hv with hv | hv
             . split at hv
               . rw [Aax] at hv;rw [hv];exact h.b
               . cases hv
             . exact h.args v hv
          have a7:y.args.length<=1048576:=Hf.out.args i x b5.out y bm;have ck:=fun w=>asZ 5 y fa fc w;simp only [acN] at ck;obtain⟨W2,aD⟩:∃W2,W2=(wr.alloc (.cells #[.int .i64 (j:Int)] 3)).alloc (.cells #[.int .i64 y.op,.int .i64 y.dst,.bool y.a.reg,.int .i64 y.a.n,.bool y.b.reg,.int .i64 y.b.n,.int .i64 y.fn,.slice fa y.args.length fc] 49):=⟨_,rfl⟩
          have cI:=hid bC;have br:=hid aq;clear hp aw hy bm bC aq
          gi_wp2_with (first | (refine⟨trivial,?_⟩;gi_at_call 81;refine (ck _).mono ?_;rintro e w' ⟨rfl,rfl⟩))
          obtain⟨Wk,bI⟩:∃Wk,Wk=((wr.alloc (.cells #[.int .i64 (j:Int)] 3)).alloc (.cells #[.int .i64 y.op,.int .i64 y.dst,.bool y.a.reg,.int .i64 y.a.n,.bool y.b.reg,.int .i64 y.b.n,.int .i64 y.fn,.slice fa y.args.length fc] 49)).alloc (.cells #[.int .i64 y.op,.int .i64 y.dst,.bool y.a.reg,.int .i64 y.a.n,.bool y.b.reg,.int .i64 y.b.n,.int .i64 y.fn,.slice fa y.args.length fc] 49):=⟨_,rfl⟩
          rw [<-bI];have ad:Below wr.heap.size wr Wk:=by rw [bI];exact bE
          have cc:Wk.heap.size=wr.heap.size+3:=by rw [bI];simp
          have di:W2.heap.size=wr.heap.size+1+1:=by rw [aD];simp
          have aX:Wk=W2.alloc (.cells #[.int .i64 y.op,.int .i64 y.dst,.bool y.a.reg,.int .i64 y.a.n,.bool y.b.reg,.int .i64 y.b.n,.int .i64 y.fn,.slice fa y.args.length fc] 49):=by rw [bI,aD]
          have cX:W2.cell? ⟨wr.heap.size,0,none⟩=some (.int .i64 (j:Int)):=by rw [aD];simp
          have kj:Wk.cell? ⟨wr.heap.size,0,none⟩=some (.int .i64 (j:Int)):=aab cX (by rw [aX];exact bE);have kb:aal Wk (wr.heap.size+1+1) 0 (acN y fa fc):=by
           rw [aX,<-di];unfold acN;exact .cons (by simp) (.cons (by simp) (.cons (by simp) (.cons (by simp) (.cons (by simp) (.cons (by simp) (.cons (by simp) (.cons (by simp) (.nil _ _ _))))))))
          clear aX cX di;obtain⟨JB,dx⟩:∃JB,JB=wr.heap.size:=⟨_,rfl⟩
          have aM:Hid (Below W1.heap.size W1 Wk):=ag.out.trans (ad.mono ag.out.size);have dS:=hid (cN.out.later aM.out);have dM:=hid (aab cq.out aM.out);have dt:=hid (aab bp.out aM.out);have eE:=hid ((aM.out.frozen (p:=⟨w.heap.size+1,0,none⟩) (aac bp.out)).trans cB.out);have eV:=hid (aab E0.out aM.out);have aZ:=br.out.later aaM ad;have bj:=hid (cu.out.keep (C':=Wk.heap.size) (by omega) (fun b h1 h2 h3=>by rw [ad.block b h2];exact h3));have aY:Hid (Wk.heap.size=JB+3∧w1.heap.size<=JB∧w.heap.size+1<w1.heap.size):=by
           have q1:=ag.out.size;have q2:=bd.out;have q3:=aP.out.size;exact⟨by omega,by omega,z1⟩
          have aW:Hid (RowKit.Below w.heap.size w Wk):=by
           have q2:=bd.out;have q3:=aP.out.size;have q4:=aA.out.size;exact aA.out.trans ((aP.out.trans ((ay.out.trans (aM.out.mono (by omega))).mono (by omega))).mono (by omega))
          rw [<-dx] at kj kb ⊢;clear bI ad cc aD dx ck d0 d1 d2 d3 d4 d5 d6 d7
          refine ac8 (α := atW y) rfl (by decide) (gf := 108) (lb := #[.pointer (some ⟨JB + 1 + 1, 0, none⟩)]) rfl trivial (enters_of Tryz.func108 (by kernel_rfl) rfl)
           (anT (6 - 1) (by decide) (JB+1+1) (fun _=>True) y fa fc Wk a7 aZ kb)
           (fun h k=>afy h k) (fun W l o o' h1 h2 h3 h4=>asX (n:=Wk.heap.size) W l o o' h1 h2 h3 h4) (Below.refl _ _) (fun _=>rfl)
           (fun pre W=>(∀v∈pre.map valOf,adV bs t v i j=true)∧RowKit.Below Wk.heap.size Wk W)
           (fun c pre W=>(c = .ret∧∃v∈pre.map valOf,adV bs t v i j=false)∧RowKit.Below w.heap.size w W∧W.cell? ⟨w.heap.size+1,0,none⟩=some (.bool false)∧adH w1.heap.size Wk.heap.size ds W)
           ?hI ?hIx ?h0r (fun v => .cells #[.bool (valOf v).reg,.int .i64 (valOf v).n] 41) (fun v m=>{ tmps:=#[(.pointer (some ⟨CB,0,none⟩)),(.pointer (some ⟨w.heap.size,0,none⟩)),(.pointer (some ⟨w.heap.size+1,0,none⟩)),(.slice va bs.length vc),(.pointer (some ⟨IB,0,none⟩)),(.pointer (some ⟨IB+1,0,none⟩)),undef,(u7),(u8),(u9),(u10),(.pointer (some ⟨JB,0,none⟩)),(.pointer (some ⟨JB+1,0,none⟩)),(.pointer (some ⟨m,0,none⟩)),(.pointer (some ⟨CB,0,none⟩)),(.pointer (some ⟨CB,0,none⟩)),(.pointer (some ⟨CB,0,none⟩)),(.agg #[.string nm,.int .i64 f.params,.int .i64 f.regs,.slice (some ⟨xb,ai,none⟩) bs.length bc]),(.slice va bs.length vc),(.pointer (some ⟨CB,0,none⟩)),(.pointer (some ⟨CB,0,none⟩)),(.pointer (some ⟨CB,0,none⟩)),(.pointer (some ⟨CB,3,none⟩)),(.slice (some ⟨xb,ai,none⟩) bs.length bc),(.int .i64 (bs.length:Int)),(.int .i64 (i:Int)),(.bool true),(.int .i64 (i:Int)),(.pointer (some ⟨xb,ai+i * 6,none⟩)),(.agg #[.slice pa x.phis.length pc,.slice (some ⟨pb,aC,none⟩) x.list.length lc,.int .i64 x.fin.kind,.bool x.fin.on.reg,.int .i64 x.fin.on.n,.slice ta x.fin.to.length tc]),(.pointer (some ⟨IB+1,0,none⟩)),(.slice pa x.phis.length pc),(.int .i64 (x.phis.length:Int)),(.int .i64 (k:Int)),(.bool false),(u35),(u36),(u37),(u38),(u39),(u40),(u41),(u42),(u43),(u44),(u45),(u46),(u47),(u48),(u49),(u50),(u51),(u52),(u53),(u54),(u55),(u56),(u57),(u58),(u59),(u60),(u61),(u62),(u63),(u64),(u65),(u66),(u67),(u68),(.pointer (some ⟨IB+1,1,none⟩)),(.slice (some ⟨pb,aC,none⟩) x.list.length lc),(.int .i64 (x.list.length:Int)),(.int .i64 (j:Int)),(.bool true),(.int .i64 (j:Int)),(.pointer (some ⟨pb,aC+j * 8,none⟩)),(.agg #[.int .i64 y.op,.int .i64 y.dst,.bool y.a.reg,.int .i64 y.a.n,.bool y.b.reg,.int .i64 y.b.n,.int .i64 y.fn,.slice fa y.args.length fc]),(.agg #[.int .i64 y.op,.int .i64 y.dst,.bool y.a.reg,.int .i64 y.a.n,.bool y.b.reg,.int .i64 y.b.n,.int .i64 y.fn,.slice fa y.args.length fc]),(.func (.func 108) #[] #[.pointer (some ⟨JB+1+1,0,none⟩)]),(.agg #[.bool (valOf v).reg,.int .i64 (valOf v).n]),(v80),(ct),(v82),(cE),(cy),(v85),(cC),(u87),(u88),(u89),(u90),(u91),(u92),(u93),(u94),(u95),(u96),(u97)],defers:=[] }) ?assign ?body ?done ?stop
          case hI =>
           rintro pre A B row ⟨h1,h2⟩ hg hr;exact⟨h1,h2.grown hg h2.size (fun r e=>(hr r e).1)⟩
          case hIx =>
           rintro c pre A B row ⟨hp,hb,hc,hm⟩ hg hr;have q:=aW.out.size;refine⟨hp,hb.grown hg hb.size (fun r e=>by have:=(hr r e).1;omega),cell_kept hc hg (fun r e=>(hr r e).2),hm.keep (Aac _) (fun b k1 k2 k3=>?_)⟩;rw [hg.block b (Aag.1 k3).1 (fun e=>by have:=(hr b e.symm).1;omega)];exact k3
          case h0r=>exact⟨fun v hv=>(by cases hv),Below.refl _ _⟩
          case assign =>
           intro l v W K hK;unfold aug
           gi_wp2
           exact hK
          case body =>
           rintro l pre v W ⟨h1,h2⟩ _;have eN:=hid h1;have bZ:=hid h2;obtain⟨dv,bu⟩:∃dv,dv=valOf v:=⟨_,rfl⟩
           have dn:VOk f.regs dv:=cI.out dv (by rw [bu];exact v.2);have ax:(pre++[v]).map valOf=pre.map valOf++[dv]:=by rw [Aa9,bu];rfl
           rw [<-bu];obtain⟨V,hV⟩:∃V,V=W.alloc (.cells #[.bool dv.reg,.int .i64 dv.n] 41):=⟨_,rfl⟩
           have bY:Below W.heap.size W V:=by rw [hV];exact bE
           have af:Below Wk.heap.size Wk V:=h2.trans (bY.mono h2.size);have v0:V.cell? ⟨W.heap.size,0,none⟩=some (.bool dv.reg):=by rw [hV];simp
           have v1:V.cell? ⟨W.heap.size,1,none⟩=some (.int .i64 dv.n):=by rw [hV];simp
           have q0:=aab dM.out af;have q1:=aab eV.out af;have q2:=aab kj af;have q3:=aab dt.out af;have q4:=(af.frozen (p:=⟨w.heap.size+1,0,none⟩) (aac dt.out)).trans eE.out;have Q3:=hid q3;have Q4:=hid q4;have hc:=ajO (dS.out.later af) Hf.out dn (by rw [<-ah.out];exact hib) (j:Int);rw [<-ah.out] at hc;have cG:=bY;rw [<-hV];obtain⟨kv,ak⟩:∃kv,kv=adV bs t dv i j:=⟨_,rfl⟩
           rw [<-ak] at hc;have Hc:=hid hc;have bo:=hid ak;have b1:=hid bY;have eD:=hid af;have bP:=hid ax;have ff:=hid bu;have cj:w.heap.size<V.heap.size:=aac q0;have dL:IB<V.heap.size:=aac q1;have cv:JB<V.heap.size:=aac q2;have cL:w.heap.size+1<V.heap.size:=aac q3;have c9:W.heap.size<V.heap.size:=aac v0;clear h1 h2 dn ax hV bY af hc ak cG q3 q4 bu;cases kv with
           | true =>
             gi_wp2_with (first | (refine⟨trivial,?_⟩;gi_at_call 80;refine (CallsIn.inRound l (callsIn_wide.2 Hc.out)).mono ?_;rintro e V' ⟨rfl,aj⟩;have ar:=hid aj;clear aj))
             have aB:=b1.out.trans (ar.out.mono b1.out.size);refine⟨acE aB,aeg aB,fun u hu=>?_,bZ.out.trans (aB.mono bZ.out.size)⟩;rw [bP.out] at hu;rcases Aa7.1 hu with hu | hu
             . exact eN.out u hu
             . rw [Aax] at hu
               rw [hu];exact bo.out.symm
           | false =>
             gi_wp2_with (first
              | (refine ⟨trivial, ?_⟩; gi_at_call 80; refine (CallsIn.inRound l (callsIn_wide.2 Hc.out)).mono ?_; rintro e V' ⟨rfl, aj⟩
                 have ar := hid aj
                 have q3 := aab Q3.out aj
                 have q4 := (aj.frozen (p := ⟨w.heap.size + 1, 0, none⟩) (aac Q3.out)).trans Q4.out
                 have Q5 := hid q3
                 have cT : w.heap.size + 1 < V'.heap.size := aac q3
                 clear aj))
             have aB:=b1.out.trans (ar.out.mono b1.out.size);have bN:=bZ.out.trans (aB.mono bZ.out.size);have dQ:=aW.out.size;refine⟨(acE aB).trans (KeepsOthers.setCell _ _ _),⟨rfl,dv,by rw [bP.out];simp,bo.out.symm⟩,(aW.out.trans (bN.mono dQ)).setCell (by dsimp only;omega) _,by rw [aaF Q5.out,if_pos rfl],?_⟩;exact (bj.out.keep (Aac _) (fun b k1 k2 k3=>by rw [bN.block b k2];exact k3)).set _ aY.out.2.2
          case done =>
           rintro D xs W hD da ⟨h1,h2⟩ hd;have ca:D<W.heap.size:=(Aag.1 hd).1;have q:=aY.out;have bX:adH w1.heap.size W.heap.size ({ target := .collected D,args:=#[] } :: ds) W:=(bj.out.keep (Aac _) (fun b k1 k2 k3=>by rw [h2.block b k2];exact k3)).cons hD (by omega) ca hd;have dk:IN j=true:=by
            rw [bD.out];unfold af3;rw [<-da];exact List.all_eq_true.2 h1
           have cb:=hid (abY aO.out dk);have el:=hid bX;have b3:=hid (aM.out.trans (h2.mono aM.out.size));clear h1 h2 bX dk hd da
           gi_wp2
           refine⟨⟨j+1,{ target := .collected D,args:=#[] } :: ds,_,_,_,_,_,_,_,_,_,_,_,_,_,_,_,_,_,rfl,by omega,cb.out,b3.out,el.out⟩,?_⟩;show x.list.length - (j+1)<x.list.length - j;omega
          case stop =>
           rintro D c pre W hD cw ⟨⟨rfl,v,hv,ak⟩,hb,hc,hm⟩ hd;have ca:D<W.heap.size:=(Aag.1 hd).1;have q:=aY.out;have bX:adH w1.heap.size W.heap.size ({ target := .collected D,args:=#[] } :: ds) W:=hm.cons hD (by omega) ca hd;have bz:ajH f t=false:=by
            rw [aF.out];refine ajd hib ?_;have h9:IN j=false:=by
             rw [bD.out];unfold af3;rw [List.all_eq_false];exact⟨v,cw.subset hv,by rw [ak];simp⟩
            rw [be.out,ajd hjl h9];simp
           gi_wp2
           exact ae0 w w1 _ _ _ rfl bX hc bz.symm hb z1 (by omega)
        . have bt:j=x.list.length:=by omega
          have ea:Hid ((List.range x.list.length).all IN=true):=List.all_eq_true.2 fun k' bg=>aO.out k' (by rw [bt];exact Abv.1 bg);obtain⟨-,q1,-,q3,q4,-⟩:=(E1.out.later ag.out).get6;have q0:=aab cq.out ag.out;have q2:=aab E0.out ag.out;have q5:=aab bp.out ag.out;have q6:=(ag.out.frozen (p:=⟨w.heap.size+1,0,none⟩) (aac bp.out)).trans cB.out;have Q5:=hid q5;have Q6:=hid q6;have hc:=ajO (cN.out.later ag.out) Hf.out (Hf.out.on i x b5.out) (by rw [<-ah.out];exact hib) (x.list.length:Int);rw [<-ah.out] at hc;obtain⟨kv,ak⟩:∃kv,kv=adV bs t x.fin.on i x.list.length:=⟨_,rfl⟩
          rw [<-ak] at hc;have Hc:=hid hc;have bo:=hid ak;have cj:w.heap.size<wr.heap.size:=aac q0;have dL:IB+1<wr.heap.size:=aac q1;have cv:IB<wr.heap.size:=aac q2;have cL:w.heap.size+1<wr.heap.size:=aac q5;have dJ:=bd.out;have df:=aA.out.size;have dK:=ag.out.size;have al:Hid (RowKit.Below w1.heap.size w1 wr):=aP.out.trans ((ay.out.trans (ag.out.mono (by omega))).mono (by omega));have bG:Hid (PU i=kv):=by show _=_;rw [be.out,dP.out,ea.out,<-ak];simp
          clear bt hc ak q5 q6 dJ df dK;cases kv with
          | true =>
            gi_wp2_with (first
             | (refine ⟨trivial, ?_⟩; gi_at_call 80; refine (callsIn_wide.2 Hc.out).mono ?_; rintro e V' ⟨rfl, aj⟩
                have ar := hid aj
                clear aj))
            refine⟨⟨i+1,ds,_,_,_,_,_,_,_,_,_,_,_,_,_,_,_,_,_,_,_,_,_,_,_,_,_,_,_,_,_,_,_,_,_,_,_,_,_,_,_,_,_,_,_,_,_,_,_,_,_,_,_,_,_,_,_,_,_,_,_,_,_,_,_,_,_,_,_,_,_,_,_,_,_,_,_,_,_,_,_,_,_,rfl,by omega,abY bL.out bG.out,al.out.trans (ar.out.mono al.out.size),cu.out.keep ar.out.size (fun b h1 h2 h3=>by rw [ar.out.block b h2];exact h3)⟩,?_⟩;show bs.length - (i+1)<bs.length - i;omega
          | false =>
            gi_wp2_with (first
             | (refine ⟨trivial, ?_⟩; gi_at_call 80; refine (callsIn_wide.2 Hc.out).mono ?_; rintro e V' ⟨rfl, aj⟩
                have ar := hid aj
                have q5 := aab Q5.out aj
                have q6 := (aj.frozen (p := ⟨w.heap.size + 1, 0, none⟩) (aac Q5.out)).trans Q6.out
                have Q7 := hid q5
                have cT : w.heap.size + 1 < V'.heap.size := aac q5
                clear aj))
            have bz:ajH f t=false:=by
             rw [aF.out];exact ajd hib bG.out
            have aQ:(V'.setCell ⟨w.heap.size+1,0,none⟩ (.bool false)).heap.size=V'.heap.size:=by simp [World.setCell]
            have et:=ar.out.size;have eY:=al.out.size;have cM:=aA.out.size;have aB:RowKit.Below w.heap.size w V':=aA.out.trans ((al.out.trans (ar.out.mono al.out.size)).mono cM);refine ae0 w w1 _ ds _ rfl ?_ (c:=false) (by rw [aaF Q7.out,if_pos rfl]) bz.symm (aB.setCell (by dsimp only;omega) _) z1 (by rw [aQ];omega);rw [aQ];exact (cu.out.keep et (fun b h1 h2 h3=>by rw [ar.out.block b h2];exact h3)).set _ z1
  . have dc:i=bs.length:=by omega
    have eh:Hid (ajH f t=true):=by
     show _=_;rw [aF.out];exact List.all_eq_true.2 fun k' bg=>bL.out k' (by rw [dc];exact Abv.1 bg)
    have dT:=hid r1;clear dc
    gi_wp2
    have aQ:(wo.setCell ⟨w.heap.size+1,0,none⟩ (.bool true)).heap.size=wo.heap.size:=by simp [World.setCell]
    have cM:=aA.out.size;refine ae0 w w1 _ ds _ rfl ?_ (c:=true) (by rw [aaF dT.out,if_pos rfl]) eh.out.symm ((aA.out.trans (aP.out.mono cM)).setCell (by dsimp only;omega) _) z1 (by rw [aQ];exact z4);rw [aQ];exact bj.out.set _ z1
end
end Go.Proofs.YtpeejlpcikefcaaGreatDoor
