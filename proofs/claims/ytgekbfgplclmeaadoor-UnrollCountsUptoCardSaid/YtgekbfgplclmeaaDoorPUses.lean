import Derived.Test.YtgekbfgplclmeaaDoorPVals
import Derived.Test.YtgekbfgplclmeaaDoorPRangeB
import Derived.Test.YtgekbfgplclmeaaDoorPWrites
/- ssa.checker.uses: is what is taken known? -/
namespace Go.Proofs.YtgekbfgplclmeaaDoor
open Go.RowKit Go.Shelf Go.Sort
attribute [local go_sem] Oper.semAt_some
theorem abt {F : Fence} {n : Nat} {P : Program} {id : Nat} {Q : Exit -> Act -> World -> Prop} {a : Act} {w : World} {l : List Oper} (dO : F.round = none) (hm : P.follows .mixedOrders = true) (hB : Region.lexB .any l.toArray = true)
 (h:wpQuietIn F n P l.toArray (fun w'=>∃p:Regrown,w'=grow (redrawn w p.d) p.os) (fun a'=>∀w',(∃p:Regrown,w'=grow (redrawn w p.d) p.os)->Q .normal a' w') l a):(Code.region id l.toArray true).wpIn F n P Q a w :=
 wpIn_region_quiet (C:=fun w'=>∃p:Regrown,w'=grow (redrawn w p.d) p.os) dO hm hB ⟨⟨w.drawn+1,#[]⟩,by rw [grow_empty];rfl⟩ (by simpa using h)
structure alT (CB RB cap:Nat)(nm:ByteArray)(ba ua:Option Addr)(bc uc:Nat)(f:aal)(t:List (Int×Int))(W:World):Prop where
 box:aaj W CB 0 [.string nm,.int .i64 f.params,.int .i64 f.regs,.slice ba f.blocks.length bc,.slice ua f.blocks.length uc,.slice (some ⟨RB,0,none⟩) f.regs.toNat cap]
 row:W.heap[RB]?=some (.cells (ahK t) 137 (0,0))
 up:SlAt (fun _=>True) W 1 abe (.slice ua f.blocks.length uc) (adZ f.blocks)
 bs:SlAt (fun _=>True) W 6 aa2 (.slice ba f.blocks.length bc) f.blocks
 len:t.length=f.regs.toNat
theorem alT.later {CB RB cap:Nat}{nm:ByteArray}{ba ua:Option Addr}{bc uc:Nat}{f:aal}{t:List (Int×Int)}{W W':World}(h:alT CB RB cap nm ba ua bc uc f t W)(hb:Below W.heap.size W W'):alT CB RB cap nm ba ua bc uc f t W' :=
 ⟨h.box.later hb,by rw [hb.block RB (Aan.1 h.row).1];exact h.row,h.up.later aaf hb,h.bs.later aam hb,h.len⟩
theorem afL {CB RB cap:Nat}{nm:ByteArray}{ba ua:Option Addr}{bc uc:Nat}{f:aal}{t:List (Int×Int)}{W:World}(h:alT CB RB cap nm ba ua bc uc f t W)(hf:agQ f){v:ab3}(hv:VOk f.regs v){blk:Nat}(hb:blk<f.blocks.length)(a:Int) :
 Calls Tryd.prog 86 #[.pointer (some ⟨CB,0,none⟩),.agg #[.bool v.reg,.int .i64 v.n],.int .i64 (blk:Int),.int .i64 a] W fun e W'=>e = .returned (.bool (acb f.blocks t v (blk:Int) a))∧Below W.heap.size W W':=by
 have eu:=hf.pr;obtain⟨-,-,-,-,c4,c5⟩:=h.box.get6;unfold acb;cases hr:v.reg with
 | true =>
   obtain⟨h0,h1⟩:=hv hr;obtain⟨q,hq⟩:=Aao h0;have aL:q<t.length:=by rw [h.len];omega
   rw [hq,Aag,aeA aL];have d0:W.cell? ⟨RB,q * 2,none⟩=some (.int .i64 t[q].1):=by rw [aaH h.row];exact (afY aL).1
   have d1:W.cell? ⟨RB,q * 2+1,none⟩=some (.int .i64 t[q].2):=by rw [aaH h.row];exact (afY aL).2
   exact ai5 CB RB _ cap q (blk:Int) a _ _ ua uc f.blocks.length (adZ f.blocks) (psF f.blocks) W c5 c4 h.up (aeU _) (by have:=hf.len;omega) (akB hf.toOk) (by omega) d0 d1 (by rw [<-h.len];exact aL) (by omega)
 | false =>
   unfold adz;rw [if_pos rfl];exact ai4 _ _ _ _ _
theorem ac3 {b c : Bool} (w w1 V : World) (ds : List Deferred) (tmps : Array Value) (h2 : tmps[2]? = some (.pointer (some ⟨w.heap.size + 1, 0, none⟩))) (hm : ab4 w1.heap.size V.heap.size ds V) (hc : V.cell? ⟨w.heap.size + 1, 0, none⟩ = some (.bool c)) (dI : c = b)
 (hb:RowKit.Below w.heap.size w V) (hz:w.heap.size+1<w1.heap.size) (dU:w1.heap.size<=V.heap.size) :
 bodyPostM Fence.wide 6 Tryd.prog Tryd.f62 (fun e w'=>e = .returned (.bool b)∧RowKit.Below w.heap.size w w') .ret { tmps:=tmps,defers:=ds } V:=by
 subst dI;refine ad8 (B:=w1.heap.size) (C:=V.heap.size) ds _ dU hm (fun W' hW=>?_);have dN:W'.cell? ⟨w.heap.size+1,0,none⟩=some (.bool c):=by
  have h:=hW.1.block (w.heap.size+1) hz;rw [World.cell?_of_block (w:=V) (a:=⟨w.heap.size+1,0,none⟩) h,hc]
 refine⟨.bool c,?_,rfl,hb.trans (hW.1.mono (by omega))⟩;have ch:Tryd.f62.results=#[.cell 2 4]:=rfl;unfold results;rw [ch];simp [go_sem,h2,dN]
theorem afa {n:Nat}{p:Nat->Bool}{i:Nat}(hi:i<n)(h:p i=false):(List.range n).all p=false:=by
 rw [List.all_eq_false];exact⟨i,List.mem_range.2 hi,by simp [h]⟩
set_option maxRecDepth 100000 in
set_option maxHeartbeats 8000000 in
theorem akJ(CB RB cap:Nat)(nm:ByteArray)(ba ua:Option Addr)(bc uc:Nat)(f:aal)(t:List (Int×Int))(w:World)(hf:agQ f)(hk:alT CB RB cap nm ba ua bc uc f t w) :
 Calls Tryd.prog 62 #[.pointer (some ⟨CB,0,none⟩)] w fun e w'=>e = .returned (.bool (af5 f t))∧Below w.heap.size w w':=by
 have Hf:=hid hf;have Hk:=hid hk;obtain⟨bs,bN⟩:∃bs,bs=f.blocks:=⟨_,rfl⟩
 have er:bs.length<=40:=by rw [bN];exact hf.len.2
 have af:=hid bN;obtain⟨c0,c1,c2,c3,c4,c5⟩:=hk.box.get6;have zC:CB<w.heap.size:=aac c0;rw [<-bN] at c3 c4;have cN:=afh (S:=fun _=>True) nm f.params f.regs ba bc bs;have cE:=hid cN;clear hf hk bN cN c4 c5;refine (callsIn_wide (n:=6)).1 ?_;refine callsIn_of_wp_marks Tryd.func62 rfl trivial ?_ rfl;simp only [Tryd.ntmps62,List.size_toArray,Aaq,List.length_nil,Nat.reduceAdd,Nat.reduceSub,Array.replicate_succ,Array.replicate_zero,List.push_toArray,List.append_toArray,Aa7,List.cons_append]
 gi_wp2_with (first
  | (refine ⟨trivial, ?_⟩; gi_at_call 80; refine (callsIn_wide.2 (cE.out _ ?_ (by omega) (by rw [af.out]; exact Hf.out.tgt))).mono ?_
     . have h := Hk.out.bs
       rw [<- af.out] at h
       exact h.later aam bE
     rintro e w1 ⟨v, rfl, hv, ay⟩
     obtain ⟨va, vc, dR, -⟩ := hv.val
     subst dR
     have cO : (aheadF bs).length = bs.length := by unfold aheadF; simp
     rw [cO] at hv ⊢
     have Hv := hid (hv.mono aau (S' := fun _ => True) (fun _ _ => trivial) (aaD.refl _ _))
     have r0 : ((w.alloc (.cells #[.pointer (some ⟨CB, 0, none⟩)] 132)).alloc (.cells #[.bool false] 4)).cell? ⟨w.heap.size, 0, none⟩ = some (.pointer (some ⟨CB, 0, none⟩)) := by simp
     have r1 : ((w.alloc (.cells #[.pointer (some ⟨CB, 0, none⟩)] 132)).alloc (.cells #[.bool false] 4)).cell? ⟨w.heap.size + 1, 0, none⟩ = some (.bool false) := by simp
     have r2 : ((w.alloc (.cells #[.pointer (some ⟨CB, 0, none⟩)] 132)).alloc (.cells #[.bool false] 4)).frozen? ⟨w.heap.size + 1, 0, none⟩ = false := by simp
     have r0 := aab r0 ay
     have cr := aab r1 ay
     have r2 := (ay.frozen (p := ⟨w.heap.size + 1, 0, none⟩) (aac r1)).trans r2
     have b9 : Below w.heap.size w w1 := by exact bE1 ay
     have z0 : w.heap.size < w1.heap.size := aac r0
     have z1 : w.heap.size + 1 < w1.heap.size := aac cr
     have g3 := aab c3 b9
     have eE : CB < w1.heap.size := aac g3
     have ax := hid b9
     have R0 := hid r0
     have R1 := hid cr
     have R2 := hid r2
     clear hv ay r1 cr r2 cO b9))
 have dE:=hid Hv.out;clear r0 g3 Hv cE;have dw:=hid (Hk.out.later ax.out);obtain⟨PU,b5⟩:∃PU:Nat->Bool,PU=fun i=>af4 bs t i (bs.getD i adU):=⟨_,rfl⟩
 have dp:=hid b5;have aA:Hid (af5 f t=(List.range bs.length).all PU):=by show _=_;unfold af5;rw [<-af.out,b5]
 clear b5 Hk
 refine wpIn_loop (fun a W => ∃ (i : Nat) (ds : List Deferred) (u4 u5 u7 u8 u9 u10 u11 u12 u13 u26 u27 u28 u29 u30 u31 u32 u33 u34 u35 u36 u37 u38 u39 u40 u41 u42 u43 u44 u45 u46 u47 u48 u49 u50 u51 u52 u53 u54 u55 u56 u57 u58 u59 u60 u61 u62 u63 u64 u65 u66 u67 u68 u69 u70 u71 u72 u73 u74 u75 u76 u77 u78 u79 u80 u81 u82 u83 u84 u85 u86 u87 u88 u89 u90 u91 u92 u93 u94 u95 u96 u97 : Value), a = { tmps := #[(.pointer (some ⟨CB, 0, none⟩)), (.pointer (some ⟨w.heap.size, 0, none⟩)), (.pointer (some ⟨w.heap.size + 1, 0, none⟩)), (.slice va bs.length vc), u4, u5, undef, u7, u8, u9, u10, u11, u12, u13, (.pointer (some ⟨CB, 0, none⟩)), (.pointer (some ⟨CB, 0, none⟩)), (.pointer (some ⟨CB, 0, none⟩)), (.agg #[.string nm, .int .i64 f.params, .int .i64 f.regs, .slice ba bs.length bc]), (.slice va bs.length vc), (.pointer (some ⟨CB, 0, none⟩)), (.pointer (some ⟨CB, 0, none⟩)), (.pointer (some ⟨CB, 0, none⟩)), (.pointer (some ⟨CB, 3, none⟩)), (.slice ba bs.length bc), (.int .i64 (bs.length : Int)), (.int .i64 (i : Int)), u26, u27, u28, u29, u30, u31, u32, u33, u34, u35, u36, u37, u38, u39, u40, u41, u42, u43, u44, u45, u46, u47, u48, u49, u50, u51, u52, u53, u54, u55, u56, u57, u58, u59, u60, u61, u62, u63, u64, u65, u66, u67, u68, u69, u70, u71, u72, u73, u74, u75, u76, u77, u78, u79, u80, u81, u82, u83, u84, u85, u86, u87, u88, u89, u90, u91, u92, u93, u94, u95, u96, u97], defers := ds } ∧ i <= bs.length ∧ (∀ j, j < i -> PU j = true) ∧ Below w1.heap.size w1 W ∧ ab4 w1.heap.size W.heap.size ds W)
  (fun a _=>bs.length - (intOf (a.tmps.getD 25 undef)).toNat) ?h0 ?round
 case h0=>exact⟨0,[],undef,undef,undef,undef,undef,undef,undef,undef,undef,undef,undef,undef,undef,undef,undef,undef,undef,undef,undef,undef,undef,undef,undef,undef,undef,undef,undef,undef,undef,undef,undef,undef,undef,undef,undef,undef,undef,undef,undef,undef,undef,undef,undef,undef,undef,undef,undef,undef,undef,undef,undef,undef,undef,undef,undef,undef,undef,undef,undef,undef,undef,undef,undef,undef,undef,undef,undef,undef,undef,undef,undef,undef,undef,undef,undef,undef,undef,undef,undef,undef,undef,rfl,Aaf _,fun j hj=>by omega,Below.refl _ _,ab4.nil _ _ _⟩
 case round =>
  intro _ wo hinv;obtain⟨i,ds,hinv⟩:=hinv;obtain⟨u4,hinv⟩:=hinv;obtain⟨u5,hinv⟩:=hinv;obtain⟨u7,hinv⟩:=hinv;obtain⟨u8,hinv⟩:=hinv;obtain⟨u9,hinv⟩:=hinv;obtain⟨u10,hinv⟩:=hinv;obtain⟨u11,hinv⟩:=hinv;obtain⟨u12,hinv⟩:=hinv;obtain⟨u13,hinv⟩:=hinv;obtain⟨u26,hinv⟩:=hinv;obtain⟨u27,hinv⟩:=hinv;obtain⟨u28,hinv⟩:=hinv;obtain⟨u29,hinv⟩:=hinv;obtain⟨u30,hinv⟩:=hinv;obtain⟨u31,hinv⟩:=hinv;obtain⟨u32,hinv⟩:=hinv;obtain⟨u33,hinv⟩:=hinv;obtain⟨u34,hinv⟩:=hinv;obtain⟨u35,hinv⟩:=hinv;obtain⟨u36,hinv⟩:=hinv;obtain⟨u37,hinv⟩:=hinv;obtain⟨u38,hinv⟩:=hinv;obtain⟨u39,hinv⟩:=hinv;obtain⟨u40,hinv⟩:=hinv;obtain⟨u41,hinv⟩:=hinv;obtain⟨u42,hinv⟩:=hinv;obtain⟨u43,hinv⟩:=hinv;obtain⟨u44,hinv⟩:=hinv;obtain⟨u45,hinv⟩:=hinv;obtain⟨u46,hinv⟩:=hinv;obtain⟨u47,hinv⟩:=hinv;obtain⟨u48,hinv⟩:=hinv;obtain⟨u49,hinv⟩:=hinv;obtain⟨u50,hinv⟩:=hinv;obtain⟨u51,hinv⟩:=hinv;obtain⟨u52,hinv⟩:=hinv;obtain⟨u53,hinv⟩:=hinv;obtain⟨u54,hinv⟩:=hinv;obtain⟨u55,hinv⟩:=hinv;obtain⟨u56,hinv⟩:=hinv;obtain⟨u57,hinv⟩:=hinv;obtain⟨u58,hinv⟩:=hinv;obtain⟨u59,hinv⟩:=hinv;obtain⟨u60,hinv⟩:=hinv;obtain⟨u61,hinv⟩:=hinv;obtain⟨u62,hinv⟩:=hinv;obtain⟨u63,hinv⟩:=hinv;obtain⟨u64,hinv⟩:=hinv;obtain⟨u65,hinv⟩:=hinv;obtain⟨u66,hinv⟩:=hinv;obtain⟨u67,hinv⟩:=hinv;obtain⟨u68,hinv⟩:=hinv;obtain⟨u69,hinv⟩:=hinv;obtain⟨u70,hinv⟩:=hinv;obtain⟨u71,hinv⟩:=hinv;obtain⟨u72,hinv⟩:=hinv;obtain⟨u73,hinv⟩:=hinv;obtain⟨u74,hinv⟩:=hinv;obtain⟨u75,hinv⟩:=hinv;obtain⟨u76,hinv⟩:=hinv;obtain⟨u77,hinv⟩:=hinv;obtain⟨u78,hinv⟩:=hinv;obtain⟨u79,hinv⟩:=hinv;obtain⟨u80,hinv⟩:=hinv;obtain⟨u81,hinv⟩:=hinv;obtain⟨u82,hinv⟩:=hinv;obtain⟨u83,hinv⟩:=hinv;obtain⟨u84,hinv⟩:=hinv;obtain⟨u85,hinv⟩:=hinv;obtain⟨u86,hinv⟩:=hinv;obtain⟨u87,hinv⟩:=hinv;obtain⟨u88,hinv⟩:=hinv;obtain⟨u89,hinv⟩:=hinv;obtain⟨u90,hinv⟩:=hinv;obtain⟨u91,hinv⟩:=hinv;obtain⟨u92,hinv⟩:=hinv;obtain⟨u93,hinv⟩:=hinv;obtain⟨u94,hinv⟩:=hinv;obtain⟨u95,hinv⟩:=hinv;obtain⟨u96,hinv⟩:=hinv;obtain⟨u97,hinv⟩:=hinv;obtain⟨ha,hi,bq,aX,cV⟩:=hinv;subst ha;have bk:=hid bq;have aF:=hid aX;have aR:=hid cV;have r0:=aab R0.out aX;have r1:=aab R1.out aX;have r2:=(aX.frozen (p:=⟨w.heap.size+1,0,none⟩) z1).trans R2.out;have bU:=hid (dw.out.later aX);obtain⟨ef,eg,eh,c3,ei,ej⟩:=bU.out.box.get6;rw [<-af.out] at c3;have eF:CB<wo.heap.size:=aac c3;have z2:w.heap.size<wo.heap.size:=aac r0;have z3:w.heap.size+1<wo.heap.size:=aac r1;have z4:=aX.size;clear bq aX cV ef eg eh ei ej
  by_cases hib:i<bs.length
  . have aY:=bU.out.bs
    rw [<-af.out] at aY;obtain⟨xb,ai,cs,dT,-,hx,-,ar⟩:=aY.get hib;subst dT;obtain⟨pa,pc,la,lc,ta,tc,rfl,cf,cc,-,dL,dK,-,-,-⟩:=hx.opens;obtain⟨d0,d1,d2,d3,d4,d5⟩:=ar.get6;have zx:xb<wo.heap.size:=aac d0;obtain⟨x,bQ⟩:∃x,x=bs[i]:=⟨_,rfl⟩
    rw [<-bQ] at cf cc dL dK d0 d1 d2 d3 d4 d5;have c7:f.blocks[i]?=some x:=by rw [<-af.out,bQ,Aaa hib]
    have bL:=hid c7;have cz:Hid (PU i=af4 bs t i x):=by
     show _=_;rw [dp.out];dsimp only;rw [Aab,Aaa hib,<-bQ];rfl
    obtain⟨W1,be⟩:∃W1,W1=(wo.alloc (.cells #[.int .i64 (i:Int)] 3)).alloc (.cells #[.slice pa x.phis.length pc,.slice la x.list.length lc,.int .i64 x.fin.kind,.bool x.fin.on.reg,.int .i64 x.fin.on.n,.slice ta x.fin.to.length tc] 48):=⟨_,rfl⟩
    have ay:Below wo.heap.size wo W1:=by rw [be];exact bE
    have bF:W1.heap.size=wo.heap.size+2:=by rw [be];simp
    have e0:W1.cell? ⟨wo.heap.size,0,none⟩=some (.int .i64 (i:Int)):=by rw [be];simp
    have e1:aaj W1 (wo.heap.size+1) 0 [.slice pa x.phis.length pc,.slice la x.list.length lc,.int .i64 x.fin.kind,.bool x.fin.on.reg,.int .i64 x.fin.on.n,.slice ta x.fin.to.length tc]:=by
     rw [be];exact .cons (by simp) (.cons (by simp) (.cons (by simp) (.cons (by simp) (.cons (by simp) (.cons (by simp) (.nil _ _ _))))))
    have cB:=hid be;have dD:=hid (cf.later abC ay);have dx:=hid (cc.later acf ay);have E0:=hid e0;have E1:=hid e1;have aw:=hid ay;have aT:=hid bF;clear cf cc hx ar c7 bQ be e0 e1 ay aY bF
    gi_wp2
    clear d0 d1 d2 d3 d4 d5;rw [<-cB.out];have bZ:=hid (aab r0 aw.out);have bd:=hid (aab r1 aw.out);have b0:=hid ((aw.out.frozen (p:=⟨w.heap.size+1,0,none⟩) z3).trans r2);have bV:=hid (bU.out.later aw.out);clear r0 r1 r2 c3;obtain⟨IB,b2⟩:∃IB,IB=wo.heap.size:=⟨_,rfl⟩
    rw [<-b2] at E0 E1 ⊢;have el:=hid b2;have zI:IB+1<W1.heap.size:=by rw [aT.out];omega
    clear b2 cB;obtain⟨PH,b4⟩:∃PH:Nat->Bool,PH=fun k=>(List.range (x.phis.getD k acQ).src.length).all fun j=>ac0 bs t (aag bs 0 i) (x.phis.getD k acQ).src j:=⟨_,rfl⟩
    obtain⟨IN,b3⟩:∃IN:Nat->Bool,IN=fun j=>adw bs t i j (x.list.getD j ab1):=⟨_,rfl⟩
    have aN:Hid (PU i=((List.range x.phis.length).all PH&&((List.range x.list.length).all IN&&acb bs t x.fin.on i x.list.length))):=by
     show _=_;rw [cz.out,b4,b3];rfl
    have dn:=hid b4;have dk:=hid b3;clear b4 b3 cz
    gi_loopw [33] (fun s33 wi=>∃(k:Nat),k<=x.phis.length∧s33 = .int .i64 k∧(∀k',k'<k->PH k'=true)∧Below W1.heap.size W1 wi) (fun s33 _=>x.phis.length - (intOf s33).toNat)
    case atStart=>exact⟨0,Aaf _,rfl,fun k' a1=>by omega,Below.refl _ _⟩
    case round =>
     obtain⟨k,hk,rfl,aK,aW⟩:=hrel;have ao:=hid aK;have aE:=hid aW;clear aK aW
     by_cases hkl:k<x.phis.length
     . obtain⟨pb,aC,cs,rfl,-,hp,-,ar⟩:=(dD.out.later abC aE.out).get hkl
       obtain⟨sa,sc,rfl,a6,dQ,-⟩:=hp.opens;obtain⟨d0,d1⟩:=ar.get2;have zp:pb<wr.heap.size:=aac d0;obtain⟨y,hy⟩:∃y,y=x.phis[k]:=⟨_,rfl⟩
       rw [<-hy] at d0 d1 a6 dQ;have bg:y∈x.phis:=by rw [hy];exact Aai _
       have cH:=hid (Hf.out.phi i x bL.out y bg);have cA:Hid (PH k=(List.range y.src.length).all fun j=>ac0 bs t (aag bs 0 i) y.src j):=by
        show _=_;rw [dn.out];dsimp only;rw [Aab,Aaa hkl,<-hy];rfl
       obtain⟨W2,aB⟩:∃W2,W2=wr.alloc (.cells #[.int .i64 y.dst,.slice sa y.src.length sc] 93):=⟨_,rfl⟩
       have b6:Below wr.heap.size wr W2:=by rw [aB];exact bE
       have e1:W2.cell? ⟨wr.heap.size,1,none⟩=some (.slice sa y.src.length sc):=by rw [aB];simp
       have bI:=hid (aE.out.trans (b6.mono aE.out.size));have bX:=hid (a6.later aap b6);have cC:=hid aB;have zw:wr.heap.size<W2.heap.size:=aac e1;clear hp ar hy bg a6 aB b6
       gi_wp2
       clear d0 d1;rw [<-cC.out];clear cC;obtain⟨PB,cK⟩:∃PB,PB=wr.heap.size:=⟨_,rfl⟩
       rw [<-cK] at e1 zw ⊢;clear cK
       gi_loopw [40] (fun s40 wj=>∃(j:Nat),j<=y.src.length∧s40 = .int .i64 j∧(∀j',j'<j->ac0 bs t (aag bs 0 i) y.src j'=true)∧Below W2.heap.size W2 wj) (fun s40 _=>y.src.length - (intOf s40).toNat)
       case atStart=>exact⟨0,Aaf _,rfl,fun k' a1=>by omega,Below.refl _ _⟩
       case round =>
        obtain⟨j,hj,rfl,aJ,bf⟩:=hrel;have aH:=hid aJ;have ae:=hid bf;have an:Hid (Below W1.heap.size W1 wr):=bI.out.trans (bf.mono bI.out.size);clear aJ bf
        by_cases hjl:j<y.src.length
        . obtain⟨vb,ed,cs,rfl,-,dS,-,ar⟩:=(bX.out.later aap ae.out).get hjl
          obtain⟨rfl,-⟩:=dS;obtain⟨d0,d1⟩:=ar.get2;have zv:vb<wr.heap.size:=aac d0;obtain⟨v,hv⟩:∃v,v=y.src[j]:=⟨_,rfl⟩
          rw [<-hv] at d0 d1;have bG:VOk f.regs v:=cH.out.2.2 v (by rw [hv];exact Aai _);have bB:j<(aag bs 0 i).length:=by rw [af.out,<-cH.out.2.1];exact hjl
          have ca:i<(aheadF bs).length:=by unfold aheadF;simpa using hib
          have cP:Below w1.heap.size w1 wr:=aF.out.trans (((aw.out.mono (Aad _)).trans (an.out.mono (by rw [aT.out];omega))).mono aF.out.size);obtain⟨rb,ec,eo,rfl,-,⟨rv,rfl,av⟩,-,bu⟩:=(dE.out.later aau cP).get ca;have cY:(aheadF bs)[i]=aag bs 0 i:=by
           have h:=abJ hib;rw [Aab,Aaa ca] at h;exact h
          rw [cY] at av;obtain⟨ra,rc,dP,cL⟩:=av.val;subst dP;have g0:=bu.get1;rw [Aam] at g0;obtain⟨R,hR⟩:∃R,R=(aag bs 0 i).length:=⟨_,rfl⟩
          have et:j<R:=by rw [hR];exact bB
          rw [<-hR] at g0 av cL;obtain⟨ib,dY,dM,g1⟩:=abq av bB;subst dM;have au:=acx (Aai bB);obtain⟨q,hq⟩:=Aao au.1;rw [hq] at g1;have aL:q<bs.length:=by omega
          have e0:=aab E0.out an.out;have zr:rb<wr.heap.size:=aac g0;have zi:ib<wr.heap.size:=aac g1;have eG:IB<wr.heap.size:=aac e0;obtain⟨W3,bo⟩:∃W3,W3=wr.alloc (.cells #[.bool v.reg,.int .i64 v.n] 42):=⟨_,rfl⟩
          have b7:Below wr.heap.size wr W3:=by rw [bo];exact bE
          have ak:Hid (Below W1.heap.size W1 W3):=an.out.trans (b7.mono an.out.size);have bO:=bV.out.later ak.out;have aZ:=bO.bs;rw [<-af.out] at aZ;obtain⟨eD,dh,ep,cm,-,c6,-,bw⟩:=aZ.get aL;cases cm;obtain⟨ez,eA,dZ,ea,eB,eC,rfl,-,-,-,-,-,-,-,-⟩:=c6.opens;have m1:W3.cell? ⟨xb,ai+q * 6+1,none⟩=some (.slice dZ bs[q].list.length ea):=bw 1 _ rfl;have cb:((bs[q].list.length:Nat):Int)=ai6 f.blocks (q:Int):=by
           unfold ai6;rw [Aag,Aab,<-af.out,Aaa aL,Option.getD_some]
          obtain⟨ln,cT⟩:∃ln,ln=bs[q].list.length:=⟨_,rfl⟩
          rw [<-cT] at m1 cb;have m0:=aab bZ.out ak.out;obtain⟨-,-,-,m3,-,-⟩:=bO.box.get6;rw [<-af.out] at m3;have bR:W3.cell? ⟨wr.heap.size,0,none⟩=some (.bool v.reg):=by rw [bo];simp
          have bS:W3.cell? ⟨wr.heap.size,1,none⟩=some (.int .i64 v.n):=by rw [bo];simp
          have mr:=aab bd.out ak.out;have mf:=(ak.out.frozen (p:=⟨w.heap.size+1,0,none⟩) (aac bd.out)).trans b0.out;have MR:=hid mr;have MF:=hid mf;obtain⟨kv,aj⟩:∃kv,kv=ac0 bs t (aag bs 0 i) y.src j:=⟨_,rfl⟩
          have bC:acb f.blocks t v (q:Int) (ln:Int)=kv:=by
           rw [aj,cb,<-af.out];unfold ac0;rw [Aab,Aaa hjl,Aab,Aaa bB,<-hv];show acb bs t v (q:Int) (ai6 bs (q:Int))=acb bs t v ((aag bs 0 i)[j]) (ai6 bs ((aag bs 0 i)[j]));rw [hq]
          have cW:∀m d os,CallsIn Fence.wide m Tryd.prog 86 #[.pointer (some ⟨CB,0,none⟩),.agg #[.bool v.reg,.int .i64 v.n],.int .i64 (q:Int),.int .i64 (ln:Int)] (grow (redrawn W3 d) os) fun e ee=>e = .returned (.bool kv)∧∃p:Regrown,ee=grow (redrawn W3 p.d) p.os:=fun m d os=>by
           have h:=callsIn_wide (n:=m).2 (afL (bO.later (below_regrown W3 d os)) Hf.out bG (by rw [<-af.out];exact aL) (ln:Int));rw [bC] at h;exact CallsIn.regrown_of h
          have cG:=hid cW;have a8:=hid aj;have cD:=hid bo;have eb:(0:Int)<=(q:Int):=by omega
          have cF:=hid b7;clear ar hv bG av bu cY hR cL au hq bo b7 bO aZ c6 bw cb cT aj bC cW mr mf bB ca cP
          gi_wp2
          rw [<-cD.out];clear d0 d1 g0 g1 e0;have k0:=cell_regrown m0;have k1:=cell_regrown m1;have k3:=cell_regrown m3;have cp:=cell_regrown bR;have cq:=cell_regrown bS;obtain⟨VB,cM⟩:∃VB,VB=wr.heap.size:=⟨_,rfl⟩
          rw [<-cM] at bR bS cp cq ⊢;have zq:(q:Int)<(bs.length:Int):=by omega
          clear cM cD;cases kv with
          | true =>
            refine abt rfl (by kernel_rfl) (by kernel_rfl) ?_
            repeat (gi_big_quiet_step (fail))
            refine wpQuietIn_step (fun _ _ _ _=>trivial) (fun K hK=>?_);go_simp;refine⟨_,fun _=>cG.out _ _ _,hK _ ?_⟩;clear hK K
            repeat (gi_big_quiet_step (fail))
            refine wpQuietIn_nil ?_;intro W' cl;obtain⟨rg,bD⟩:=cl;have aV:Below W3.heap.size W3 W':=by rw [bD];exact below_regrown _ _ _
            clear bD k0 k1 k3 cp cq m0 m1 m3 bR bS;have dr:=hid (ae.out.trans ((cF.out.trans (aV.mono cF.out.size)).mono ae.out.size));clear aV
            gi_wp2
            go_roundw
            case rel=>exact⟨j+1,by omega,by go_num,aa6 aH.out a8.out.symm,dr.out⟩
            case measure=>simp [intOf];omega
          | false =>
            refine abt rfl (by kernel_rfl) (by kernel_rfl) ?_
            repeat (gi_big_quiet_step (fail))
            refine wpQuietIn_step (fun _ _ _ _=>trivial) (fun K hK=>?_);go_simp;refine⟨_,fun _=>cG.out _ _ _,hK _ ?_⟩;clear hK K
            repeat (gi_big_quiet_step (fail))
            refine wpQuietIn_nil ?_;intro W' cl;obtain⟨rg,bD⟩:=cl;have aV:Below W3.heap.size W3 W':=by rw [bD];exact below_regrown _ _ _
            clear bD k0 k1 k3 cp cq m0 m1 m3 bR bS;have bt:Below W1.heap.size W1 W':=ak.out.trans (aV.mono ak.out.size);have mr:=aab MR.out aV;have mf:=(aV.frozen (p:=⟨w.heap.size+1,0,none⟩) (aac MR.out)).trans MF.out;have zR:w.heap.size+1<W'.heap.size:=aac mr;have aP:=hid bt;have dz:=hid mr;clear aV bt
            gi_wp2
            have bz:af5 f t=false:=by
             rw [aA.out];refine afa hib ?_;rw [aN.out,afa hkl (by rw [cA.out];exact afa hjl a8.out.symm)];rfl
            have aM:(W'.setCell ⟨w.heap.size+1,0,none⟩ (.bool false)).heap.size=W'.heap.size:=by simp [World.setCell]
            have ey:=aP.out.size;have da:=aT.out;have c9:=ax.out.size;have az:RowKit.Below w.heap.size w W':=ax.out.trans ((aF.out.trans ((aw.out.trans (aP.out.mono (by omega))).mono (by omega))).mono (by omega));refine ac3 w w1 _ ds _ rfl ?_ (c:=false) (by rw [aaA dz.out,if_pos rfl]) bz.symm (az.setCell (by dsimp only;omega) _) z1 (by rw [aM];omega);rw [aM];exact (aR.out.keep (by omega) (fun b h1 h2 h3=>by rw [aP.out.block b (by omega),aw.out.block b h2];exact h3)).set _ (by omega)
        . have bA:j=y.src.length:=by omega
          have dA : Hid (∀ k', k' < k + 1 -> PH k' = true) := aa6 ao.out (by
           rw [cA.out]
           exact List.all_eq_true.2 fun j' dJ => aH.out j' (by rw [bA]; exact List.mem_range.1 dJ))
          clear bA
          gi_wp2
          go_roundw
          case rel=>exact⟨k+1,by omega,by go_num,dA.out,an.out⟩
          case measure=>simp [intOf];omega
     . have cS:k=x.phis.length:=by omega
       have dC:Hid ((List.range x.phis.length).all PH=true):=List.all_eq_true.2 fun k' a1=>ao.out k' (by rw [cS];exact List.mem_range.1 a1);have e1:=E1.out.later aE.out;obtain⟨cv,l1,cw,cx,di,cy⟩:=e1.get6;have eH:IB+1<wr.heap.size:=aac l1;clear cS ao e1 cv cw cx di cy
       gi_wp2
       clear l1
       refine wpIn_loop (fun a W => ∃ (j : Nat) (ds : List Deferred) (v11 v12 dc v73 dd v75 v76 de df dg v80 ct v82 v83 v84 v85 cu : Value), a = { tmps := #[(.pointer (some ⟨CB, 0, none⟩)), (.pointer (some ⟨w.heap.size, 0, none⟩)), (.pointer (some ⟨w.heap.size + 1, 0, none⟩)), (.slice va bs.length vc), (.pointer (some ⟨IB, 0, none⟩)), (.pointer (some ⟨IB + 1, 0, none⟩)), undef, (u7), (u8), (u9), (u10), v11, v12, dc, (.pointer (some ⟨CB, 0, none⟩)), (.pointer (some ⟨CB, 0, none⟩)), (.pointer (some ⟨CB, 0, none⟩)), (.agg #[.string nm, .int .i64 f.params, .int .i64 f.regs, .slice (some ⟨xb, ai, none⟩) bs.length bc]), (.slice va bs.length vc), (.pointer (some ⟨CB, 0, none⟩)), (.pointer (some ⟨CB, 0, none⟩)), (.pointer (some ⟨CB, 0, none⟩)), (.pointer (some ⟨CB, 3, none⟩)), (.slice (some ⟨xb, ai, none⟩) bs.length bc), (.int .i64 (bs.length : Int)), (.int .i64 (i : Int)), (.bool true), (.int .i64 (i : Int)), (.pointer (some ⟨xb, ai + i * 6, none⟩)), (.agg #[.slice pa x.phis.length pc, .slice la x.list.length lc, .int .i64 x.fin.kind, .bool x.fin.on.reg, .int .i64 x.fin.on.n, .slice ta x.fin.to.length tc]), (.pointer (some ⟨IB + 1, 0, none⟩)), (.slice pa x.phis.length pc), (.int .i64 (x.phis.length : Int)), (.int .i64 (k : Int)), (.bool false), (u35), (u36), (u37), (u38), (u39), (u40), (u41), (u42), (u43), (u44), (u45), (u46), (u47), (u48), (u49), (u50), (u51), (u52), (u53), (u54), (u55), (u56), (u57), (u58), (u59), (u60), (u61), (u62), (u63), (u64), (u65), (u66), (u67), (u68), (.pointer (some ⟨IB + 1, 1, none⟩)), (.slice la x.list.length lc), (.int .i64 (x.list.length : Int)), (.int .i64 (j : Int)), v73, dd, v75, v76, de, df, dg, v80, ct, v82, v83, v84, v85, cu, (u87), (u88), (u89), (u90), (u91), (u92), (u93), (u94), (u95), (u96), (u97)], defers := ds } ∧ j <= x.list.length ∧ (∀ j', j' < j -> IN j' = true) ∧ Below W1.heap.size W1 W ∧ ab4 w1.heap.size W.heap.size ds W)
        (fun a _=>x.list.length - (intOf (a.tmps.getD 72 undef)).toNat) ?h1 ?round4
       case h1 =>
        have ew:=aT.out;exact⟨0,ds,u11,u12,u13,u73,u74,u75,u76,u77,u78,u79,u80,u81,u82,u83,u84,u85,u86,rfl,Aaf _,fun j hj=>by omega,aE.out,(aR.out.keep (by have:=aE.out.size;omega) (fun b h1 h2 h3=>by rw [aE.out.block b (by omega),aw.out.block b h2];exact h3))⟩
       case round4 =>
        clear aE aR;intro _ wr hinv;obtain⟨j,ds,hinv⟩:=hinv;obtain⟨v11,hinv⟩:=hinv;obtain⟨v12,hinv⟩:=hinv;obtain⟨dc,hinv⟩:=hinv;obtain⟨v73,hinv⟩:=hinv;obtain⟨dd,hinv⟩:=hinv;obtain⟨v75,hinv⟩:=hinv;obtain⟨v76,hinv⟩:=hinv;obtain⟨de,hinv⟩:=hinv;obtain⟨df,hinv⟩:=hinv;obtain⟨dg,hinv⟩:=hinv;obtain⟨v80,hinv⟩:=hinv;obtain⟨ct,hinv⟩:=hinv;obtain⟨v82,hinv⟩:=hinv;obtain⟨v83,hinv⟩:=hinv;obtain⟨v84,hinv⟩:=hinv;obtain⟨v85,hinv⟩:=hinv;obtain⟨cu,hinv⟩:=hinv;obtain⟨ha,hj,aI,bf,cU⟩:=hinv;subst ha;have aG:=hid aI;have ae:=hid bf;have bW:=hid cU;clear aI bf cU
        by_cases hjl:j<x.list.length
        . obtain⟨pb,aC,cs,rfl,-,hp,-,ar⟩:=(dx.out.later acf ae.out).get hjl
          obtain⟨fa,fc,rfl,aq,ham,-⟩:=hp.opens;obtain⟨d0,d1,d2,d3,d4,d5,d6,d7⟩:=ar.get8;have zp:pb<wr.heap.size:=aac d0;obtain⟨y,hy⟩:∃y,y=x.list[j]:=⟨_,rfl⟩
          rw [<-hy] at d0 d1 d2 d3 d4 d5 d6 d7 aq ham;have bg:y∈x.list:=by rw [hy];exact Aai _
          have bh:Hid (IN j=adw bs t i j y):=by
           show _=_;rw [dk.out];dsimp only;rw [Aab,Aaa hjl,<-hy];rfl
          have bH:∀v∈abU y,VOk f.regs v:=fun v hv=>by
           have h:=Hf.out.ins i x bL.out y bg;unfold abU at hv;rcases Aaw.1 hv with hv | hv
           . split at hv
             . rw [Aau] at hv;rw [hv];exact h.a
             . cases hv
           . rcases Aaw.1 hv with hv | hv
             . split at hv
               . rw [Aau] at hv;rw [hv];exact h.b
               . cases hv
             . exact h.args v hv
          have a7:y.args.length<=1048576:=Hf.out.args i x bL.out y bg;have ck:=fun w=>alM 5 y fa fc w;simp only [abv] at ck;obtain⟨W2,aB⟩:∃W2,W2=(wr.alloc (.cells #[.int .i64 (j:Int)] 3)).alloc (.cells #[.int .i64 y.op,.int .i64 y.dst,.bool y.a.reg,.int .i64 y.a.n,.bool y.b.reg,.int .i64 y.b.n,.int .i64 y.fn,.slice fa y.args.length fc] 63):=⟨_,rfl⟩
          have bY:=hid bH;have bl:=hid aq;clear hp ar hy bg bH aq
          gi_wp2_with (first | (refine⟨trivial,?_⟩;gi_at_call 87;refine (ck _).mono ?_;rintro e w' ⟨rfl,rfl⟩))
          obtain⟨Wk,bp⟩:∃Wk,Wk=((wr.alloc (.cells #[.int .i64 (j:Int)] 3)).alloc (.cells #[.int .i64 y.op,.int .i64 y.dst,.bool y.a.reg,.int .i64 y.a.n,.bool y.b.reg,.int .i64 y.b.n,.int .i64 y.fn,.slice fa y.args.length fc] 63)).alloc (.cells #[.int .i64 y.op,.int .i64 y.dst,.bool y.a.reg,.int .i64 y.a.n,.bool y.b.reg,.int .i64 y.b.n,.int .i64 y.fn,.slice fa y.args.length fc] 63):=⟨_,rfl⟩
          rw [<-bp];have aW:Below wr.heap.size wr Wk:=by rw [bp];exact bE
          have cj:Wk.heap.size=wr.heap.size+3:=by rw [bp];simp
          have cZ:W2.heap.size=wr.heap.size+1+1:=by rw [aB];simp
          have aU:Wk=W2.alloc (.cells #[.int .i64 y.op,.int .i64 y.dst,.bool y.a.reg,.int .i64 y.a.n,.bool y.b.reg,.int .i64 y.b.n,.int .i64 y.fn,.slice fa y.args.length fc] 63):=by rw [bp,aB]
          have db:W2.cell? ⟨wr.heap.size,0,none⟩=some (.int .i64 (j:Int)):=by rw [aB];simp
          have kj:Wk.cell? ⟨wr.heap.size,0,none⟩=some (.int .i64 (j:Int)):=aab db (by rw [aU];exact bE);have kb:aaj Wk (wr.heap.size+1+1) 0 (abv y fa fc):=by
           rw [aU,<-cZ];unfold abv;exact .cons (by simp) (.cons (by simp) (.cons (by simp) (.cons (by simp) (.cons (by simp) (.cons (by simp) (.cons (by simp) (.cons (by simp) (.nil _ _ _))))))))
          clear aU db cZ;obtain⟨JB,cJ⟩:∃JB,JB=wr.heap.size:=⟨_,rfl⟩
          have aD:Hid (Below W1.heap.size W1 Wk):=ae.out.trans (aW.mono ae.out.size);have dm:=hid (bV.out.later aD.out);have dF:=hid (aab bZ.out aD.out);have cI:=hid (aab bd.out aD.out);have dH:=hid ((aD.out.frozen (p:=⟨w.heap.size+1,0,none⟩) (aac bd.out)).trans b0.out);have dj:=hid (aab E0.out aD.out);have aO:=bl.out.later aap aW;have aR:=hid (bW.out.keep (C':=Wk.heap.size) (by omega) (fun b h1 h2 h3=>by rw [aW.block b h2];exact h3));have aS:Hid (Wk.heap.size=JB+3∧w1.heap.size<=JB∧w.heap.size+1<w1.heap.size):=by
           have q1:=ae.out.size;have q2:=aT.out;have q3:=aF.out.size;exact⟨by omega,by omega,z1⟩
          have aQ:Hid (RowKit.Below w.heap.size w Wk):=by
           have q2:=aT.out;have q3:=aF.out.size;have q4:=ax.out.size;exact ax.out.trans ((aF.out.trans ((aw.out.trans (aD.out.mono (by omega))).mono (by omega))).mono (by omega))
          rw [<-cJ] at kj kb ⊢;clear bp aW cj aB cJ ck d0 d1 d2 d3 d4 d5 d6 d7
          refine ac6 (α := al1 y) rfl (by decide) (gf := 111) (lb := #[.pointer (some ⟨JB + 1 + 1, 0, none⟩)]) rfl trivial (enters_of Tryd.func111 (by kernel_rfl) rfl)
           (aiq (6 - 1) (by decide) (JB+1+1) (fun _=>True) y fa fc Wk a7 aO kb)
           (fun h k=>adj h k) (fun W l o o' h1 h2 h3 h4=>ale (n:=Wk.heap.size) W l o o' h1 h2 h3 h4) (Below.refl _ _) (fun _=>rfl)
           (fun pre W=>(∀v∈pre.map valOf,acb bs t v i j=true)∧RowKit.Below Wk.heap.size Wk W)
           (fun c pre W=>(c = .ret∧∃v∈pre.map valOf,acb bs t v i j=false)∧RowKit.Below w.heap.size w W∧W.cell? ⟨w.heap.size+1,0,none⟩=some (.bool false)∧ab4 w1.heap.size Wk.heap.size ds W)
           ?hI ?hIx ?h0r (fun v => .cells #[.bool (valOf v).reg,.int .i64 (valOf v).n] 42) (fun v m=>{ tmps:=#[(.pointer (some ⟨CB,0,none⟩)),(.pointer (some ⟨w.heap.size,0,none⟩)),(.pointer (some ⟨w.heap.size+1,0,none⟩)),(.slice va bs.length vc),(.pointer (some ⟨IB,0,none⟩)),(.pointer (some ⟨IB+1,0,none⟩)),undef,(u7),(u8),(u9),(u10),(.pointer (some ⟨JB,0,none⟩)),(.pointer (some ⟨JB+1,0,none⟩)),(.pointer (some ⟨m,0,none⟩)),(.pointer (some ⟨CB,0,none⟩)),(.pointer (some ⟨CB,0,none⟩)),(.pointer (some ⟨CB,0,none⟩)),(.agg #[.string nm,.int .i64 f.params,.int .i64 f.regs,.slice (some ⟨xb,ai,none⟩) bs.length bc]),(.slice va bs.length vc),(.pointer (some ⟨CB,0,none⟩)),(.pointer (some ⟨CB,0,none⟩)),(.pointer (some ⟨CB,0,none⟩)),(.pointer (some ⟨CB,3,none⟩)),(.slice (some ⟨xb,ai,none⟩) bs.length bc),(.int .i64 (bs.length:Int)),(.int .i64 (i:Int)),(.bool true),(.int .i64 (i:Int)),(.pointer (some ⟨xb,ai+i * 6,none⟩)),(.agg #[.slice pa x.phis.length pc,.slice (some ⟨pb,aC,none⟩) x.list.length lc,.int .i64 x.fin.kind,.bool x.fin.on.reg,.int .i64 x.fin.on.n,.slice ta x.fin.to.length tc]),(.pointer (some ⟨IB+1,0,none⟩)),(.slice pa x.phis.length pc),(.int .i64 (x.phis.length:Int)),(.int .i64 (k:Int)),(.bool false),(u35),(u36),(u37),(u38),(u39),(u40),(u41),(u42),(u43),(u44),(u45),(u46),(u47),(u48),(u49),(u50),(u51),(u52),(u53),(u54),(u55),(u56),(u57),(u58),(u59),(u60),(u61),(u62),(u63),(u64),(u65),(u66),(u67),(u68),(.pointer (some ⟨IB+1,1,none⟩)),(.slice (some ⟨pb,aC,none⟩) x.list.length lc),(.int .i64 (x.list.length:Int)),(.int .i64 (j:Int)),(.bool true),(.int .i64 (j:Int)),(.pointer (some ⟨pb,aC+j * 8,none⟩)),(.agg #[.int .i64 y.op,.int .i64 y.dst,.bool y.a.reg,.int .i64 y.a.n,.bool y.b.reg,.int .i64 y.b.n,.int .i64 y.fn,.slice fa y.args.length fc]),(.agg #[.int .i64 y.op,.int .i64 y.dst,.bool y.a.reg,.int .i64 y.a.n,.bool y.b.reg,.int .i64 y.b.n,.int .i64 y.fn,.slice fa y.args.length fc]),(.func (.func 111) #[] #[.pointer (some ⟨JB+1+1,0,none⟩)]),(.agg #[.bool (valOf v).reg,.int .i64 (valOf v).n]),(v80),(ct),(v82),(v83),(v84),(v85),(cu),(u87),(u88),(u89),(u90),(u91),(u92),(u93),(u94),(u95),(u96),(u97)],defers:=[] }) ?assign ?body ?done ?stop
          case hI =>
           rintro pre A B row ⟨h1,h2⟩ hg hr;exact⟨h1,h2.grown hg h2.size (fun r e=>(hr r e).1)⟩
          case hIx =>
           rintro c pre A B row ⟨hp,hb,hc,hm⟩ hg hr;have q:=aQ.out.size;refine⟨hp,hb.grown hg hb.size (fun r e=>by have:=(hr r e).1;omega),cell_kept hc hg (fun r e=>(hr r e).2),hm.keep (Aad _) (fun b k1 k2 k3=>?_)⟩;rw [hg.block b (Aan.1 k3).1 (fun e=>by have:=(hr b e.symm).1;omega)];exact k3
          case h0r=>exact⟨fun v hv=>(by cases hv),Below.refl _ _⟩
          case assign =>
           intro l v W K hK;unfold amL
           gi_wp2
           exact hK
          case body =>
           rintro l pre v W ⟨h1,h2⟩ _;have dB:=hid h1;have bK:=hid h2;obtain⟨dv,bx⟩:∃dv,dv=valOf v:=⟨_,rfl⟩
           have cX:VOk f.regs dv:=bY.out dv (by rw [bx];exact v.2);have au:(pre++[v]).map valOf=pre.map valOf++[dv]:=by rw [Aat,bx];rfl
           rw [<-bx];obtain⟨V,hV⟩:∃V,V=W.alloc (.cells #[.bool dv.reg,.int .i64 dv.n] 42):=⟨_,rfl⟩
           have bM:Below W.heap.size W V:=by rw [hV];exact bE
           have ad:Below Wk.heap.size Wk V:=h2.trans (bM.mono h2.size);have v0:V.cell? ⟨W.heap.size,0,none⟩=some (.bool dv.reg):=by rw [hV];simp
           have v1:V.cell? ⟨W.heap.size,1,none⟩=some (.int .i64 dv.n):=by rw [hV];simp
           have q0:=aab dF.out ad;have q1:=aab dj.out ad;have q2:=aab kj ad;have q3:=aab cI.out ad;have q4:=(ad.frozen (p:=⟨w.heap.size+1,0,none⟩) (aac cI.out)).trans dH.out;have Q3:=hid q3;have Q4:=hid q4;have hc:=afL (dm.out.later ad) Hf.out cX (by rw [<-af.out];exact hib) (j:Int);rw [<-af.out] at hc;have b8:=bM;rw [<-hV];obtain⟨kv,aj⟩:∃kv,kv=acb bs t dv i j:=⟨_,rfl⟩
           rw [<-aj] at hc;have Hc:=hid hc;have a8:=hid aj;have bJ:=hid bM;have dq:=hid ad;have bm:=hid au;have en:=hid bx;have cv:w.heap.size<V.heap.size:=aac q0;have ek:IB<V.heap.size:=aac q1;have cw:JB<V.heap.size:=aac q2;have cx:w.heap.size+1<V.heap.size:=aac q3;have di:W.heap.size<V.heap.size:=aac v0;clear h1 h2 cX au hV bM ad hc aj b8 q3 q4 bx;cases kv with
           | true =>
             gi_wp2_with (first | (refine⟨trivial,?_⟩;gi_at_call 86;refine (CallsIn.inRound l (callsIn_wide.2 Hc.out)).mono ?_;rintro e V' ⟨rfl,ag⟩;have al:=hid ag;clear ag))
             have az:=bJ.out.trans (al.out.mono bJ.out.size);refine⟨aca az,acs az,fun u hu=>?_,bK.out.trans (az.mono bK.out.size)⟩;rw [bm.out] at hu;rcases Aaw.1 hu with hu | hu
             . exact dB.out u hu
             . rw [Aau] at hu
               rw [hu];exact a8.out.symm
           | false =>
             gi_wp2_with (first
              | (refine ⟨trivial, ?_⟩; gi_at_call 86; refine (CallsIn.inRound l (callsIn_wide.2 Hc.out)).mono ?_; rintro e V' ⟨rfl, ag⟩
                 have al := hid ag
                 have q3 := aab Q3.out ag
                 have q4 := (ag.frozen (p := ⟨w.heap.size + 1, 0, none⟩) (aac Q3.out)).trans Q4.out
                 have Q5 := hid q3
                 have cy : w.heap.size + 1 < V'.heap.size := aac q3
                 clear ag))
             have az:=bJ.out.trans (al.out.mono bJ.out.size);have br:=bK.out.trans (az.mono bK.out.size);have dX:=aQ.out.size;refine⟨(aca az).trans (KeepsOthers.setCell _ _ _),⟨rfl,dv,by rw [bm.out];simp,a8.out.symm⟩,(aQ.out.trans (br.mono dX)).setCell (by dsimp only;omega) _,by rw [aaA Q5.out,if_pos rfl],?_⟩;exact (aR.out.keep (Aad _) (fun b k1 k2 k3=>by rw [br.block b k2];exact k3)).set _ aS.out.2.2
          case done =>
           rintro D xs W hD c8 ⟨h1,h2⟩ hd;have b1:D<W.heap.size:=(Aan.1 hd).1;have q:=aS.out;have bP:ab4 w1.heap.size W.heap.size ({ target := .collected D,args:=#[] } :: ds) W:=(aR.out.keep (Aad _) (fun b k1 k2 k3=>by rw [h2.block b k2];exact k3)).cons hD (by omega) b1 hd;have cQ:IN j=true:=by
            rw [bh.out];unfold adw;rw [<-c8];exact List.all_eq_true.2 h1
           have bT:=hid (aa6 aG.out cQ);have dy:=hid bP;have bI:=hid (aD.out.trans (h2.mono aD.out.size));clear h1 h2 bP cQ hd c8
           gi_wp2
           refine⟨⟨j+1,{ target := .collected D,args:=#[] } :: ds,_,_,_,_,_,_,_,_,_,_,_,_,_,_,_,_,_,rfl,by omega,bT.out,bI.out,dy.out⟩,?_⟩;show x.list.length - (j+1)<x.list.length - j;omega
          case stop =>
           rintro D c pre W hD cg ⟨⟨rfl,v,hv,aj⟩,hb,hc,hm⟩ hd;have b1:D<W.heap.size:=(Aan.1 hd).1;have q:=aS.out;have bP:ab4 w1.heap.size W.heap.size ({ target := .collected D,args:=#[] } :: ds) W:=hm.cons hD (by omega) b1 hd;have bz:af5 f t=false:=by
            rw [aA.out];refine afa hib ?_;have h9:IN j=false:=by
             rw [bh.out];unfold adw;rw [List.all_eq_false];exact⟨v,cg.subset hv,by rw [aj];simp⟩
            rw [aN.out,afa hjl h9];simp
           gi_wp2
           exact ac3 w w1 _ _ _ rfl bP hc bz.symm hb z1 (by omega)
        . have bA:j=x.list.length:=by omega
          have du:Hid ((List.range x.list.length).all IN=true):=List.all_eq_true.2 fun k' a1=>aG.out k' (by rw [bA];exact List.mem_range.1 a1);obtain⟨-,q1,-,q3,q4,-⟩:=(E1.out.later ae.out).get6;have q0:=aab bZ.out ae.out;have q2:=aab E0.out ae.out;have q5:=aab bd.out ae.out;have q6:=(ae.out.frozen (p:=⟨w.heap.size+1,0,none⟩) (aac bd.out)).trans b0.out;have Q5:=hid q5;have Q6:=hid q6;have hc:=afL (bV.out.later ae.out) Hf.out (Hf.out.on i x bL.out) (by rw [<-af.out];exact hib) (x.list.length:Int);rw [<-af.out] at hc;obtain⟨kv,aj⟩:∃kv,kv=acb bs t x.fin.on i x.list.length:=⟨_,rfl⟩
          rw [<-aj] at hc;have Hc:=hid hc;have a8:=hid aj;have cv:w.heap.size<wr.heap.size:=aac q0;have ek:IB+1<wr.heap.size:=aac q1;have cw:IB<wr.heap.size:=aac q2;have cx:w.heap.size+1<wr.heap.size:=aac q5;have da:=aT.out;have c9:=ax.out.size;have dW:=ae.out.size;have ak:Hid (RowKit.Below w1.heap.size w1 wr):=aF.out.trans ((aw.out.trans (ae.out.mono (by omega))).mono (by omega));have bj:Hid (PU i=kv):=by show _=_;rw [aN.out,dC.out,du.out,<-aj];simp
          clear bA hc aj q5 q6 da c9 dW;cases kv with
          | true =>
            gi_wp2_with (first
             | (refine ⟨trivial, ?_⟩; gi_at_call 86; refine (callsIn_wide.2 Hc.out).mono ?_; rintro e V' ⟨rfl, ag⟩
                have al := hid ag
                clear ag))
            refine⟨⟨i+1,ds,_,_,_,_,_,_,_,_,_,_,_,_,_,_,_,_,_,_,_,_,_,_,_,_,_,_,_,_,_,_,_,_,_,_,_,_,_,_,_,_,_,_,_,_,_,_,_,_,_,_,_,_,_,_,_,_,_,_,_,_,_,_,_,_,_,_,_,_,_,_,_,_,_,_,_,_,_,_,_,_,_,rfl,by omega,aa6 bk.out bj.out,ak.out.trans (al.out.mono ak.out.size),bW.out.keep al.out.size (fun b h1 h2 h3=>by rw [al.out.block b h2];exact h3)⟩,?_⟩;show bs.length - (i+1)<bs.length - i;omega
          | false =>
            gi_wp2_with (first
             | (refine ⟨trivial, ?_⟩; gi_at_call 86; refine (callsIn_wide.2 Hc.out).mono ?_; rintro e V' ⟨rfl, ag⟩
                have al := hid ag
                have q5 := aab Q5.out ag
                have q6 := (ag.frozen (p := ⟨w.heap.size + 1, 0, none⟩) (aac Q5.out)).trans Q6.out
                have Q7 := hid q5
                have cy : w.heap.size + 1 < V'.heap.size := aac q5
                clear ag))
            have bz:af5 f t=false:=by
             rw [aA.out];exact afa hib bj.out
            have aM:(V'.setCell ⟨w.heap.size+1,0,none⟩ (.bool false)).heap.size=V'.heap.size:=by simp [World.setCell]
            have dV:=al.out.size;have ev:=ak.out.size;have cn:=ax.out.size;have az:RowKit.Below w.heap.size w V':=ax.out.trans ((ak.out.trans (al.out.mono ak.out.size)).mono cn);refine ac3 w w1 _ ds _ rfl ?_ (c:=false) (by rw [aaA Q7.out,if_pos rfl]) bz.symm (az.setCell (by dsimp only;omega) _) z1 (by rw [aM];omega);rw [aM];exact (bW.out.keep dV (fun b h1 h2 h3=>by rw [al.out.block b h2];exact h3)).set _ z1
  . have cR:i=bs.length:=by omega
    have dt:Hid (af5 f t=true):=by
     show _=_;rw [aA.out];exact List.all_eq_true.2 fun k' a1=>bk.out k' (by rw [cR];exact List.mem_range.1 a1)
    have dG:=hid r1;clear cR
    gi_wp2
    have aM:(wo.setCell ⟨w.heap.size+1,0,none⟩ (.bool true)).heap.size=wo.heap.size:=by simp [World.setCell]
    have cn:=ax.out.size;refine ac3 w w1 _ ds _ rfl ?_ (c:=true) (by rw [aaA dG.out,if_pos rfl]) dt.out.symm ((ax.out.trans (aF.out.mono cn)).setCell (by dsimp only;omega) _) z1 (by rw [aM];exact z4);rw [aM];exact aR.out.set _ z1
end Go.Proofs.YtgekbfgplclmeaaDoor
