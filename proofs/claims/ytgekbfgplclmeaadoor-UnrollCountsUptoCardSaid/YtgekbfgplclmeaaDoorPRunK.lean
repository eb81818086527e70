import Derived.Test.YtgekbfgplclmeaaDoorPRunI
import Derived.Test.YtgekbfgplclmeaaDoorPUnrO
/- The walker takes one step. run.walker under way of being built: its memory, the blocks ahead, the counts. run.Counts: the parts that its walk wants. -/
set_option maxHeartbeats 4000000
namespace Go.Proofs.YtgekbfgplclmeaaDoor
section
open Go.RowKit Go.Sort
section
variable {u : aax} {G F A : Value} {S : Nat -> Prop} {W0 : World} {base WB : Nat} {W : World} {V : WPth -> Value} {iv : Value} {s : RnS} {t : RnF} {r : List RnF} {f : aal} {x : aad}
set_option maxRecDepth 100000 in
theorem ac7.step(h:ac7 u G F A S W0 base WB W V iv s t r f x)(cN:s.steps<=100000) :
 Calls Tryd.prog 27 #[.pointer (some ⟨WB,0,none⟩)] W fun e w' =>
  e = .returned (.bool (s.step u).2)∧∃V' iv',aaG u G F A S W0 base WB w' V' iv' (s.step u).1:=by
 have aX:s.top=t:=by unfold RnS.top;rw [h.fr];rfl
 obtain⟨fa,fl,fc,rfl⟩:=h.fF;have cC:fl=u.funcs.length:=by
  obtain⟨ao,c,e,-⟩:=h.at_.rd.fs;cases e;rfl
 subst cC;have b5:=(Aae.1 h.fw.fn).1;have b4:=(Aae.1 h.fw.fn).2;have bW:=(Aae.1 h.fw.blk).1;have bV:=(Aae.1 h.fw.blk).2;obtain⟨fb,ax,xa,xc,rfl,aD,bI,-,-⟩:=acM h.at_.rd.fs b5;rw [b4] at aD bI;obtain⟨xb,ar,bM,bN,la,lc,ta,tc,rfl,aE,-,bF,bG,-,-⟩:=adr bI bW;rw [bV] at aE bF bG;obtain⟨-,-,-,f3⟩:=aD.get4;obtain⟨x0,x1,x2,x3,x4,x5⟩:=aE.get6;obtain⟨-,zb,aS,-⟩:=h.at_.boxAt;have c1:=aS 1 _ rfl;have c8:=aS 8 _ rfl;rw [Aac] at c1 c8;obtain⟨g,cm,hv,cA,-,-,aj,-⟩:=h.at_.topAt h.fr;have t0:=aj 0 _ rfl;have t1:=aj 1 _ rfl;have t2:=aj 2 _ rfl;rw [Aas] at t0;have HT:=hid (aeT h.at_ hv h.deep);obtain⟨n,ak⟩:∃n,n=r.length:=⟨_,rfl⟩
 obtain⟨L,aZ⟩:∃L,L=u.funcs.length:=⟨_,rfl⟩
 obtain⟨bn,a8⟩:∃m,m=f.blocks.length:=⟨_,rfl⟩
 obtain⟨fn,ay⟩:∃m,m=t.fn:=⟨_,rfl⟩
 obtain⟨tb,be⟩:∃m,m=t.blk:=⟨_,rfl⟩
 obtain⟨tp,bf⟩:∃m,m=t.pos:=⟨_,rfl⟩
 obtain⟨st,az⟩:∃m,m=s.steps:=⟨_,rfl⟩
 obtain⟨ll,aV⟩:∃m,m=x.list.length:=⟨_,rfl⟩
 obtain⟨pl,b0⟩:∃m,m=x.phis.length:=⟨_,rfl⟩
 obtain⟨tl,aH⟩:∃m,m=x.fin.to.length:=⟨_,rfl⟩
 have HX : Hid (∀ V1, Below W.heap.size W V1 -> V1.cell? ⟨WB, 1, none⟩ = some (.slice (some ⟨fb, ax, none⟩) L fc) ∧ V1.cell? ⟨WB, 8, none⟩ = some (.int .i64 (st : Int)) ∧ V1.cell? ⟨g, n * 5, none⟩ = some (.int .i64 (fn : Int)) ∧ V1.cell? ⟨g, n * 5 + 1, none⟩ = some (.int .i64 (tb : Int)) ∧ V1.cell? ⟨g, n * 5 + 2, none⟩ = some (.int .i64 (tp : Int)) ∧
  V1.cell? ⟨fb, ax + fn * 4 + 3, none⟩ = some (.slice (some ⟨xb, ar, none⟩) bn xc) ∧ V1.cell? ⟨xb, ar + tb * 6, none⟩ = some (.slice bM pl bN) ∧ V1.cell? ⟨xb, ar + tb * 6 + 1, none⟩ = some (.slice la ll lc) ∧ V1.cell? ⟨xb, ar + tb * 6 + 2, none⟩ = some (.int .i64 x.fin.kind) ∧ V1.cell? ⟨xb, ar + tb * 6 + 3, none⟩ = some (.bool x.fin.on.reg) ∧ V1.cell? ⟨xb, ar + tb * 6 + 4, none⟩ = some (.int .i64 x.fin.on.n) ∧ V1.cell? ⟨xb, ar + tb * 6 + 5, none⟩ = some (.slice ta tl tc)) := fun V1 hb => by
  rw [ak,aZ,a8,ay,be,bf,az,aV,b0,aH];exact⟨aab c1 hb,aab c8 hb,aab t0 hb,aab t1 hb,aab t2 hb,aab f3 hb,aab x0 hb,aab x1 hb,aab x2 hb,aab x3 hb,aab x4 hb,aab x5 hb⟩
 have HE:Hid (n=r.length∧L=u.funcs.length∧bn=f.blocks.length∧fn=t.fn∧tb=t.blk∧tp=t.pos∧st=s.steps∧ll=x.list.length∧tl=x.fin.to.length):=⟨ak,aZ,a8,ay,be,bf,az,aV,aH⟩
 rw [<-ak] at HT;have cE:(fn:Int)<(L:Int):=by rw [ay,aZ];omega
 have cP:(tb:Int)<(bn:Int):=by rw [be,a8];omega
 have cO:(st:Int)<=100000:=by rw [az];omega
 have cR:(tp:Int)<=(ll:Int):=by rw [bf,aV];have:=h.fw.pos;omega
 have cI:(ll:Int)<=300:=by rw [aV];have:=(h.fo.many x (Aah h.fw.blk)).2;omega
 have H:=hid h;have cj:=hid bF;have ck:=hid bG;have Hv:=hid hv;have aQ:=hid aX;clear h aX b5 b4 bW bV aD bI aE bF bG f3 x0 x1 x2 x3 x4 x5 zb aS c1 c8 hv cA aj t0 t1 t2 ak aZ a8 ay be bf az aV b0 aH cN;go_enter Tryd.func27,Tryd.ntmps27;go_upto_region 2 with (go_at_call 43;refine HT.out.mono ?_;rintro e W1 ⟨rfl,aI⟩;have aP:=hid aI;clear aI)
 obtain⟨c1,-,t0,t1,-,f3,x0,x1,x2,x3,x4,x5⟩:=HX.out W1 aP.out;have z1:=aac c1;have z2:=aac t0;have z3:=aac f3;have z4:=aac x0;go_big_region;go_upto_region 3 with (fail)
 obtain⟨W2,a6⟩:∃W2,W2=(W1.alloc (.cells #[.slice bM pl bN,.slice la ll lc,.int .i64 x.fin.kind,.bool x.fin.on.reg,.int .i64 x.fin.on.n,.slice ta tl tc] 48)).drew:=⟨_,rfl⟩
 have aJ:Below W1.heap.size W1 W2:=by rw [a6];exact bE
 have bt:W2.heap[W1.heap.size]?=some (.cells #[.slice bM pl bN,.slice la ll lc,.int .i64 x.fin.kind,.bool x.fin.on.reg,.int .i64 x.fin.on.n,.slice ta tl tc] 48 (0,0)):=by rw [a6];exact heap_alloc_new W1 _
 rw [<-a6];have bq:Hid (Below W.heap.size W W2):=aP.out.trans (aJ.mono aP.out.size);obtain⟨BB,bw⟩:∃BB,BB=W1.heap.size:=⟨_,rfl⟩
 rw [<-bw] at bt ⊢;have bO:Hid (W.heap.size<=BB):=by show _<=_;rw [bw];exact aP.out.size
 obtain⟨y0,y1,y2,y3,y4,y5⟩:=(aar (cs:=[_,_,_,_,_,_]) bt).get6;rw [Aac] at y1 y2 y3 y4 y5;clear a6 aJ bt bw c1 t0 t1 f3 x0 x1 x2 x3 x4 x5 z1 z2 z3 z4 aP;have h2:=H.out.later bq.out;obtain⟨-,c8,-⟩:=HX.out W2 bq.out;have z8:=aac c8;have f8:W2.frozen? ⟨WB,8,none⟩=false:=h2.at_.boxAt.2.2.2 8 (by omega);have cX:WB<W.heap.size:=H.out.at_.boxAt.2.1;have H3:=h2.at_.putSteps (s.steps+1);have aB:aaD S W (W2.setCell ⟨WB,8,none⟩ (.int .i64 ((st:Int)+1))):=fun b o v hS hc=>by
  have h1:=aaD.below' (S:=S) bq.out b o v hS hc;rw [World.cell?_of_block (w:=W2) (Below.heap_setCell _ _ _ _ (fun e=>(h2.at_.off .box trivial WB (by rw [h2.at_.box];rfl)) (by have e:b=WB:=e;rw [<-e];exact hS)))];exact h1
 have aW:(((s.steps+1:Nat)):Int)=(st:Int)+1:=by rw [HE.out.2.2.2.2.2.2.1];rfl
 rw [aW] at H3;have cn:BB≠WB:=by have:=bO.out;omega
 have al:∀o v,W2.cell? ⟨BB,o,none⟩=some v->(W2.setCell ⟨WB,8,none⟩ (.int .i64 ((st:Int)+1))).cell? ⟨BB,o,none⟩=some v:=fun o v hc=>by
  rw [World.cell?_of_block (w:=W2) (Below.heap_setCell _ _ _ _ cn)];exact hc
 have bj:=al _ _ y0;have bk:=al _ _ y1;have bl:=al _ _ y2;have bm:=al _ _ y3;have bo:=al _ _ y4;have bp:=al _ _ y5;obtain⟨W3,bx⟩:∃W3,W3=W2.setCell ⟨WB,8,none⟩ (.int .i64 ((st:Int)+1)):=⟨_,rfl⟩
 rw [<-bx] at H3 aB bj bk bl bm bo bp;have bP:=hid bx;have H3:Hid (ac7 u G (.slice (some ⟨fb,ax,none⟩) u.funcs.length fc) A S W0 base WB W3 V iv { s with steps:=s.steps+1 } t r f x) :=
  ⟨H3,h2.fr,h2.fw,h2.chk,h2.num,⟨h2.w.frs,h2.w.link,h2.w.deep,h2.w.mem,h2.w.inp,h2.w.out,h2.w.value,h2.w.cnt.more⟩,h2.fF,h2.fA,by have:=HE.out.2.2.2.2.2.2.1;show s.steps+1<=100001;omega⟩
 have bX:g<W.heap.size∧g≠WB:=by
  obtain⟨g',c',e,-,-,h5,-,-⟩:=H.out.at_.topAt H.out.fr;rw [Hv.out] at e;cases e;exact⟨h5,fun e2=>H.out.at_.rows.apart .frs .box trivial trivial (by intro e;cases e) g (by rw [Hv.out];rfl) (by rw [H.out.at_.box,e2];rfl)⟩
 have ch:=hid bX;have aO:=hid aB;clear h2 al y0 y1 y2 y3 y4 y5 bx aW aB bX;go_upto_region 4 with (fail)
 rw [<-bP.out];clear bP c8 z8 f8;obtain⟨g',cW,b6,cB,-,-,aj,aT⟩:=H3.out.at_.topAt H3.out.fr;rw [Hv.out] at b6;cases b6;have t2:=aj 2 _ rfl;have bg:=aT 2 (by omega);rw [<-HE.out.1] at t2 bg;rw [<-HE.out.2.2.2.2.2.1] at t2;have zt:=aac t2;have zy:=aac bj;clear aj aT
 by_cases hend:tp=ll
 . have HS:Hid (s.step u=({ s with steps:=s.steps+1 }:RnS).end_ u x.fin):=by
    show _=_;unfold RnS.step;rw [aQ.out,H.out.fw.blkR,if_pos (by rw [<-HE.out.2.2.2.2.2.1,<-HE.out.2.2.2.2.2.2.2.1];exact hend)]
   subst hend;go_quiet (fail);obtain⟨W4,aC⟩:∃W4,W4=W3.drewN nq:=⟨_,rfl⟩
   have au:Below W3.heap.size W3 W4:=by rw [aC];exact bE
   rw [<-aC];have y2:=aab bl au;have y3:=aab bm au;have y4:=aab bo au;have y5:=aab bp au;have zy:=aac y2;have HQ:=hid ((H3.out.later au).end_ (S':=S) (ta:=ta) (tc:=tc) ((ck.out.mono aaf (fun _ h=>h) aO.out).later aaf au));rw [<-HE.out.2.2.2.2.2.2.2.2] at HQ;clear aC au t2 bg zt bj bk bl bm bo bp;go_wp2_with (first | (go_at_call 44;refine HQ.out.mono ?_;rintro e cl ⟨rfl,V9,hw⟩;have HF:=hid hw;clear hw));go_ret;rw [HS.out];exact⟨rfl,_,_,HF.out⟩
 . have aN:tp<ll:=by omega
   have aM:tp<x.list.length:=by rw [<-HE.out.2.2.2.2.2.2.2.1];exact aN
   obtain⟨yi,bh⟩:∃y,y=x.list[tp]:=⟨_,rfl⟩
   have HS:Hid (s.step u=({ s with steps:=s.steps+1,frs:={ t with pos:=t.pos+1 } :: r }:RnS).ins u yi):=by
    show _=_;unfold RnS.step;rw [aQ.out,H.out.fw.blkR,if_neg (by rw [<-HE.out.2.2.2.2.2.1,<-HE.out.2.2.2.2.2.2.2.1];exact hend),<-HE.out.2.2.2.2.2.1,Aab,Aaa aM,bh];unfold RnS.setTop;show RnS.ins u _ { s with steps:=s.steps+1,frs:=_ :: s.frs.tail }=_;rw [H.out.fr];rfl
   have bB:({ s with steps:=s.steps+1 }:RnS).frs=t :: r:=H.out.fr;have cp:BB≠g:=by have:=bO.out;have:=ch.out.1;omega
   have cJ:(tp:Int)<(ll:Int):=by omega
   go_quiet (fail);obtain⟨W4,aC⟩:∃W4,W4=W3.drewN nq:=⟨_,rfl⟩
   have au:Below W3.heap.size W3 W4:=by rw [aC];exact bE
   rw [<-aC];have H4:=H3.out.later au
   have H5 := H4.at_.putTop (t' := { t with pos := t.pos + 1 }) bB Hv.out (j := 2) (by omega) (.int .i64 ((tp : Int) + 1)) (by
    show _ = [Value.int .i64 (t.fn : Int), .int .i64 (t.blk : Int), .int .i64 ((tp : Int) + 1), V (.regs r.length), .int .i64 t.dst]
    rw [HE.out.2.2.2.2.2.1]; rfl) rfl
   rw [<-HE.out.1] at H5;have aG:aaD S W (W4.setCell ⟨g,n * 5+2,none⟩ (.int .i64 ((tp:Int)+1))):=fun b o v hS hc=>by
    have h0:=aO.out b o v hS hc;have h1:=aaD.below' (S:=S) au b o v hS h0;rw [World.cell?_of_block (w:=W4) (Below.heap_setCell _ _ _ _ (fun e=>(H4.at_.off .frs trivial g (by rw [Hv.out];rfl)) (by have e:b=g:=e;rw [<-e];exact hS)))];exact h1
   have y1:=aab bk au;have cf:(W4.setCell ⟨g,n * 5+2,none⟩ (.int .i64 ((tp:Int)+1))).cell? ⟨BB,1,none⟩=some (.slice la ll lc):=by
    rw [World.cell?_of_block (w:=W4) (Below.heap_setCell _ _ _ _ cp)];exact y1
   have t24:=aab t2 au;have cU:=aac t24;have bH:W4.frozen? ⟨g,n * 5+2,none⟩=false:=by rw [World.frozen?_of_block (w:=W3) (au.block g zt)];exact bg
   have t25:(W4.setCell ⟨g,n * 5+2,none⟩ (.int .i64 ((tp:Int)+1))).cell? ⟨g,n * 5+2,none⟩=some (.int .i64 ((tp:Int)+1)):=by
    rw [aaA t24,if_pos rfl]
   obtain⟨W5,bz⟩:∃W5,W5=W4.setCell ⟨g,n * 5+2,none⟩ (.int .i64 ((tp:Int)+1)):=⟨_,rfl⟩
   rw [<-bz] at H5 aG cf t25;obtain⟨lb,cT,cs,rfl,-,⟨av,rfl,a7,-⟩,-,aL⟩:=(cj.out.mono acf (fun _ h=>h) aG).get aM;rw [<-bh] at a7 aL;obtain⟨aa,ac,rfl,-⟩:=a7.val;obtain⟨e0,e1,e2,e3,e4,e5,e6,e7⟩:=aL.get8;have zl:=aac e0;have c6:=aac cf;have c5:=aac t25;have b9:yi∈x.list:=by rw [bh];exact Aai aM
   have H5:ac7 u G (.slice (some ⟨fb,ax,none⟩) u.funcs.length fc) A S W0 base WB W5 V iv { s with steps:=s.steps+1,frs:={ t with pos:=t.pos+1 } :: r } { t with pos:=t.pos+1 } r f x :=
    ⟨H5, rfl, ⟨H4.fw.fn, H4.fw.blk, by show t.pos + 1 <= _; rw [<- HE.out.2.2.2.2.2.1]; exact aM, H4.fw.regs, H4.fw.num, H4.fw.low⟩, H4.chk, H4.num,
      ⟨fun c hc => by
        rcases Aax.1 hc with rfl | hc
        . exact ⟨f, x, H4.fw.fn, H4.fw.blk, by show t.pos + 1 <= _; rw [<- HE.out.2.2.2.2.2.1]; exact aM, H4.fw.regs, H4.fw.num, H4.fw.low⟩
        . exact H4.w.frs c (by rw [H4.fr]; exact Aa3 _ hc),
       by have h := H4.w.link; rw [H4.fr] at h; exact h.same rfl, by have h := H4.w.deep; rw [H4.fr] at h; exact h, H4.w.mem, H4.w.inp, H4.w.out, H4.w.value, H4.w.cnt⟩, H4.fF, H4.fA, H4.steps⟩
   have hQ:=fun W6 aK=>(H5.later (W':=W6) aK).ins b9 (a7.later aap aK);have HQ:=hid hQ;obtain⟨an,bU⟩:∃n,n=yi.args.length:=⟨_,rfl⟩
   rw [<-bU] at e7 HQ;have bQ:=hid bz;have cQ:(0:Int)<=(tp:Int):=by omega
   clear aC au H4 H5 aG y1 t2 bg zt bj bk bl bm bo bp bz a7 aL bh b9 hQ bU aM hend aN;go_upto_region 7 with (fail)
   rw [<-bQ.out];clear bQ t24 cU bH;have cZ:IntKind.i64.wrap (tp:Int)=(tp:Int):=by rw [IntKind.wrap_i64];omega
   go_still_tail 10,(by kernel_rfl);change wpList _ _ _ _ _ W5.drew;have aK:Below W5.heap.size W5 W5.drew:=(Below.refl _ _).drew;obtain⟨W6,bT⟩:∃W6,W6=W5.drew:=⟨_,rfl⟩
   rw [<-bT] at aK ⊢;have cg:=hid (HQ.out W6 aK);clear HQ aK bT;go_wp2_with (first | (go_at_call 45;refine cg.out.mono ?_;rintro e cl ⟨rfl,V9,c4,hw⟩;have HF:=hid hw;clear hw));go_ret;rw [HS.out];exact⟨rfl,_,_,HF.out⟩
end
end
section
open Go.RowKit
abbrev BPth:=Option WPth
def bTy : BPth -> TypeId
 | none=>31
 | some p=>p.ty
def bSz : BPth -> Nat
 | none=>1
 | some p=>p.sz
def okB (K : Nat) : BPth -> Prop
 | none=>True
 | some .box=>True
 | some .mem=>True
 | some .cnts=>True
 | some (.cnt k)=>k<K
 | _=>False
def ahp(G F iv:Value)(V:BPth->Value):List Value:=[G,F,V none,V (some .mem),iv,.int .i64 0,.int .i64 0,.slice none 0 0,.int .i64 0,.slice none 0 0,V (some .cnts)]
def bdC (G F iv : Value) (V : BPth -> Value) (m : List Int) (ae : List Value) (cs : List (List Int)) : BPth -> List (List Value)
 | none=>ae.map fun v=>[v]
 | some .box=>[ahp G F iv V]
 | some .mem=>aay m
 | some .cnts=>(List.range cs.length).map fun k=>[V (some (.cnt k))]
 | some (.cnt k)=>aay (cs.getD k [])
 | _=>[]
structure acH (G F iv:Value)(W0:World)(base WB:Nat)(W:World)(V:BPth->Value)(m:List Int)(ae:List Value)(cs:List (List Int)):Prop where
 rows:aaZ bTy bSz W base (okB cs.length) V (bdC G F iv V m ae cs)
 box:V (some .box) = .slice (some ⟨WB,0,none⟩) 1 1
 low:Below base W0 W
 hb:base<=W0.heap.size
section
variable {G F iv : Value} {W0 : World} {base WB : Nat} {W W' : World} {V : BPth -> Value} {m : List Int} {ae : List Value} {cs : List (List Int)}
theorem acH.later(h:acH G F iv W0 base WB W V m ae cs)(hb:Below W.heap.size W W'):acH G F iv W0 base WB W' V m ae cs :=
 ⟨h.rows.later hb,h.box,h.low.trans (hb.mono (Aaj h.hb h.low.size)),h.hb⟩
theorem acH.boxAt(h:acH G F iv W0 base WB W V m ae cs):base<=WB∧WB<W.heap.size∧aaj W WB 0 (ahp G F iv V)∧∀j,j<11->W.frozen? ⟨WB,j,none⟩=false:=by
 have cM:okB cs.length (some .box):=trivial;have hc:∀j v,(ahp G F iv V)[j]?=some v->base<=WB∧WB<W.heap.size∧W.cell? ⟨WB,j,none⟩=some v∧W.frozen? ⟨WB,j,none⟩=false:=fun j v hj=>by
  obtain⟨g,c,e,-,h1,h2,h3,h4⟩:=h.rows.cell cM (i:=0) (j:=j) (cs:=ahp G F iv V) (u:=v) rfl hj;rw [h.box] at e;cases e;rw [Aa5,Aac] at h3 h4;exact⟨h1,h2,h3,h4⟩
 obtain⟨h1,h2,-,-⟩:=hc 0 _ rfl;refine⟨h1,h2,fun j v hj=>?_,fun j hj=>?_⟩
 . rw [Aac];exact (hc j v hj).2.2.1
 . have hl:(ahp G F iv V).length=11:=rfl
   exact (hc j _ (Aaa (by omega))).2.2.2
variable {p:BPth}
theorem acH.far(h:acH G F iv W0 base WB W V m ae cs)(hp:okB cs.length p)(aF:p≠some .box):(V p).ownBlock≠some WB :=
 fun e=>h.rows.apart p (some .box) hp trivial aF WB e (by rw [h.box];rfl)
theorem acH.boxGrown(h:acH G F iv W0 base WB W V m ae cs)(hp:okB cs.length p)(aF:p≠some .box)(hg:W.grownBy W' (V p).ownBlock):aaj W' WB 0 (ahp G F iv V)∧∀j,j<11->W'.frozen? ⟨WB,j,none⟩=false:=by
 obtain⟨-,hz,hc,hf⟩:=h.boxAt;have aR:=hg.block WB hz fun e=>h.far hp aF e.symm;exact⟨fun j v hj=>by rw [World.cell?_of_block (w:=W) aR];exact hc j v hj,fun j hj=>by rw [World.frozen?_of_block (w:=W) aR];exact hf j hj⟩
theorem acH.lowGrown(h:acH G F iv W0 base WB W V m ae cs)(hp:okB cs.length p)(hg:W.grownBy W' (V p).ownBlock):Below base W0 W':=by
 obtain⟨g1,g2,g3,g4,g5⟩:=hg;refine h.low.trans ⟨g1,g2,g3,g4,fun k hk=>?_⟩;exact g5 k (Aba hk (Aaj h.hb h.low.size)) fun e=>by have:=(h.rows.lt hp k e.symm).1;omega
variable {v':Value}
theorem acH.turnRow(h : acH G F iv W0 base WB W V m ae cs)  (hp : okB cs.length p) (aF : p ≠ some .box)  {xss : List (List Value)} (ho : W'.ownsRow base (bTy p) (bSz p) v' xss.length xss.flatten) (hw : ∀ cs ∈ xss, cs.length = bSz p)
 (hg:W.grownBy W' (V p).ownBlock) (hb:∀k,v'.ownBlock=some k->(V p).ownBlock=some k∨W.heap.size<=k) {j:Nat} (hj:j<11) {m':List Int} {avs':List Value}
 (hC:∀q,okB cs.length q->bdC G F iv (abx V p v') m' avs' cs q=abx (abx (bdC G F iv V m ae cs) p xss) (some .box) [(ahp G F iv V).set j v'] q) :
 acH G F iv W0 base WB (W'.setCell ⟨WB,j,none⟩ v') (abx V p v') m' avs' cs:=by
 have hr:=h.rows.turn hp ho hw hg hb;have aY:abx V p v' (some .box) = .slice (some ⟨WB,0,none⟩) 1 1:=by rw [aae _ _ (Ne.symm aF)];exact h.box
 have cG:(abx (bdC G F iv V m ae cs) p xss (some .box))[0]?=some (ahp G F iv V):=by rw [aae _ _ (Ne.symm aF)];rfl
 have b3:=hr.set (p:=some .box) trivial aY cG (j:=j) hj v';have h0:0 * bSz (some .box)+j=j:=by rw [Aa5,Aac]
 rw [h0] at b3;refine⟨b3.congr (fun q _=>rfl) fun q hq=>?_,aY,(h.lowGrown hp hg).setCell h.boxAt.1 v',h.hb⟩;rw [hC q hq]
 by_cases e:q=some .box
 . subst e
   rw [aai,aai,aae _ _ (Ne.symm aF)];rfl
 . rw [aae _ _ e,aae _ _ e]
theorem acH.turnMem(h:acH G F iv W0 base WB W V m ae cs){m':List Int}(ho:W'.ownsRow base 3 1 v' m'.length (m'.map (Value.int .i64)))(hg:W.grownBy W' (V (some .mem)).ownBlock)(hb:∀k,v'.ownBlock=some k->(V (some .mem)).ownBlock=some k∨W.heap.size<=k) :
 acH G F iv W0 base WB (W'.setCell ⟨WB,3,none⟩ v') (abx V (some .mem) v') m' ae cs:=by
 refine h.turnRow (p:=some .mem) trivial (by intro e;cases e) (xss:=aay m') (by rw [aa5,aa0];exact ho) (adx _) hg hb (by omega) fun q hq=>?_
 match q,hq with
 | none,_=>rw [aae _ _ (by intro e;cases e),aae _ _ (by intro e;cases e)];rfl
 | some .box,_=>rw [aai];rfl
 | some .mem,_=>rw [aae _ _ (by intro e;cases e),aai];rfl
 | some .cnts,_=>rw [aae _ _ (by intro e;cases e),aae _ _ (by intro e;cases e)];rfl
 | some (.cnt k),_=>rw [aae _ _ (by intro e;cases e),aae _ _ (by intro e;cases e)];rfl
theorem ach(l:List Value):(l.map fun v=>[v]).flatten=l:=by
 induction l with
 | nil=>rfl
 | cons x l ih=>rw [Aa2,Abb,ih];rfl
theorem acH.turnAhd(h:acH G F iv W0 base WB W V m ae cs){avs':List Value}(ho:W'.ownsRow base 31 1 v' avs'.length avs')(hg:W.grownBy W' (V none).ownBlock)(hb:∀k,v'.ownBlock=some k->(V none).ownBlock=some k∨W.heap.size<=k) :
 acH G F iv W0 base WB (W'.setCell ⟨WB,2,none⟩ v') (abx V none v') m avs' cs:=by
 refine h.turnRow (p:=none) trivial (by intro e;cases e) (xss:=avs'.map fun v=>[v]) (by rw [ach,Aal];exact ho) (fun c hc=>by obtain⟨v,-,rfl⟩:=List.mem_map.1 hc;rfl) hg hb (by omega) fun q hq=>?_
 match q,hq with
 | none,_=>rw [aae _ _ (by intro e;cases e),aai];rfl
 | some .box,_=>rw [aai];rfl
 | some .mem,_=>rw [aae _ _ (by intro e;cases e),aae _ _ (by intro e;cases e)];rfl
 | some .cnts,_=>rw [aae _ _ (by intro e;cases e),aae _ _ (by intro e;cases e)];rfl
 | some (.cnt k),_=>rw [aae _ _ (by intro e;cases e),aae _ _ (by intro e;cases e)];rfl
theorem ahy {K:Nat}{q:BPth}(hq:okB (K+1) q):okB K q∨q=some (.cnt K):=by
 match q,hq with
 | none,_=>exact .inl trivial
 | some .box,_=>exact .inl trivial
 | some .mem,_=>exact .inl trivial
 | some .cnts,_=>exact .inl trivial
 | some (.cnt k),hq =>
   have hk:k<K+1:=hq
   by_cases e:k=K
   . exact .inr (by rw [e])
   . exact .inl (show k<K by omega)
theorem acH.pushCnt (h : acH G F iv W0 base WB W V m ae cs) {W1 W2 : World} {rv fv : Value} {l : List Int} (aI : Below W.heap.size W W1) (cK : W1.ownsRow W.heap.size 3 1 rv l.length (l.map (Value.int .i64)))
 (cL:W2.ownsRow base 26 1 fv (cs.length+1) (((List.range cs.length).map fun k=>V (some (.cnt k)))++[rv]))
 (hg:W1.grownBy W2 (V (some .cnts)).ownBlock) (hb:∀k,fv.ownBlock=some k->(V (some .cnts)).ownBlock=some k∨W1.heap.size<=k) :
 acH G F iv W0 base WB (W2.setCell ⟨WB,10,none⟩ fv) (abx (abx V (some (.cnt cs.length)) rv) (some .cnts) fv) m ae (cs++[l]):=by
 have af:base<=W.heap.size:=Aaj h.hb h.low.size;have cq:=h.rows.fresh (some (.cnt cs.length)) (v:=rv) (n:=l.length) (xss:=aay l) (by rw [aa5];exact cK) (aa0 _) (adx _) aI af;have bS:abx V (some (.cnt cs.length)) rv (some .cnts)=V (some .cnts):=aae _ _ (by intro e;cases e);obtain⟨xss,aA⟩:∃xss:List (List Value),xss=(((List.range cs.length).map fun k=>V (some (.cnt k)))++[rv]).map fun v=>[v]:=⟨_,rfl⟩
 have cS:xss.length=cs.length+1:=by rw [aA,Aal,Aak,Aal,List.length_range];rfl
 have cr:=cq.turn (p:=some .cnts) (.inl trivial) (v':=fv) (xss:=xss) (by rw [cS,aA,ach];exact cL) (fun c hc=>by rw [aA] at hc;obtain⟨v,-,rfl⟩:=List.mem_map.1 hc;rfl) (by rw [bS];exact hg) (fun k hk=>by rw [bS];exact hb k hk);have aY:abx (abx V (some (.cnt cs.length)) rv) (some .cnts) fv (some .box) = .slice (some ⟨WB,0,none⟩) 1 1:=by rw [aae _ _ (by intro e;cases e),aae _ _ (by intro e;cases e)];exact h.box
 have cw:(abx (abx (bdC G F iv V m ae cs) (some (.cnt cs.length)) (aay l)) (some .cnts) xss (some .box))[0]?=some (ahp G F iv V):=by
  rw [aae _ _ (by intro e;cases e),aae _ _ (by intro e;cases e)];rfl
 have bR:=cr.set (p:=some .box) (.inl trivial) aY cw (j:=10) (by show 10<11;omega) fv;have h0:0 * bSz (some .box)+10=10:=by rw [Aa5,Aac]
 rw [h0] at bR;obtain⟨g1,g2,g3,g4,g5⟩:=hg;have bD:Below base W W2:=(aI.mono af).trans ⟨g1,g2,g3,g4,fun k hk=>g5 k (by have:=aI.size;omega) fun e=>by have:=(h.rows.lt (p:=some .cnts) trivial k e.symm).1;omega⟩;have hlen:(cs++[l]).length=cs.length+1:=by rw [Aak];rfl
 refine⟨?_,aY,(h.low.trans bD).setCell h.boxAt.1 fv,h.hb⟩;rw [hlen];refine (bR.less (ok':=okB (cs.length+1)) fun q hq=>ahy hq).congr (fun q _=>rfl) fun q hq=>?_
 match q,hq with
 | none,_=>rw [aae _ _ (by intro e;cases e),aae _ _ (by intro e;cases e),aae _ _ (by intro e;cases e)];rfl
 | some .box,_ =>
   rw [aai,aae _ _ (by intro e;cases e),aae _ _ (by intro e;cases e)];show [ahp G F iv _]=[(ahp G F iv V).set 10 fv];unfold ahp;rw [aai];simp only [aae _ _ (show (none:BPth)≠some .cnts by intro e;cases e),aae _ _ (show (some WPth.mem:BPth)≠some .cnts by intro e;cases e),aae _ _ (show (none:BPth)≠some (.cnt cs.length) by intro e;cases e),aae _ _ (show (some WPth.mem:BPth)≠some (.cnt cs.length) by intro e;cases e)];rfl
 | some .mem,_=>rw [aae _ _ (by intro e;cases e),aae _ _ (by intro e;cases e),aae _ _ (by intro e;cases e)];rfl
 | some .cnts,_ =>
   rw [aae _ _ (by intro e;cases e),aai,aA];show (List.range (cs++[l]).length).map _=_;rw [hlen,List.range_succ,Aat,Aat,List.map_map]
   congr 1
   . refine List.map_congr_left fun k hk=>?_
     have cY:=List.mem_range.1 hk;rw [aae _ _ (by intro e;cases e),aae _ _ (by intro e;cases e;omega)];rfl
   . show [[_]]=[[rv]]
     rw [aae _ _ (by intro e;cases e),aai]
 | some (.cnt k),hq =>
   rw [aae _ _ (by intro e;cases e),aae _ _ (by intro e;cases e)];show aay ((cs++[l]).getD k [])=_
   by_cases e:k=cs.length
   . subst e
     rw [aai,Aab,List.getElem?_append_right (Aad _),Nat.sub_self];rfl
   . have hk:k<cs.length+1:=hq
     rw [aae _ _ (by intro e2;cases e2;exact e rfl),Aab,Abh (by omega),<-Aab];rfl
theorem acH.start {W0 W:World}{base:Nat}(hb:base<=W0.heap.size)(hl:Below base W0 W)(G F iv:Value) :
 ∃V,acH G F iv W0 base W.heap.size (W.alloc (.cells #[G,F,.slice none 0 0,.slice none 0 0,iv,.int .i64 0,.int .i64 0,.slice none 0 0,.int .i64 0,.slice none 0 0,.slice none 0 0] 80)) V [] [] []∧V none = .slice none 0 0∧V (some .mem) = .slice none 0 0∧V (some .cnts) = .slice none 0 0:=by
 obtain⟨V0,ct⟩:∃V0:BPth->Value,V0=fun _ => .slice none 0 0:=⟨_,rfl⟩
 have hn:∀p,V0 p = .slice none 0 0:=fun p=>by rw [ct]
 have h0:aaZ bTy bSz W base (fun p=>okB 0 p∧p≠some .box) V0 (fun _=>[]) :=
  ⟨fun p _=>by rw [hn];exact World.ownsRow_nil W base _ _,fun p _ cs h=>(by cases h),fun p q _ _ _ k hk=>by rw [hn] at hk;cases hk⟩
 have af:base<=W.heap.size:=Aaj hb hl.size;have h1:=h0.box (some .box) (cs:=[G,F,.slice none 0 0,.slice none 0 0,iv,.int .i64 0,.int .i64 0,.slice none 0 0,.int .i64 0,.slice none 0 0,.slice none 0 0]) rfl af;refine⟨abx V0 (some .box) (.slice (some ⟨W.heap.size,0,none⟩) 1 1),⟨(h1.less fun p hp=>?_).congr (fun _ _=>rfl) fun q hq=>?_,aai _ _ _,hl.trans ((Below.refl W.heap.size W).alloc (Aad _) _ |>.mono af),hb⟩,by rw [aae _ _ (by intro e;cases e),hn],by rw [aae _ _ (by intro e;cases e),hn],by rw [aae _ _ (by intro e;cases e),hn]⟩
 . by_cases e:p=some .box
   . exact .inr e
   . exact .inl ⟨hp,e⟩
 . match q,hq with
   | none,_=>rw [aae _ _ (by intro e;cases e)];rfl
   | some .box,_ =>
     rw [aai];show [ahp G F iv _]=_;unfold ahp;rw [aae _ _ (by intro e;cases e),aae _ _ (by intro e;cases e),aae _ _ (by intro e;cases e),hn,hn,hn]
   | some .mem,_=>rw [aae _ _ (by intro e;cases e)];rfl
   | some .cnts,_=>rw [aae _ _ (by intro e;cases e)];rfl
theorem acH.wk(h:acH G F iv W0 base WB W V m ae cs){u:aax}{inp:List Int}{X:Nat->Prop}(hX:∀b,X b->b<W.heap.size∧∀p,okB cs.length p->p≠none->(V p).ownBlock≠some b)(hF:SlAt X W 4 abT F u.funcs)(hA:SlAt X W 1 ako (V none) (u.funcs.map fun f=>aheadF f.blocks))(hi:SlAt X W 1 abe iv inp) :
 ∃V',aaG u G F (V none) X W0 base WB W V' iv ⟨m,inp,[],0,0,0,[],cs⟩:=by
 obtain⟨V',ag⟩:∃V':WPth->Value,V'=fun p=>match p with | .out => .slice none 0 0 | .frs => .slice none 0 0 | .regs _ => .slice none 0 0 | p=>V (some p):=⟨_,rfl⟩
 have aS:V' .box = .slice (some ⟨WB,0,none⟩) 1 1:=by rw [ag];exact h.box
 refine⟨V',⟨⟨fun p hp=>?_,fun p hp=>?_,fun p q hp hq ak k hk=>?_⟩,aS,h.low,⟨hF,hA,hi⟩,fun b hb=>(hX b hb).1,fun p hp k hk cu=>?_,h.hb⟩⟩
 . cases p with
   | box=>have h1:=h.rows.own (some .box) trivial;rw [ag];exact h1
   | mem=>have h1:=h.rows.own (some .mem) trivial;rw [ag];exact h1
   | cnts=>have h1:=h.rows.own (some .cnts) trivial;rw [ag];exact h1
   | cnt k=>have h1:=h.rows.own (some (.cnt k)) hp;rw [ag];exact h1
   | out=>rw [ag];exact World.ownsRow_nil W base _ _
   | frs=>rw [ag];exact World.ownsRow_nil W base _ _
   | regs i=>exact absurd hp (Nat.not_lt_zero _)
 . cases p with
   | box=>have h1:=h.rows.wid (some .box) trivial;rw [ag];exact h1
   | mem=>exact h.rows.wid (some .mem) trivial
   | cnts=>have h1:=h.rows.wid (some .cnts) trivial;rw [ag];exact h1
   | cnt k=>exact h.rows.wid (some (.cnt k)) hp
   | out=>intro c hc;cases hc
   | frs=>intro c hc;cases hc
   | regs i=>exact absurd hp (Nat.not_lt_zero _)
 . have bZ:∀p k,okW 0 cs.length p->(V' p).ownBlock=some k->okB cs.length (some p)∧(V (some p)).ownBlock=some k:=fun p k hp hk=>by
    cases p with
    | box=>rw [ag] at hk;exact⟨trivial,hk⟩
    | mem=>rw [ag] at hk;exact⟨trivial,hk⟩
    | cnts=>rw [ag] at hk;exact⟨trivial,hk⟩
    | cnt j=>rw [ag] at hk;exact⟨hp,hk⟩
    | out=>rw [ag] at hk;cases hk
    | frs=>rw [ag] at hk;cases hk
    | regs i=>exact absurd hp (Nat.not_lt_zero _)
   intro e;obtain⟨a1,a2⟩:=bZ p k hp hk;obtain⟨b1,b2⟩:=bZ q k hq e;exact h.rows.apart _ _ a1 b1 (fun e=>ak (Option.some.inj e)) k a2 b2
 . have hx:=(hX k cu).2
   cases p with
   | box=>rw [ag] at hk;exact hx (some .box) trivial (by intro e;cases e) hk
   | mem=>rw [ag] at hk;exact hx (some .mem) trivial (by intro e;cases e) hk
   | cnts=>rw [ag] at hk;exact hx (some .cnts) trivial (by intro e;cases e) hk
   | cnt j=>rw [ag] at hk;exact hx (some (.cnt j)) hp (by intro e;cases e) hk
   | out=>rw [ag] at hk;cases hk
   | frs=>rw [ag] at hk;cases hk
   | regs i=>exact absurd hp (Nat.not_lt_zero _)
end
end
section
open Go.RowKit Go.Sort
variable {w:World}
theorem aku(ty : TypeId) (base : Nat) (v : Value) (l : List Int) (aq : aav base w v l) {S : Nat -> Prop} (sa : Option Addr) (m c : Nat) (L : List Int) (bd : SlAt S w 1 abe (.slice sa m c) L) (hm : L.length = m)
 (hn:l.length+m<=1048576) (af:base<=w.heap.size) :
 ∃v' w',(Builtin.append_ #[26,26] ty #[v,.slice sa m c]).run Tryd.prog w = .ok v' w'∧aav base w' v' (l++L)∧w.grownBy w' v.ownBlock∧∀k,v'.ownBlock=some k->v.ownBlock=some k∨w.heap.size<=k:=by
 subst hm;obtain⟨ii,aU,bJ,bK,bL⟩:=info_parts afH;have bC:∀x∈L,I64 x:=fun x hx=>by
  obtain⟨i,hi,rfl⟩:=Aav hx;obtain⟨-,-,cV,-,-,⟨-,h1,h2⟩,-⟩:=bd.get hi;exact⟨h1,h2⟩
 have aw:∀x∈l++L,I64 x:=fun x hx=>(Aaw.1 hx).elim (aq.2 x) (bC x);cases sa with
 | none =>
   have hl:=bd.none;subst hl;rw [List.append_nil] at aw ⊢;refine⟨v,w,?_,aq,⟨rfl,rfl,rfl,Aad _,fun _ _ _=>rfl⟩,fun k hk => .inl hk⟩;rcases aq.1.2 with⟨rfl,-⟩ | ⟨g,cap,cur,rfl,-,-,hnc,-⟩
   . simp [Builtin.append_,run_underlying Tryd.underlying26,sizeOf,typeInfo,aU,Builtin.lenOf,Builtin.firstCells]
   . simp [Builtin.append_,run_underlying Tryd.underlying26,sizeOf,typeInfo,aU,Builtin.lenOf,Builtin.firstCells,hnc,storeCells]
 | some ad =>
   have cx:∀(j:Nat) u,(L.map fun x=>Value.int .i64 x)[j]?=some u->w.cell? (ad.add j)=some u:=by
    cases hL:L with
    | nil=>intro j u hj;simp at hj
    | cons y L' =>
      obtain⟨b,off,cv,-⟩:=abq bd (t:=0) (by rw [hL];simp);cases cv;rw [<-hL];exact aly bd
   obtain⟨v',w',hr,h2,h3,-,h5⟩:=run_append_own_at (P:=Tryd.prog) w base 26 ty 3 ii (.int .i64 0) 1 8 Tryd.underlying26 aU bJ bK bL rfl (by decide) v l.length _ aq.1 ad L.length c (L.map fun x => .int .i64 x) (by simp) cx (fun u hu=>by obtain⟨x,-,rfl⟩:=List.mem_map.1 hu;rfl) (by unfold maxLen;omega) (by omega) af;refine⟨v',w',hr,⟨by rw [Aak,Aat];exact h2,aw⟩,h3,fun k hk=>?_⟩;rcases h5 with e | e
   . rw [e] at hk;exact .inl hk
   . rw [e] at hk;cases hk;exact .inr (Aad _)
theorem ams(ty:TypeId)(base:Nat)(v:Value)(l:List Int)(aq:aav base w v l)(m:Nat)(hn:l.length+m<=1048576)(af:base<=w.heap.size) :
 ∃v' w',(Builtin.append_ #[26,3] ty #[v,.int .i64 (m:Int)]).run Tryd.prog w = .ok v' w'∧aav base w' v' (l++List.replicate m 0)∧w.grownBy w' v.ownBlock∧∀k,v'.ownBlock=some k->v.ownBlock=some k∨w.heap.size<=k:=by
 obtain⟨ii,aU,bJ,bK,bL⟩:=info_parts afH;obtain⟨v',w',hr,h2,h3,-,h5⟩:=aef (P:=Tryd.prog) w base 26 3 ty 3 ii (.int .i64 0) 8 Tryd.underlying26 Tryd.underlying3 aU bJ bK bL rfl rfl v l.length _ aq.1 m (by unfold maxLen;omega) (by omega) af;refine⟨v',w',hr,⟨?_,fun x hx=>(Aaw.1 hx).elim (aq.2 x) (fun h=>by rw [Abd h];exact⟨by decide,by decide⟩)⟩,h3,fun k hk=>?_⟩
 . rw [Aak,Aat,Aar,List.map_replicate];exact h2
 . rcases h5 k hk with e | e
   . exact .inl e
   . exact .inr (by omega)
theorem ah7 {fs:List aal}(h:¬aaF fs<0):mainAt fs<fs.length∧aaF fs=(mainAt fs:Int):=by
 have e:mainAt fs=fs.findIdx ady:=rfl;rw [e];unfold aaF at h ⊢;cases hq:fs.findIdx? ady with
 | none=>rw [hq] at h;dsimp only at h;omega
 | some k =>
   obtain⟨h1,h2⟩:=List.findIdx?_eq_some_iff_findIdx_eq.1 hq;dsimp only;rw [h2];exact⟨h1,rfl⟩
theorem aet {u:aax}(h:aak u=(0,0)):∃g,u.funcs[mainAt u.funcs]?=some g∧g.params=0∧aaF u.funcs=(mainAt u.funcs:Int):=by
 have hl:agx u.funcs=(0,0):=by
  unfold aak at h
  by_cases h1:10<u.globals.length∨10<u.funcs.length
  . rw [if_pos h1] at h;simp at h
  rw [if_neg h1] at h
  by_cases h2:acd (acp u.globals) u.globals.length<u.globals.length
  . rw [if_pos h2] at h;exact absurd (Prod.mk.inj h).1 (abP h2)
  rw [if_neg h2] at h
  by_cases h3:acd (abp u.globals u.funcs) u.funcs.length<u.funcs.length
  . rw [if_pos h3] at h;exact absurd (Prod.mk.inj h).1 (abP h3)
  rw [if_neg h3] at h
  by_cases h4:acd (aa7 u.funcs) u.funcs.length<u.funcs.length
  . rw [if_pos h4] at h;exact absurd (Prod.mk.inj h).1 (abP h4)
  rw [if_neg h4] at h;exact h
 unfold agx at hl
 by_cases h1:aaF u.funcs<0
 . rw [if_pos h1] at hl;simp at hl
 rw [if_neg h1] at hl;obtain⟨h2,h3⟩:=ah7 h1;have hg:u.funcs[mainAt u.funcs]?=some u.funcs[mainAt u.funcs]:=Aaa h2;refine⟨_,hg,?_,h3⟩;rw [h3,Aag,Aab,hg] at hl;have hp:=(afF h hg).pr
 by_cases h4:0<(u.funcs[mainAt u.funcs]).params
 . rw [if_pos (by exact h4)] at hl;simp at hl
 . omega
theorem aev(s:ByteArray)(p r:Int)(ba:Option Addr)(n c:Nat)(w:World) :
 Calls Tryd.prog 25 #[.agg #[.string s,.int .i64 p,.int .i64 r,.slice ba n c]] w fun e w'=>e = .returned (.bool (s.toList == [109,97,105,110]))∧Below w.heap.size w w':=by
 go_enter Tryd.func25,Tryd.ntmps25;go_wp2;go_ret;exact⟨rfl,bE⟩
theorem ah1 {S:Nat->Prop}(fa:Option Addr)(fc:Nat)(fs:List aal)(w:World)(h:SlAt S w 4 abT (.slice fa fs.length fc) fs)(hm:fs.length<=1048576) :
 Calls Tryd.prog 24 #[.slice fa fs.length fc,.func (.func 25) #[] #[]] w fun e w'=>e = .returned (.int .i64 (aaF fs))∧Below w.heap.size w w':=by
 have Hh:=hid h;clear h;go_enter Tryd.func24,Tryd.ntmps24;go_wp2_with fail;go_loopw [8] (fun i wr=>∃k:Nat,k<=fs.length∧i = .int .i64 k∧(∀j,j<k->∀x,fs[j]?=some x->ady x=false)∧Below w.heap.size w wr) (fun i _=>fs.length - (intOf i).toNat)
 case atStart=>exact⟨0,Aaf _,rfl,fun j hj=>by omega,Below.refl _ _⟩
 case round =>
  obtain⟨k,hk,rfl,aw,hb⟩:=hrel;have H:=hid aw;have Hb:=hid hb;clear aw
  by_cases aN:k<fs.length
  . obtain⟨b,off,cs,rfl,-,hx,-,aL⟩:=Hh.out.get aN
    obtain⟨ba,bc,rfl,-,-,-,-⟩:=hx.opens;obtain⟨c0,c1,c2,c3⟩:=(aL.later hb).get4;clear aL hx hb
    by_cases he:ady fs[k]=true
    . have hi:aaF fs=k:=by unfold aaF;rw [adv (Aaa aN) he H.out]
      have cy:(fs[k].name.toList == [109,97,105,110])=true:=he;have Hi:=hid hi;clear hi he;go_wp2_with (go_at_call 25;((with_reducible refine (aev _ _ _ _ _ _ _).mono ?_);rintro e w2 ⟨rfl,aJ⟩));go_ret;exact⟨aaq Hi.out.symm,by have h:=Hb.out;exact bE2 aJ h⟩
    . have bA:ady fs[k]=false:=by simpa using he
      have cy:(fs[k].name.toList == [109,97,105,110])=false:=bA;have He:=hid bA;clear bA he;go_wp2_with (go_at_call 25;((with_reducible refine (aev _ _ _ _ _ _ _).mono ?_);rintro e w2 ⟨rfl,aJ⟩));go_roundw
      case rel=>exact⟨k+1,by omega,by go_num,aa6 H.out (fun x hx=>by rw [Aaa aN] at hx;cases hx;exact He.out),by have h:=Hb.out;exact bE2 aJ h⟩
      case measure=>simp [intOf];omega
  . have hi:aaF fs = -1:=by
     unfold aaF;rw [adu (fun j x hx=>H.out j (by have:=(Aae.1 hx).1;omega) x hx)]
    have Hi:=hid hi;clear hi hb;go_wp2_with fail;go_ret;exact⟨aaq Hi.out.symm,Hb.out⟩
def abV(u:aax)(n:Nat)(fuel:Int):Int×Int :=
 if aak u≠(0,0) then aak u else if 30<n then (2,-1) else if ¬(0<=fuel∧fuel<=100000) then (3,-1) else (0,0)
theorem aeM {fn : Func} (cD : fn.results = #[.tmp 6, .cell 7 35, .cell 8 28]) {tmps : Array Value} {b7 b8 : Nat} {v : Value} (hv : tmps.getD 6 undef = v) (h7 : tmps.getD 7 undef = .pointer (some ⟨b7, 0, none⟩)) (h8 : tmps.getD 8 undef = .pointer (some ⟨b8, 0, none⟩))
 {st vl cb c a:Int} {ov:Value} {W:World} (h0:W.cell? ⟨b7,0,none⟩=some (.int .i64 st)) (h1:W.cell? ⟨b7,1,none⟩=some (.int .i64 vl)) (h2:W.cell? ⟨b7,2,none⟩=some ov) (h3:W.cell? ⟨b7,3,none⟩=some (.int .i64 cb))
 (hc:W.cell? ⟨b8,0,none⟩=some (.int .i64 c)) (ha:W.cell? ⟨b8,1,none⟩=some (.int .i64 a)):(results fn tmps).run Tryd.prog W = .ok (.tuple #[v,.agg #[.int .i64 st,.int .i64 vl,ov,.int .i64 cb],.agg #[.int .i64 c,.int .i64 a]]) W:=by
 simp only [Abl] at h7 h8 hv;simp [results,cD,h7,h8,hv,go_sem,h0,h1,h2,h3,hc,ha]
def ae7(u:aax)(inp:List Int)(fuel:Int)(w:World)(e:Ending)(w':World):Prop :=
 Below w.heap.size w w' ∧ ((abV u inp.length fuel = (0, 0) ∧ ∃ ca cc oa oc, e = .returned (.tuple #[.slice ca u.funcs.length cc, .agg #[.int .i64 (runR u inp fuel.toNat).state, .int .i64 (runR u inp fuel.toNat).value, .slice oa (runR u inp fuel.toNat).out.length oc, .int .i64 ((runR u inp fuel.toNat).steps : Int)], .agg #[.int .i64 0, .int .i64 0]]) ∧
  SlAt (fun b => w.heap.size <= b) w' 1 rRow (.slice ca u.funcs.length cc) (runR u inp fuel.toNat).cnt ∧ SlAt (fun b => w.heap.size <= b) w' 1 abe (.slice oa (runR u inp fuel.toNat).out.length oc) (runR u inp fuel.toNat).out) ∨
  (∃ c a, (c ≠ 0 ∨ a ≠ 0) ∧ abV u inp.length fuel = (c, a) ∧ e = .returned (.tuple #[.slice none 0 0, .agg #[.int .i64 0, .int .i64 0, .slice none 0 0, .int .i64 0], .agg #[.int .i64 c, .int .i64 a]])))
theorem aeQ{OB FB:Nat}{o0 o1 o2 o3 p0 p1:Value}(hO:aaj w OB 0 [o0,o1,o2,o3])(hR:aaj w FB 0 [p0,p1])(ak:OB≠FB)(u0 u1 u2 u3 v0 v1:Value) :
 aaj ((((((w.setCell ⟨OB,0,none⟩ u0).setCell ⟨OB,1,none⟩ u1).setCell ⟨OB,2,none⟩ u2).setCell ⟨OB,3,none⟩ u3).setCell ⟨FB,0,none⟩ v0).setCell ⟨FB,1,none⟩ v1) OB 0 [u0,u1,u2,u3] ∧
 aaj ((((((w.setCell ⟨OB,0,none⟩ u0).setCell ⟨OB,1,none⟩ u1).setCell ⟨OB,2,none⟩ u2).setCell ⟨OB,3,none⟩ u3).setCell ⟨FB,0,none⟩ v0).setCell ⟨FB,1,none⟩ v1) FB 0 [v0,v1]:=by
 refine⟨fun j v hj=>?_,amO (o0:=p0) (o1:=p1) fun j v hj=>?_⟩
 . rw [aas _ ak,aas _ ak];exact amQ hO j v hj
 . rw [aas _ (Ne.symm ak),aas _ (Ne.symm ak),aas _ (Ne.symm ak),aas _ (Ne.symm ak)];exact hR j v hj
theorem abi{base OB FB:Nat}(h1:base<=OB)(h2:base<=FB)(u0 u1 u2 u3 v0 v1:Value) :
 Below base w ((((((w.setCell ⟨OB,0,none⟩ u0).setCell ⟨OB,1,none⟩ u1).setCell ⟨OB,2,none⟩ u2).setCell ⟨OB,3,none⟩ u3).setCell ⟨FB,0,none⟩ v0).setCell ⟨FB,1,none⟩ v1) :=
 ((((((Below.refl _ _).setCell h1 _).setCell h1 _).setCell h1 _).setCell h1 _).setCell h2 _).setCell h2 _
theorem ak6:(Tryd.prog.info? 31).map (fun i=>(i.zero,i.size,i.bytes))=some (some (.slice none 0 0),1,24):=by kernel_rfl
theorem ak5:(Tryd.prog.info? 26).map (fun i=>(i.zero,i.size,i.bytes))=some (some (.slice none 0 0),1,24):=by kernel_rfl
section
variable {G F iv : Value} {W0 : World} {base WB : Nat} {W W' : World} {V : BPth -> Value} {m : List Int} {ae : List Value} {cs : List (List Int)}
def ajV(W:World)(K:Nat)(V:BPth->Value)(X:Nat->Prop):Prop:=∀b,X b->b<W.heap.size∧∀p,okB K p->(V p).ownBlock≠some b
theorem acH.staysRow(_h:acH G F iv W0 base WB W V m ae cs){X:Nat->Prop}(hX:ajV W cs.length V X){p:BPth}(hp:okB cs.length p)(hg:W.grownBy W' (V p).ownBlock):aaD X W W':=fun b o v hb hc=>by
 rw [World.cell?_of_block (w:=W) (hg.block b (hX b hb).1 fun e=>(hX b hb).2 p hp e.symm)];exact hc
theorem acH.staysBox(h:acH G F iv W0 base WB W V m ae cs){X:Nat->Prop}(hX:ajV W cs.length V X){j:Nat}(v:Value){br:World}(hs:aaD X W br):aaD X W (br.setCell ⟨WB,j,none⟩ v):=fun b o x hb hc=>by
 rw [World.cell?_of_block (w:=br) (Below.heap_setCell _ _ _ _ (fun e=>(hX b hb).2 (some .box) trivial (by rw [h.box];show some WB=some b;rw [show b=WB from e])))];exact hs b o x hb hc
theorem acH.slAhd(h:acH G F iv W0 base WB W V m ae cs){X:Nat->Prop}{L:List (List (List Int))}(hl:ae.length=L.length)(hA:∀(j:Nat) v x,ae[j]?=some v->L[j]?=some x->SlAt X W 1 rRow v x) :
 SlAt (fun b=>X b∨(V none).ownBlock=some b) W 1 ako (V none) L:=by
 have ho:W.ownsRow base 31 1 (V none) (ae.map fun v=>[v]).length (ae.map fun v=>[v]).flatten:=h.rows.own none trivial;rw [ach,Aal] at ho;have hc:=fun g hg=>ho.cells (g:=g) hg;rcases id ho.2 with⟨e,e2⟩ | ⟨g,cap,cur,e,hg,hgg,hn,hm,-⟩
 . have hL:L=[]:=Abk.1 (by rw [<-hl];exact e2)
   subst hL;exact⟨none,0,e,Aad _,by decide,fun h=>absurd rfl h⟩
 . unfold maxLen at hm
   rw [hl] at e hn;refine⟨_,cap,e,hn,by omega,fun ak=>⟨g,0,rfl,.inr (by rw [e];rfl),fun i x hx=>?_⟩⟩;obtain⟨hi,rfl⟩:=Aae.1 hx;have bY:i<ae.length:=by omega
   refine⟨[ae[i]],⟨ae[i],rfl,(hA i ae[i] L[i] (Aaa bY) hx).mono aau (fun b hb => .inl hb) (aaD.refl _ _)⟩,rfl,fun j u hj=>?_⟩
   match j,hj with
   | 0,hj =>
     cases hj;have ai:=hc g (by rw [e];rfl) i ae[i] (Aaa bY);rw [show (⟨g,0,none⟩:Addr).add i=⟨g,i,none⟩ by unfold Addr.add;split <;> simp_all] at ai;rw [Aac,Aam,Aas];exact ai
   | j+1,hj=>simp at hj
end
theorem ag6(gs:List aat):akg gs=acF gs:=by
 unfold akg acF abn;rw [Aa0]
 congr 1
 funext g
 unfold afv;rw [show g.size.toNat - g.init.length=(g.size - (g.init.length:Int)).toNat by omega]
def ahk(WB:Nat)(W:World):Nat:=match W.cell? ⟨WB,8,none⟩ with | some (.int _ n)=>n.toNat | _=>0
section
variable {u : aax} {G F A : Value} {S : Nat -> Prop} {W0 : World} {base WB : Nat} {W : World} {V : WPth -> Value} {iv : Value} {s : RnS}
theorem aaG.intsSl(h:aaG u G F A S W0 base WB W V iv s){p:WPth}(hp:okW s.frs.length s.cnt.length p)(ht:p.ty=3)(hs:p.sz=1){l:List Int}(hl:walkC G F A iv V s p=aay l)(bu:∀v∈l,I64 v) :
 ∃a c,V p = .slice a l.length c∧SlAt (fun b=>base<=b) W 1 abe (.slice a l.length c) l:=by
 have ho:=h.rows.own p hp;rw [hl,ht,hs,aa5,aa0] at ho;have hO:aav base W (V p) l:=⟨ho,bu⟩
 obtain⟨a,c,e⟩:=hO.shape;have h2:=hO.sl;rw [e] at h2;exact⟨a,c,e,h2.mono aaf (fun b hb=>hb.1) (aaD.refl _ _)⟩
theorem aaG.cntSl(h:aaG u G F A S W0 base WB W V iv s)(bu:∀r∈s.cnt,∀v∈r,I64 v):∃a c,V .cnts = .slice a s.cnt.length c∧SlAt (fun b=>base<=b) W 1 rRow (.slice a s.cnt.length c) s.cnt:=by
 have ho:W.ownsRow base 26 1 (V .cnts) ((List.range s.cnt.length).map fun k=>[V (.cnt k)]).length ((List.range s.cnt.length).map fun k=>[V (.cnt k)]).flatten:=h.rows.own .cnts trivial;have e0:(List.range s.cnt.length).map (fun k=>[V (.cnt k)])=((List.range s.cnt.length).map fun k=>V (.cnt k)).map fun v=>[v]:=by rw [List.map_map];rfl
 rw [e0,ach,Aal,Aal,List.length_range] at ho;have hc:=fun g hg=>ho.cells (g:=g) hg;rcases id ho.2 with⟨e,e2⟩ | ⟨g,cap,cur,e,hg,hgg,hn,hm,-⟩
 . have hL:s.cnt=[]:=Abk.1 e2
   rw [hL];exact⟨none,0,e,⟨none,0,rfl,Aad _,by decide,fun h=>absurd rfl h⟩⟩
 . unfold maxLen at hm
   refine⟨_,cap,e,⟨_,cap,rfl,hn,by omega,fun ak=>⟨g,0,rfl,hg,fun i x hx=>?_⟩⟩⟩;obtain⟨hi,rfl⟩:=Aae.1 hx;obtain⟨a,c,e3,h3⟩:=h.intsSl (p := .cnt i) hi rfl rfl (l:=s.cnt[i]) (by show aay (s.cnt.getD i [])=_;rw [Aab,hx];rfl) (bu _ (Aai hi));refine⟨[V (.cnt i)],⟨V (.cnt i),rfl,by rw [e3];exact h3⟩,rfl,fun j u hj=>?_⟩
   match j,hj with
   | 0,hj =>
     cases hj;have ai:=hc g (by rw [e];rfl) i (V (.cnt i)) (by rw [Aap,Abg hi];rfl);rw [show (⟨g,0,none⟩:Addr).add i=⟨g,i,none⟩ by unfold Addr.add;split <;> simp_all] at ai;rw [Aac,Aam,Aas];exact ai
   | j+1,hj=>simp at hj
theorem RnW.stop {u:aax}{s:RnS}(h:RnW u s)(x:Int):RnW u (s.stop x):=⟨h.frs,h.link,h.deep,h.mem,h.inp,h.out,h.value,h.cnt⟩
theorem RnW.cnt64 {u:aax}{s:RnS}(h:RnW u s)(hs:s.steps<=100001):∀r∈s.cnt,∀v∈r,I64 v:=fun r hr v hv=>by
 obtain⟨k,hk,rfl⟩:=Aav hr;have cH:k<u.funcs.length:=by rw [<-h.cnt.1];exact hk
 obtain⟨r',h1,-,h3⟩:=h.cnt.2 k _ (Aaa cH);rw [Aaa hk] at h1;cases h1;have:=h3 v hv;unfold I64;omega
theorem aaG.stepsAt(h:aaG u G F A S W0 base WB W V iv s):ahk WB W=s.steps:=by
 have c8:=h.boxAt.2.2.1 8 _ rfl;rw [Aac] at c8;unfold ahk;rw [c8];exact Aag _
end
theorem SlAt.all {α:Type}{r:Rp α}{S:Nat->Prop}{w:World}{sz:Nat}{v:Value}{l:List α}(h:SlAt S w sz r v l):∀x∈l,∃cs,r S w cs x:=fun x hx=>by
 obtain⟨ao,c,-,-,-,h⟩:=h;obtain⟨b,off,-,-,h⟩:=h (fun e=>by rw [e] at hx;cases hx);obtain⟨i,hi,rfl⟩:=Aav hx;obtain⟨cs,h1,-⟩:=h i _ (Aaa hi);exact⟨cs,h1⟩
theorem aiz {S:Nat->Prop}{w:World}{gv fv:Value}{gs:List aat}{fs:List aal}(hg:SlAt S w 3 abd gv gs)(hf:SlAt S w 4 abT fv fs):aiw ⟨gs,fs⟩:=by
 refine⟨fun f cz x hx=>?_,fun g cF v hv=>?_⟩
 . obtain⟨-,v1,-,h1,-⟩:=hf.all f cz
   obtain⟨-,p,l,e,-,h2,h3,v4,-,-,-,h4⟩:=h1.all x hx;refine⟨fun q hq v hv=>?_,fun y hy=>?_,h4⟩
   . obtain⟨-,v2,-,h5,-⟩:=h2.all q hq
     obtain⟨-,-,h6⟩:=h5.all v hv;exact h6
   . obtain⟨-,v2,-,h5,-,-,h6,h7,-⟩:=h3.all y hy
     refine⟨h6,h7,fun v hv=>?_⟩;obtain⟨-,-,h8⟩:=h5.all v hv;exact h8
 . obtain⟨-,v1,-,h1,-⟩:=hg.all g cF
   obtain⟨-,-,h2⟩:=h1.all v hv;exact h2
end
end Go.Proofs.YtgekbfgplclmeaaDoor
