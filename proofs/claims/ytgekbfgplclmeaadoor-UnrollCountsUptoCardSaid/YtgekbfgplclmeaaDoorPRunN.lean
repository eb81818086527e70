import Derived.Test.YtgekbfgplclmeaaDoorPRunE
import Derived.Test.YtgekbfgplclmeaaDoorPUnrQ
import Derived.StillTailTactics
/- The walker jumps to a block. The walker comes to a block's end. -/
set_option maxHeartbeats 4000000
set_option maxRecDepth 100000
namespace Go.Proofs.YtgekbfgplclmeaaDoor
section
open Go.RowKit Go.Sort
theorem ags {s : Int} : ∀ {l : List Int}, s ∈ l -> abj l s = (l.idxOf s : Int)
 | x :: l,h=>by
   by_cases e:x=s
   . subst e;unfold abj;simp [List.findIdx?_cons]
   . have hm:s∈l:=by
      rcases Aax.1 h with h | h
      . exact absurd h.symm e
      . exact h
     have ih:=ags hm;have e':¬s=x:=fun h=>e h.symm;have e2:(x == s)=false:=by simpa using e
     unfold abj at ih ⊢;rw [List.findIdx?_cons,if_neg (by simpa using e'),List.idxOf_cons,e2];cases hq:l.findIdx? (fun x=>decide (s=x)) with
     | none=>rw [hq] at ih;dsimp only at ih;omega
     | some k =>
       rw [hq] at ih;dsimp only [Option.map_some,cond_false] at ih ⊢;omega
theorem agC (p : adO) (n : Int) : ∀ (ps : List adO) (ns r : List Int), ps.length = ns.length -> afT (ps ++ [p]) (ns ++ [n]) r = (afT ps ns r).set p.dst.toNat n
 | [],[],_,_=>rfl
 | a :: ps,b :: ns,r,h=>by
   show afT (ps++[p]) (ns++[n]) (r.set a.dst.toNat b)=(afT ps ns (r.set a.dst.toNat b)).set _ _;exact agC p n ps ns _ (by simpa using h)
 | [],_ :: _,_,h=>by simp at h
 | _ :: _,[],_,h=>by simp at h
theorem akW {c:List (List Int)}{k b:Nat}{l:List Int}{v:Int}(hk:c[k]?=some l)(hv:l[b]?=some v):c.set k (l.set b (v+1))=ab7 c k b:=by
 have bO:=(Aae.1 hk).1;have cN:=(Aae.1 hv).1;have e1:l.set b (v+1)=l.modify b (·+1):=by
  refine List.ext_getElem? fun i=>?_;rw [Abe,Abj]
  by_cases e:b=i
  . subst e;rw [if_pos rfl,if_pos cN,hv];simp
  . cases l[i]? <;> simp [e]
 unfold ab7;rw [e1];refine List.ext_getElem? fun i=>?_;rw [Abe,Abj]
 by_cases e:k=i
 . subst e;rw [if_pos rfl,if_pos bO,hk];simp
 . cases c[i]? <;> simp [e]
section
variable {u : aax} {G F A : Value} {S : Nat -> Prop} {W0 : World} {base WB : Nat} {W : World} {V : WPth -> Value} {iv : Value} {s : RnS}
theorem ajN (h : aaG u G F A S W0 base WB W V iv s) {t : RnF} {r : List RnF} {f : aal} {x z : aad} (a8 : s.frs = t :: r) (ht : FrW u t f x) (cj : agQ f) {ad : Nat} (aW : (ad : Int) ∈ x.fin.to) (hz : f.blocks[ad]? = some z) (hn : r.length + 1 <= 30)
 {fa:Option Addr} {fl fc:Nat} (hF:F = .slice fa fl fc) {aa:Option Addr} {al ac:Nat} (hA:A = .slice aa al ac) {cl:List Int} (hc:s.cnt[t.fn]?=some cl) (ch:cl.length=f.blocks.length∧∀v∈cl,0<=v∧v<=1000000) :
 Calls Tryd.prog 68 #[.pointer (some ⟨WB,0,none⟩),.int .i64 (ad:Int)] W fun e w'=>e = .returned (.tuple #[])∧aaG u G F A S W0 base WB w' V iv (s.jump u ad):=by
 subst hF hA;obtain⟨g,ei,hv,-,-,-,-,-⟩:=h.topAt a8;have aj:=(Aae.1 ht.fn).1;have c8:=(Aae.1 ht.fn).2;have bW:=(Aae.1 hz).1;have dU:=(Aae.1 hz).2;have cN:=(Aae.1 ht.blk).1;have hlen:fl=u.funcs.length:=by
  obtain⟨ao,c,e,-⟩:=h.rd.fs;cases e;rfl
 have bF:al=u.funcs.length:=by
  obtain⟨ao,c,e,-⟩:=h.rd.ah;cases e;rw [Aal]
 subst hlen bF;obtain⟨P,hP⟩:∃P,P=aag f.blocks 0 ad:=⟨_,rfl⟩
 have bd:((t.blk:Nat):Int)∈P:=by rw [hP];exact acS.2 ⟨t.blk,x,ht.blk,aW,by simp⟩
 have bN:abj P ((t.blk:Nat):Int)=((whence f.blocks ad t.blk:Nat):Int):=by rw [ags bd,hP];rfl
 have dK:whence f.blocks ad t.blk<P.length:=by
  show (aag f.blocks 0 ad).idxOf _<_;rw [<-hP];exact List.idxOf_lt_length_of_mem bd
 have dw:P.length<=1048576:=by
  have h1:=acw ad f.blocks 0 (fun y hy=>by obtain⟨i,hi,rfl⟩:=Aav hy;exact (cj.tgt i _ (Aaa hi)).1);have:=cj.len;rw [<-hP] at h1;omega
 -- what is read
 obtain⟨ab,af,cs,rfl,-,⟨v1,rfl,cv⟩,-,bJ⟩:=h.rd.ah.get (k:=t.fn) (by rw [Aal];exact aj);rw [List.getElem_map,c8] at cv;have aK:(aheadF f.blocks).length=f.blocks.length:=by unfold aheadF;rw [Aal,List.length_range]
 obtain⟨ba,bc,rfl,-⟩:=cv.val;obtain⟨bb,aJ,eh,rfl,-,⟨v2,rfl,cw⟩,-,aB⟩:=cv.get (k:=ad) (by rw [aK];exact bW);have dv:(aheadF f.blocks)[ad]'(by rw [aK];exact bW)=P:=by
  unfold aheadF;rw [List.getElem_map,List.getElem_range,hP]
 rw [dv] at cw;obtain⟨pa,pc,rfl,-⟩:=cw.val;obtain⟨fb,ag,xa,xc,rfl,a6,df,-,-⟩:=acM h.rd.fs aj;rw [c8] at a6 df;obtain⟨xb,aP,bY,bq,la,lc,ta,tc,rfl,a7,c3,-,-,-,-⟩:=adr df bW;rw [dU] at a7 c3;have a1:=bJ 0 _ rfl;have a2:=aB 0 _ rfl;rw [Aas,Aam] at a1 a2;rw [aK] at a1;obtain⟨-,-,-,f3⟩:=a6.get4;obtain⟨x0,-⟩:=a7.get6;obtain⟨-,zb,aG,-⟩:=h.boxAt;have c1:=aG 1 _ rfl;have c2:=aG 2 _ rfl;rw [Aac] at c1 c2;obtain⟨g',aA,aD,-,-,-,ae,-⟩:=h.topAt a8;rw [hv] at aD;cases aD;have t0:=ae 0 _ rfl;have t1:=ae 1 _ rfl;rw [Aas] at t0
 have HX : Hid (∀ V1, Below W.heap.size W V1 -> V1.cell? ⟨WB, 1, none⟩ = some (.slice (some ⟨fb, ag, none⟩) u.funcs.length fc) ∧ V1.cell? ⟨WB, 2, none⟩ = some (.slice (some ⟨ab, af, none⟩) u.funcs.length ac) ∧ V1.cell? ⟨g, r.length * 5, none⟩ = some (.int .i64 (t.fn : Int)) ∧ V1.cell? ⟨g, r.length * 5 + 1, none⟩ = some (.int .i64 (t.blk : Int)) ∧
  V1.cell? ⟨ab, af + t.fn, none⟩ = some (.slice (some ⟨bb, aJ, none⟩) f.blocks.length bc) ∧ V1.cell? ⟨bb, aJ + ad, none⟩ = some (.slice pa P.length pc) ∧ V1.cell? ⟨fb, ag + t.fn * 4 + 3, none⟩ = some (.slice (some ⟨xb, aP, none⟩) f.blocks.length xc) ∧ V1.cell? ⟨xb, aP + ad * 6, none⟩ = some (.slice bY z.phis.length bq) ∧
  SlAt S V1 1 abe (.slice pa P.length pc) P ∧ SlAt S V1 2 aie (.slice bY z.phis.length bq) z.phis ∧ aaG u G (.slice (some ⟨fb, ag, none⟩) u.funcs.length fc) (.slice (some ⟨ab, af, none⟩) u.funcs.length ac) S W0 base WB V1 V iv s) := fun V1 hb =>
  ⟨aab c1 hb,aab c2 hb,aab t0 hb,aab t1 hb,aab a1 hb,aab a2 hb,aab f3 hb,aab x0 hb,cw.later aaf hb,c3.later abC hb,h.later hb⟩
 have HT:=hid (aeT h hv hn);obtain⟨n,au⟩:∃n,n=r.length:=⟨_,rfl⟩
 obtain⟨L,b7⟩:∃L,L=u.funcs.length:=⟨_,rfl⟩
 obtain⟨bn,cf⟩:∃m,m=f.blocks.length:=⟨_,rfl⟩
 obtain⟨pn,bQ⟩:∃m,m=P.length:=⟨_,rfl⟩
 obtain⟨np,cZ⟩:∃m,m=z.phis.length:=⟨_,rfl⟩
 obtain⟨fn,aM⟩:∃m,m=t.fn:=⟨_,rfl⟩
 obtain⟨tb,ct⟩:∃m,m=t.blk:=⟨_,rfl⟩
 obtain⟨k0,cm⟩:∃m,m=whence f.blocks ad t.blk:=⟨_,rfl⟩
 have bw : Hid (∀ V1, Below W.heap.size W V1 -> V1.cell? ⟨WB, 1, none⟩ = some (.slice (some ⟨fb, ag, none⟩) L fc) ∧ V1.cell? ⟨WB, 2, none⟩ = some (.slice (some ⟨ab, af, none⟩) L ac) ∧ V1.cell? ⟨g, n * 5, none⟩ = some (.int .i64 (fn : Int)) ∧ V1.cell? ⟨g, n * 5 + 1, none⟩ = some (.int .i64 (tb : Int)) ∧
  V1.cell? ⟨ab, af + fn, none⟩ = some (.slice (some ⟨bb, aJ, none⟩) bn bc) ∧ V1.cell? ⟨bb, aJ + ad, none⟩ = some (.slice pa pn pc) ∧ V1.cell? ⟨fb, ag + fn * 4 + 3, none⟩ = some (.slice (some ⟨xb, aP, none⟩) bn xc) ∧ V1.cell? ⟨xb, aP + ad * 6, none⟩ = some (.slice bY np bq) ∧
  SlAt S V1 1 abe (.slice pa pn pc) P ∧ SlAt S V1 2 aie (.slice bY np bq) z.phis ∧ aaG u G (.slice (some ⟨fb, ag, none⟩) u.funcs.length fc) (.slice (some ⟨ab, af, none⟩) u.funcs.length ac) S W0 base WB V1 V iv s) := by rw [au, b7, cf, bQ, cZ, aM, ct]; exact HX.out
 rw [<-au] at HT;have HI:Hid (abj P (tb:Int)=(k0:Int)):=by rw [ct,cm];exact bN
 have cy:Hid (P.length=pn∧pn<=1048576):=⟨bQ.symm,by rw [bQ];exact dw⟩
 have eo:(fn:Int)<(L:Int):=by rw [aM,b7];omega
 have ey:(ad:Int)<(bn:Int):=by rw [cf];omega
 have eV:(0:Int)<=(ad:Int):=by omega
 have HK:Hid (fn=t.fn∧tb=t.blk∧k0=whence f.blocks ad t.blk∧np=z.phis.length∧n=r.length∧k0<pn∧L=u.funcs.length∧bn=f.blocks.length∧P=aag f.blocks 0 ad):=⟨aM,ct,cm,cZ,au,by rw [cm,bQ];exact dK,b7,cf,hP⟩
 have aF:=hid a8;have Ht:=hid ht;have bx:=hid cj;have Hz:=hid hz;have Hn:=hid hn;have Hc:=hid hc;have ds:=hid ch;have Hv:=hid hv;have HL:Hid (t.fn<u.funcs.length∧ad<f.blocks.length):=⟨aj,bW⟩
 clear h a8 ht cj aW hz hn hc ch hv aj c8 bW dU cN hP bd bN dK dw bJ cv aK aB dv cw a6 df a7 c3 a1 a2 f3 x0 zb aG c1 c2 ae t0 t1 HX au b7 cf bQ cZ aM ct cm;go_enter Tryd.func68,Tryd.ntmps68;go_upto_region 1 with (go_at_call 43;refine HT.out.mono ?_;rintro e W1 ⟨rfl,aL⟩;have b3:=hid aL;clear aL)
 obtain⟨c1,c2,t0,t1,a1,a2,f3,x0,s1,s2,h1⟩:=bw.out W1 b3.out;have z1:=aac c1;have z2:=aac t0;have z3:=aac a1;have z4:=aac a2;have z5:=aac f3;have z6:=aac x0;have k1:=cell_regrown c1;have k2:=cell_regrown c2;have k3:=cell_regrown t0;have k4:=cell_regrown t1;have k5:=cell_regrown a1;have k6:=cell_regrown a2;have dp:Hid (∀m d os,CallsIn Fence.wide m Tryd.prog 34 #[.slice pa pn pc,.int .i64 (tb:Int)] (grow (redrawn W1 d) os) fun e bu=>e = .returned (.int .i64 (k0:Int))∧∃p:Regrown,bu=grow (redrawn W1 p.d) p.os):=fun m d os=>by
  have hh:=acP pa pn pc P (tb:Int) (grow (redrawn W1 d) os) (s1.later aaf (below_regrown W1 d os)) cy.out.1 cy.out.2;rw [HI.out] at hh;exact CallsIn.regrown_of (callsIn_wide (n:=m).2 (hh.mono fun e bu ⟨e1,e2⟩=>⟨e1,by rw [<-e2];exact Below.refl _ _⟩))
 clear s1 s2 h1;refine aaw (by kernel_rfl) (by kernel_rfl) ?_
 repeat (gi_big_quiet_step (fail))
 refine wpQuietIn_step (fun _ _ _ _=>trivial) (fun K hK=>?_);go_simp;refine⟨_,fun _=>dp.out _ _ _,hK _ ?_⟩;clear hK K
 repeat (gi_big_quiet_step (fail))
 refine wpQuietIn_nil ?_;intro W2 eB;obtain⟨rg,bR⟩:=eB;have dB:Below W1.heap.size W1 W2:=by rw [bR];exact below_regrown _ _ _
 have cA:Hid (Below W.heap.size W W2):=b3.out.trans (dB.mono b3.out.size);clear bR dB c1 c2 t0 t1 a1 a2 f3 x0 k1 k2 k3 k4 k5 k6 z1 z2 z3 z4 z5 z6 dp b3;obtain⟨c1,-,t0,-,-,-,f3,x0,-,-,-⟩:=bw.out W2 cA.out;have z1:=aac c1;have z2:=aac t0;have z5:=aac f3;have z6:=aac x0;go_upto_region 2 with (fail)
 go_quiet (fail);go_upto_region 5 with (fail)
 obtain⟨W3,cK⟩:∃W3,W3=W2.drewN nq:=⟨_,rfl⟩
 have dC:Below W2.heap.size W2 W3:=by rw [cK];exact bE
 rw [<-cK];have cB:Hid (Below W.heap.size W W3):=cA.out.trans (dC.mono cA.out.size);clear cK dC c1 t0 f3 x0 z1 z2 z5 z6;obtain⟨NX,cG⟩:∃NX:List Int,NX=z.phis.map fun p=>aaX t.regs (p.src.getD k0 ⟨false,0⟩):=⟨_,rfl⟩
 have dm:Hid (NX=z.phis.map fun p=>aaX t.regs (p.src.getD k0 ⟨false,0⟩)):=cG;have aQ:Hid (NX.length=np):=by show _=_;rw [cG,Aal];exact HK.out.2.2.2.1.symm
 clear cG;have c0:np<=300:=by
  have h1:=(bx.out.many z (Aah Hz.out)).1;have:=HK.out.2.2.2.1;omega
 obtain⟨i0,er,dg,dh,di⟩:=info_parts acr;go_loopw [7,50] (fun s7 s50 wr=>∃k:Nat,k<=np∧s50 = .int .i64 (k:Int)∧aav W3.heap.size wr s7 (NX.take k)∧Below W3.heap.size W3 wr) (fun _ s50 _=>np - (intOf s50).toNat)
 case atStart=>exact⟨0,Aaf _,rfl,aav.nil _ _,Below.refl _ _⟩
 case round =>
  obtain⟨k,hk,rfl,ak,hb⟩:=hrel;have Hb:=hid hb;have b4:Hid (Below W.heap.size W wr):=cB.out.trans (hb.mono cB.out.size)
  by_cases bO:k<np
  . have aT:(NX.take k).length=k:=by rw [Aa4,aQ.out];omega
    obtain⟨va,vc,he⟩:=ak.shape;rw [aT] at he;subst he;have bA:Hid (∀W5,Below wr.heap.size wr W5->W5.ownsRow W3.heap.size 3 1 (.slice va k vc) k ((NX.take k).map (Value.int .i64))):=fun W5 aq=>by
     have h:=(ak.later aq).1;rw [aT] at h;exact h
    have bB:Hid (∀y∈NX.take k,I64 y):=ak.2;obtain⟨-,-,-,-,-,-,-,-,-,s2,h1⟩:=bw.out wr b4.out;have cp:k<z.phis.length:=by rw [<-HK.out.2.2.2.1];exact bO
    obtain⟨pb,bZ,cs,rfl,-,⟨sv,rfl,bh,-⟩,-,aH⟩:=s2.get cp;obtain⟨sa,sc,rfl,-⟩:=bh.val;obtain⟨p0,p1⟩:=aH.get2;have dP:z.phis[k]∈z.phis:=Aai cp;obtain⟨-,bp,dd⟩:=bx.out.phi _ z Hz.out _ dP;obtain⟨pd,dO⟩:∃d,d=z.phis[k].dst:=⟨_,rfl⟩
    obtain⟨src,bg⟩:∃l,l=z.phis[k].src:=⟨_,rfl⟩
    rw [<-dO] at p0;rw [<-bg] at p1 bh bp dd;have aN:k0<src.length:=by rw [bp,<-HK.out.2.2.2.2.2.2.2.2,cy.out.1];exact HK.out.2.2.2.2.2.1
    obtain⟨vb,b0,eh,rfl,-,⟨rfl,dL⟩,-,aB⟩:=bh.get aN;obtain⟨q0,q1⟩:=aB.get2;have bU:=dd _ (Aai aN);obtain⟨sl,bf⟩:∃n,n=src.length:=⟨_,rfl⟩
    obtain⟨vr,cx⟩:∃b,b=src[k0].reg:=⟨_,rfl⟩
    obtain⟨vn,bT⟩:∃n,n=src[k0].n:=⟨_,rfl⟩
    rw [<-bf] at p1;rw [<-cx] at q0;rw [<-bT] at q1;obtain⟨X,hX⟩:∃X,X=aaX t.regs ⟨vr,vn⟩:=⟨_,rfl⟩
    have bD:NX[k]?=some X:=by
     rw [dm.out,Aap,Aaa cp];show some (aaX t.regs (z.phis[k].src.getD k0 ⟨false,0⟩))=_;rw [<-bg,Aab,Aaa aN,hX,cx,bT];rfl
    have dT:vr=true->0<=vn∧vn<(t.regs.length:Int):=fun e=>by
     rw [cx] at e;have:=bU e;have h2:=Ht.out.regs;have h3:=bx.out.pr;rw [bT];omega
    have HV:Hid (∀W5,Below wr.heap.size wr W5->Calls Tryd.prog 69 #[.pointer (some ⟨WB,0,none⟩),.agg #[.bool vr,.int .i64 vn]] W5 fun e w'=>e = .returned (.int .i64 X)∧Below W5.heap.size W5 w'):=fun W5 aq=>by
     rw [hX];exact ahQ (h1.later aq) aF.out Hn.out vr vn dT
    have ed:Hid (I64 X):=by
     show I64 X;rw [hX];exact aaE Ht.out.num (by rw [bT];exact dL)
    have et:(k0:Int)<(sl:Int):=by rw [bf];omega
    have zp:=aac p0;have zq:=aac q0;have cz:=hid bD;clear s2 h1 dL bh aH aB bp dd bU dO bg bf cx bT hX bD dT ak hb dP aN cp;go_upto_region 7 with (fail)
    obtain⟨W4,b9⟩:∃W4,W4=wr.alloc (.cells #[.int .i64 pd,.slice (some ⟨vb,b0,none⟩) sl sc] 93):=⟨_,rfl⟩
    have cb:Below wr.heap.size wr W4:=by rw [b9];exact bE
    have cD:W4.heap[wr.heap.size]?=some (.cells #[.int .i64 pd,.slice (some ⟨vb,b0,none⟩) sl sc] 93 (0,0)):=by rw [b9];exact heap_alloc_new _ _
    rw [<-b9];obtain⟨PB,bC⟩:∃PB,PB=wr.heap.size:=⟨_,rfl⟩
    rw [<-bC] at cD ⊢;obtain⟨y0,y1⟩:=(aar (cs:=[_,_]) cD).get2;rw [Aac] at y1;have zy:=aac y0;have q0:=aab q0 cb;have q1:=aab q1 cb;have zq:=aac q0;have cC:=hid cb;clear b9 cb cD bC p0 p1 zp
    go_upto_region 8 with (first
     | (go_at_call 69; refine (HV.out W4 cC.out).mono ?_; rintro e W5 ⟨rfl, aq⟩; have aE : Hid (Below wr.heap.size wr W5) := cC.out.trans (aq.mono cC.out.size); clear aq)
     | (refine wpList_append_own_at _ rfl (.tmp 54) (.tmp 62) 26 rfl W3.heap.size 3 i0 _ 1 8 Tryd.underlying26 er dg dh di rfl (by decide) (.slice va k vc) k ((NX.take k).map (Value.int .i64)) rfl (bA.out _ (by have h := aE.out; exact bE1 h)) ⟨W5.heap.size, 0, none⟩ 1 1 [.int .i64 X] rfl rfl ?_ ?_ ?_ ?_ ?_ ?_
        . intro j v hj
          match j, hj with
          | 0, hj => cases hj; rw [Addr.add_lit]; simp
        . intro v hv
          rw [Aau.1 hv]; rfl
        . unfold maxLen; omega
        . omega
        . have h1 := Hb.out.size
          have h2 := aE.out.size
          simp
          omega
        intro v' w' aU aS cY ek
        have ea := hid aU
        have HG : Hid (Below W3.heap.size W3 w') := by
         refine Below.grown ?_ aS ?_ ?_
         . exact Hb.out.trans ((aE.out.alloc aE.out.size _).mono Hb.out.size)
         . exact (Hb.out.trans ((aE.out.alloc aE.out.size _).mono Hb.out.size)).size
         . exact fun q hq => ((bA.out wr (Below.refl _ _)).lt q hq).1
        clear aU aS cY ek))
    have ec:Hid (aav W3.heap.size w' v' (NX.take (k+1))):=by
     have dJ:k<NX.length:=by rw [aQ.out];exact bO
     have dA:=cz.out;rw [Aaa dJ] at dA;have e:NX.take (k+1)=NX.take k++[X]:=by rw [Aaz dJ,Option.some.inj dA]
     refine⟨?_,fun y hy=>?_⟩
     . rw [e,Aak,Aat,Aa4,aQ.out,Nat.min_eq_left (by omega)]
       exact ea.out
     . rw [e] at hy
       rcases Aaw.1 hy with hy | hy
       . exact bB.out y hy
       . rw [Aau.1 hy];exact ed.out
    go_wp2_with fail;go_roundw
    case rel=>exact⟨k+1,by omega,by go_num,ec.out,HG.out⟩
    case measure=>simp [intOf];omega
  . have eu:k=np:=by omega
    subst eu;have aT:(NX.take k).length=k:=by rw [Aa4,aQ.out];omega
    obtain⟨va,vc,he⟩:=ak.shape;rw [aT] at he;subst he;have bG:NX.take k=NX:=by rw [<-aQ.out,Aa0]
    rw [bG] at ak;obtain⟨-,-,-,-,-,-,-,-,-,s2,h1⟩:=bw.out wr b4.out;have aV:SlAt (fun b=>W3.heap.size<=b) wr 1 abe (.slice va k vc) NX:=by
     have h:=ak.sl;exact h.mono aaf (fun b hb=>hb.1) (aaD.refl _ _)
    obtain⟨wo,de⟩:∃wo:World,wo=wr:=⟨_,rfl⟩
    rw [<-de] at s2 h1 aV ⊢;have eI:Hid (Below W.heap.size W wo):=by rw [de];exact b4.out
    have eb:Hid (∀b,(V (.regs r.length)).ownBlock=some b->b<W3.heap.size):=fun b hb=>by
     obtain⟨-,-,-,-,-,-,-,-,-,-,h0⟩:=bw.out W (Below.refl _ _);have:=(h0.rows.lt (p := .regs r.length) (by rw [aF.out];exact Aa8 _) b hb).2;have:=cB.out.size;omega
    clear ak hb bG aT hk bO Hb b4 de;have du:aaG u G (.slice (some ⟨fb,ag,none⟩) u.funcs.length fc) (.slice (some ⟨ab,af,none⟩) u.funcs.length ac) S W0 base WB wo V iv { s with frs:={ t with regs:=afT (z.phis.take 0) (NX.take 0) t.regs } :: r }:=by
     have e:({ s with frs:={ t with regs:=afT (z.phis.take 0) (NX.take 0) t.regs } :: r }:RnS)=s:=by
      show ({ s with frs:=t :: r }:RnS)=s;rw [<-aF.out]
     rw [e];exact h1
    have ee:=hid s2;have H1:=hid du;have ef:=hid aV;clear h1 du s2 aV;go_upto_region 10 with (fail)
    go_loopw [67] (fun s67 wr=>∃j:Nat,j<=k∧s67 = .int .i64 (j:Int)∧aaG u G (.slice (some ⟨fb,ag,none⟩) u.funcs.length fc) (.slice (some ⟨ab,af,none⟩) u.funcs.length ac) S W0 base WB wr V iv { s with frs:={ t with regs:=afT (z.phis.take j) (NX.take j) t.regs } :: r }∧SlAt (fun b=>W3.heap.size<=b) wr 1 abe (.slice va k vc) NX∧SlAt S wr 2 aie (.slice bY k bq) z.phis) (fun s67 _=>k - (intOf s67).toNat)
    case atStart=>exact⟨0,Aaf _,rfl,H1.out,ef.out,ee.out⟩
    case round =>
     obtain⟨j,hj,rfl,hw,aV,cr⟩:=hrel
     by_cases hjk:j<k
     . have ck:j<z.phis.length:=by rw [<-HK.out.2.2.2.1];exact hjk
       obtain⟨pb,bZ,cs,rfl,-,⟨sv,rfl,bh,-⟩,-,aH⟩:=cr.get ck;obtain⟨sa,sc,rfl,-⟩:=bh.val;obtain⟨p0,p1⟩:=aH.get2;obtain⟨⟨dE,dF⟩,-,-⟩:=bx.out.phi _ z Hz.out _ (Aai ck);obtain⟨q,hq⟩:∃q:Nat,z.phis[j].dst=(q:Int):=Aao dE;rw [hq] at p0 dF;obtain⟨R1,b8⟩:∃R1,R1=afT (z.phis.take j) (NX.take j) t.regs:=⟨_,rfl⟩
       rw [<-b8] at hw;have ej:R1.length=t.regs.length:=by rw [b8,afU]
       have cq:q<R1.length:=by have:=Ht.out.regs;have:=bx.out.pr;omega
       obtain⟨RB,rc,hR,-,-,-,-,aI⟩:=hw.numAt (p := .regs r.length) (show r.length<r.length+1 from Aa8 _) rfl (l:=R1) (by show aay (({ t with regs:=R1 } :: r).reverse.getD r.length RnF.none).regs=_;rw [abw]) (Aaa cq);obtain⟨g',aA,aD,-,-,-,ae,-⟩:=hw.topAt (t:={ t with regs:=R1 }) (r:=r) rfl;rw [Hv.out] at aD;cases aD;have t3:=ae 3 _ rfl;rw [hR,<-HK.out.2.2.2.2.1] at t3;have cR:j<NX.length:=by rw [aQ.out];exact hjk
       obtain⟨nb,bX,eK,rfl,-,⟨rfl,-⟩,-,bK⟩:=aV.get cR;have n0:=bK 0 _ rfl;rw [Aas,Aam] at n0;obtain⟨X,hX⟩:∃X,X=NX[j]:=⟨_,rfl⟩
       rw [<-hX] at n0;obtain⟨rl,c4⟩:∃m,m=R1.length:=⟨_,rfl⟩
       rw [<-c4] at t3;obtain⟨sl,bp⟩:∃m,m=z.phis[j].src.length:=⟨_,rfl⟩
       rw [<-bp] at p1;have cH:RB<W3.heap.size:=eb.out RB (by rw [hR];rfl);have dy:¬S RB:=hw.off (.regs r.length) (show r.length<r.length+1 from Aa8 _) RB (by rw [hR];rfl);have dQ:afT (z.phis.take (j+1)) (NX.take (j+1)) t.regs=R1.set q X:=by
        rw [Aaz ck,Aaz cR,agC _ _ _ _ _ (by rw [Aa4,Aa4,aQ.out,<-HK.out.2.2.2.1]),<-b8,hq,hX,Aag]
       have HF : Hid (∀ W', Below wr.heap.size wr W' -> W'.cell? ⟨g, n * 5 + 3, none⟩ = some (.slice (some ⟨RB, 0, none⟩) rl rc) ∧ W'.cell? ⟨nb, bX + j, none⟩ = some (.int .i64 X) ∧ (∃ y : Int, W'.cell? ⟨RB, q, none⟩ = some (.int .i64 y)) ∧ W'.frozen? ⟨RB, q, none⟩ = false ∧
        aaG u G (.slice (some ⟨fb, ag, none⟩) u.funcs.length fc) (.slice (some ⟨ab, af, none⟩) u.funcs.length ac) S W0 base WB (W'.setCell ⟨RB, q, none⟩ (.int .i64 X)) V iv { s with frs := { t with regs := afT (z.phis.take (j + 1)) (NX.take (j + 1)) t.regs } :: r } ∧ SlAt (fun b => W3.heap.size <= b) (W'.setCell ⟨RB, q, none⟩ (.int .i64 X)) 1 abe (.slice (some ⟨nb, bX, none⟩) k vc) NX ∧ SlAt S (W'.setCell ⟨RB, q, none⟩ (.int .i64 X)) 2 aie (.slice (some ⟨pb, bZ, none⟩) k bq) z.phis) := fun W' hb => by
        have dS:=hw.later hb;obtain⟨eJ,eX,dx,-,-,-,cO,cQ⟩:=dS.numAt (p := .regs r.length) (show r.length<r.length+1 from Aa8 _) rfl (l:=R1) (by show aay (({ t with regs:=R1 } :: r).reverse.getD r.length RnF.none).regs=_;rw [abw]) (Aaa cq);rw [hR] at dx;cases dx;have bP:∀b o v,b≠RB->W'.cell? ⟨b,o,none⟩=some v->(W'.setCell ⟨RB,q,none⟩ (.int .i64 X)).cell? ⟨b,o,none⟩=some v:=fun b o v au hc=>by
         rw [World.cell?_of_block (w:=W') (Below.heap_setCell _ _ _ _ (fun e=>au e))];exact hc
        refine⟨aab t3 hb,aab n0 hb,⟨_,cO⟩,cQ,?_,(aV.later aaf hb).mono aaf (fun _ h=>h) (fun b o v hS hc=>bP b o v (fun e=>by omega) hc),(cr.later abC hb).mono abC (fun _ h=>h) (fun b o v hS hc=>bP b o v (fun e=>dy (e ▸ hS)) hc)⟩;rw [dQ];exact dS.putReg (t:={ t with regs:=R1 }) (r:=r) rfl hR cq X
       have eL:(j:Int)<(k:Int):=by omega
       have eS:(q:Int)<(rl:Int):=by rw [c4];omega
       have eR:(0:Int)<=(q:Int):=by omega
       have zp:=aac p0;clear hw aV cr bh aH dE dF hq b8 ej cq hR aI ae bK hX c4 bp dQ ck cR cH dy t3 n0;go_upto_region 12 with (fail)
       obtain⟨W6,ca⟩:∃W6,W6=wr.alloc (.cells #[.int .i64 (q:Int),.slice sa sl sc] 93):=⟨_,rfl⟩
       have cM:Below wr.heap.size wr W6:=by rw [ca];exact bE
       have cE:W6.heap[wr.heap.size]?=some (.cells #[.int .i64 (q:Int),.slice sa sl sc] 93 (0,0)):=by rw [ca];exact heap_alloc_new _ _
       rw [<-ca];obtain⟨PB,bC⟩:∃PB,PB=wr.heap.size:=⟨_,rfl⟩
       rw [<-bC] at cE ⊢;obtain⟨y0,-⟩:=(aar (cs:=[_,_]) cE).get2;obtain⟨t3,n0,⟨yy,m0⟩,m1,-,-,-⟩:=HF.out W6 cM;have zt:=aac t3;have zn:=aac n0;have zm:=aac m0;have zy:=aac y0;have dn:=hid cM;clear ca cM cE bC p0 p1 zp;go_still_tail 11,(by kernel_rfl);change wpList _ _ _ _ _ W6.drew;obtain⟨W7,cL⟩:∃W7:World,W7=W6.drew:=⟨_,rfl⟩
       have bH:Below W6.heap.size W6 W7:=by rw [cL];exact (Below.refl _ _).drew
       rw [<-cL];obtain⟨-,-,⟨yz,eE⟩,eW,G1,G2,G3⟩:=HF.out W7 (dn.out.trans (bH.mono dn.out.size));have e0:=aac eE;have dX:=hid G1;have dY:=hid G2;have dZ:=hid G3;clear cL bH t3 n0 m0 m1 y0 zt zn zm zy HF G1 G2 G3;go_wp2_with fail;go_roundw
       case rel=>exact⟨j+1,by omega,by go_num,dX.out,dY.out,dZ.out⟩
       case measure=>simp [intOf];omega
     . have cS:j=k:=by omega
       subst cS;have e1:z.phis.take j=z.phis:=by rw [show j=z.phis.length from HK.out.2.2.2.1,Aa0]
       have e2:NX.take j=NX:=by rw [<-aQ.out,Aa0]
       rw [e1,e2] at hw;obtain⟨RZ,cI⟩:∃RZ,RZ=afT z.phis NX t.regs:=⟨_,rfl⟩
       rw [<-cI] at hw;have ep:base<=g∧g<wr.heap.size:=by
        have:=hw.rows.lt (p := .frs) trivial g (by rw [Hv.out];rfl);exact this
       obtain⟨g',aA,aD,-,-,-,ae,aI⟩:=hw.topAt (t:={ t with regs:=RZ }) (r:=r) rfl;rw [Hv.out] at aD;cases aD;have b1:=ae 1 _ rfl;have b2:=ae 2 _ rfl;have f1:=aI 1 (by omega);have f2:=aI 2 (by omega);have dM:=hw.putTop (t:={ t with regs:=RZ }) (t':={ t with regs:=RZ,blk:=ad }) (r:=r) rfl Hv.out (j:=1) (by omega) (.int .i64 (ad:Int)) rfl rfl;have dN:=dM.putTop (t:={ t with regs:=RZ,blk:=ad }) (t':={ t with regs:=RZ,blk:=ad,pos:=0 }) (r:=r) rfl Hv.out (j:=2) (by omega) (.int .i64 0) rfl rfl;have bM:({ t with regs:=RZ,blk:=ad,pos:=0 }:RnF)=ab9 u ad t:=by
        unfold ab9 agB;have hb:aiI u t.fn ad=z:=by
         unfold aiI;rw [Ht.out.funcR,Aab,Hz.out];rfl
        rw [hb,Ht.out.funcR,<-HK.out.2.2.1,<-dm.out,<-cI]
       have be:aaG u G (.slice (some ⟨fb,ag,none⟩) u.funcs.length fc) (.slice (some ⟨ab,af,none⟩) u.funcs.length ac) S W0 base WB ((wr.setCell ⟨g,r.length * 5+1,none⟩ (.int .i64 (ad:Int))).setCell ⟨g,r.length * 5+2,none⟩ (.int .i64 0)) V iv { s with frs:=ab9 u ad t :: r }:=by rw [<-bM];exact dN
       rw [<-HK.out.2.2.2.2.1] at b1 b2 f1 f2 be;have zg:=aac b1;have HP:=hid be;clear hw aV cr cI ep ae aI dM dN bM be e1 e2;go_upto_region 15 with (fail)
       obtain⟨W8,dz⟩:∃W8,W8=(wr.setCell ⟨g,n * 5+1,none⟩ (.int .i64 (ad:Int))).setCell ⟨g,n * 5+2,none⟩ (.int .i64 0):=⟨_,rfl⟩
       have H8:=HP.out;rw [<-dz] at H8 ⊢;clear dz HP b1 b2 f1 f2 zg;obtain⟨g',aA,aD,-,-,-,ae,-⟩:=H8.topAt (t:=ab9 u ad t) (r:=r) rfl;rw [Hv.out] at aD;cases aD;have t0:W8.cell? ⟨g,n * 5,none⟩=some (.int .i64 (fn:Int)):=by
        have h:=ae 0 _ rfl;rw [Aas,<-HK.out.2.2.2.2.1] at h;rw [HK.out.1];exact h
       obtain⟨-,eG,bI,-⟩:=H8.boxAt;have cT:t.fn<s.cnt.length:=(Aae.1 Hc.out).1;have dI:okW (r.length+1) s.cnt.length (.cnt t.fn):=cT;have c5:ad<cl.length:=by rw [ds.out.1];exact HL.out.2
       obtain⟨v0,cu⟩:∃v0,cl[ad]?=some v0:=⟨cl[ad],Aaa c5⟩
       obtain ⟨CB, cc, bL, -, -, -, cg, dD⟩ := H8.numAt (p := .cnt t.fn) dI rfl (l := cl) (by
        show aay (s.cnt.getD t.fn []) = _
        rw [Aab, Hc.out]; rfl) cu
       have aH:(walkC G (.slice (some ⟨fb,ag,none⟩) u.funcs.length fc) (.slice (some ⟨ab,af,none⟩) u.funcs.length ac) iv V { s with frs:=ab9 u ad t :: r } .cnts)[t.fn]?=some [V (.cnt t.fn)]:=by
        show ((List.range s.cnt.length).map fun k=>[V (.cnt k)])[t.fn]?=_;rw [Aap,Abg cT];rfl
       obtain⟨TB,eZ,dc,-,-,-,aO,-⟩:=H8.rows.cell (p := .cnts) trivial aH (j:=0) (u:=V (.cnt t.fn)) rfl;have aj:(walkC G (.slice (some ⟨fb,ag,none⟩) u.funcs.length fc) (.slice (some ⟨ab,af,none⟩) u.funcs.length ac) iv V { s with frs:=ab9 u ad t :: r } .cnts).length=s.cnt.length:=by
        show ((List.range s.cnt.length).map fun k=>[V (.cnt k)]).length=_;rw [Aal,List.length_range]
       rw [aj] at dc;have bS:WPth.cnts.sz=1:=rfl;rw [bS,Aam,Aas,bL,<-HK.out.1] at aO;have b6:=bI 10 _ rfl;rw [Aac,dc] at b6;have zT:=aac aO;have zC:=aac cg;have zB:=aac b6;have zg:=aac t0;have eA:=ds.out.2 v0 (Aah cu);have eT:IntKind.i64.wrap (v0+1)=v0+1:=by rw [IntKind.wrap_i64];omega
       obtain⟨CL,cF⟩:∃m,m=s.cnt.length:=⟨_,rfl⟩
       obtain⟨cn,cP⟩:∃m,m=cl.length:=⟨_,rfl⟩
       have en:(fn:Int)<(CL:Int):=by have:=HK.out.1;rw [cF];omega
       have ez:(ad:Int)<(cn:Int):=by rw [cP];omega
       rw [<-cF] at b6;rw [<-cP] at aO;have HF:Hid (∀W9,Below W8.heap.size W8 W9->W9.cell? ⟨CB,ad,none⟩=some (.int .i64 v0)∧W9.frozen? ⟨CB,ad,none⟩=false∧aaG u G (.slice (some ⟨fb,ag,none⟩) u.funcs.length fc) (.slice (some ⟨ab,af,none⟩) u.funcs.length ac) S W0 base WB (W9.setCell ⟨CB,ad,none⟩ (.int .i64 (v0+1))) V iv (s.jump u ad)):=fun W9 bo=>by
        refine⟨aab cg bo,by rw [World.frozen?_of_block (w:=W8) (bo.block CB (aac cg))];exact dD,?_⟩;have h:=(H8.later bo).putCnt (k:=t.fn) (l:=cl) Hc.out bL (d:=ad) c5 (v0+1);have e:({ ({ s with frs:=ab9 u ad t :: r }:RnS) with cnt:=s.cnt.set t.fn (cl.set ad (v0+1)) }:RnS)=s.jump u ad:=by
         unfold RnS.jump RnS.setTop RnS.top;rw [aF.out,akW Hc.out cu];rfl
        rw [<-e];exact h
       clear H8 ae bI cT dI c5 bL aH dc aj bS cu cF cP eG;go_still_tail 15,(by kernel_rfl);change wpList _ _ _ _ _ W8.drew;obtain⟨W9,aZ⟩:∃W9:World,W9=W8.drew:=⟨_,rfl⟩
       have bo:Below W8.heap.size W8 W9:=by rw [aZ];exact (Below.refl _ _).drew
       rw [<-aZ];obtain⟨m0,m1,HG⟩:=HF.out W9 bo;have zm:=aac m0;have dW:=hid HG;clear aZ bo HF HG t0 aO cg b6 zT zC zB zg dD;go_wp2_with fail;go_end0;exact⟨rfl,dW.out⟩
end
end
section
open Go.RowKit Go.Sort
structure ac7 (u:aax)(G F A:Value)(S:Nat->Prop)(W0:World)(base WB:Nat)(W:World)(V:WPth->Value)(iv:Value)(s:RnS)(t:RnF)(r:List RnF)(f:aal)(x:aad):Prop where
 at_:aaG u G F A S W0 base WB W V iv s
 fr:s.frs=t :: r
 fw:FrW u t f x
 chk:aak u=(0,0)
 num:aiw u
 w:RnW u s
 fF:∃fa fl fc,F = .slice fa fl fc
 fA:∃aa al ac,A = .slice aa al ac
 steps:s.steps<=100001
section
variable {u : aax} {G F A : Value} {S : Nat -> Prop} {W0 : World} {base WB : Nat} {W : World} {V : WPth -> Value} {iv : Value} {s : RnS} {t : RnF} {r : List RnF} {f : aal} {x : aad}
theorem ac7.fo(h:ac7 u G F A S W0 base WB W V iv s t r f x):agQ f:=afF h.chk h.fw.fn
theorem ac7.deep(h:ac7 u G F A S W0 base WB W V iv s t r f x):r.length+1<=30:=by have:=h.w.deep;rw [h.fr] at this;exact this
theorem ac7.later {W':World}(h:ac7 u G F A S W0 base WB W V iv s t r f x)(hb:Below W.heap.size W W'):ac7 u G F A S W0 base WB W' V iv s t r f x :=
 ⟨h.at_.later hb,h.fr,h.fw,h.chk,h.num,h.w,h.fF,h.fA,h.steps⟩
theorem ac7.jump(h:ac7 u G F A S W0 base WB W V iv s t r f x){ad:Nat}(aW:(ad:Int)∈x.fin.to) :
 Calls Tryd.prog 68 #[.pointer (some ⟨WB,0,none⟩),.int .i64 (ad:Int)] W fun e w'=>e = .returned (.tuple #[])∧aaG u G F A S W0 base WB w' V iv (s.jump u ad):=by
 obtain⟨fa,fl,fc,hF⟩:=h.fF;obtain⟨aa,al,ac,hA⟩:=h.fA;have eM:=((h.fo.tgt _ x h.fw.blk).2 _ aW).2;have hz:f.blocks[ad]?=some f.blocks[ad]:=Aaa (by omega);obtain⟨cl,hc,ch,bL⟩:=h.w.cnt.2 t.fn f h.fw.fn;exact ajN h.at_ h.fr h.fw h.fo aW hz h.deep hF hA hc ⟨ch,fun v hv=>by have:=bL v hv;have:=h.steps;omega⟩
theorem ac7.val(h:ac7 u G F A S W0 base WB W V iv s t r f x){v:ab3}(hv:VOk f.regs v) :
 Calls Tryd.prog 69 #[.pointer (some ⟨WB,0,none⟩),.agg #[.bool v.reg,.int .i64 v.n]] W fun e w'=>e = .returned (.int .i64 (aaX t.regs v))∧Below W.heap.size W w' :=
 ahQ h.at_ h.fr h.deep v.reg v.n fun e=>by
  have h1:=hv e;have h2:=h.fw.regs;have h3:=h.fo.pr;omega
theorem ac7.end_(h:ac7 u G F A S W0 base WB W V iv s t r f x){S':Nat->Prop}{ta:Option Addr}{tc:Nat}(ht:SlAt S' W 1 abe (.slice ta x.fin.to.length tc) x.fin.to) :
 Calls Tryd.prog 44 #[.pointer (some ⟨WB,0,none⟩),.agg #[.int .i64 x.fin.kind,.bool x.fin.on.reg,.int .i64 x.fin.on.n,.slice ta x.fin.to.length tc]] W fun e w' =>
  e = .returned (.bool (s.end_ u x.fin).2)∧∃V',aaG u G F A S W0 base WB w' V' iv (s.end_ u x.fin).1:=by
 have an:s.top=t:=by unfold RnS.top;rw [h.fr];rfl
 obtain⟨k1,k2,k3,k4,-⟩:=h.fo.kind _ x h.fw.blk;have ay:=h.fo.on _ x h.fw.blk;obtain⟨W1,aY⟩:∃W1,W1=W.alloc (.cells #[.int .i64 x.fin.kind,.bool x.fin.on.reg,.int .i64 x.fin.on.n,.slice ta x.fin.to.length tc] 44):=⟨_,rfl⟩
 have aL:Below W.heap.size W W1:=by rw [aY];exact bE
 have bV:W1.heap[W.heap.size]?=some (.cells #[.int .i64 x.fin.kind,.bool x.fin.on.reg,.int .i64 x.fin.on.n,.slice ta x.fin.to.length tc] 44 (0,0)):=by rw [aY];exact heap_alloc_new _ _
 obtain⟨x0,x1,x2,x3⟩:=(aar (cs:=[_,_,_,_]) bV).get4;rw [Aac] at x1 x2 x3;obtain⟨XB,bm⟩:∃XB,XB=W.heap.size:=⟨_,rfl⟩
 rw [<-bm] at x0 x1 x2 x3;have zX:=aac x0;have HW:Hid (W1=W.alloc (.cells #[.int .i64 x.fin.kind,.bool x.fin.on.reg,.int .i64 x.fin.on.n,.slice ta x.fin.to.length tc] 44)∧XB=W.heap.size):=⟨aY,bm⟩
 have H1:=hid (h.later aL);have b5:Hid (∀(k:Nat) (hk:k<x.fin.to.length),∃tb ad:Nat,∃ai,ta=some ⟨tb,ai,none⟩∧x.fin.to[k]=(ad:Int)∧(ad:Int)∈x.fin.to∧W1.cell? ⟨tb,ai+k,none⟩=some (.int .i64 (ad:Int))):=fun k hk=>by
  obtain⟨tb,ai,cs,e,-,⟨rfl,-⟩,-,aH⟩:=ht.get hk;have c:=aH 0 _ rfl;rw [Aas,Aam] at c;have hm:=Aai hk;have:=k4 _ hm;obtain⟨ad,aW⟩:∃m:Nat,x.fin.to[k]=(m:Int):=Aao (a:=x.fin.to[k]) (by omega);rw [aW] at c hm;exact⟨tb,ad,ai,e,aW,hm,aab c aL⟩
 obtain⟨kd,ar⟩:∃m,m=x.fin.kind:=⟨_,rfl⟩
 obtain⟨tl,aj⟩:∃m,m=x.fin.to.length:=⟨_,rfl⟩
 rw [<-ar] at x0;rw [<-aj] at x3;have HE:Hid (kd=x.fin.kind∧tl=x.fin.to.length∧s.top=t):=⟨ar,aj,an⟩
 have az:Hid (W1=W.alloc (.cells #[.int .i64 kd,.bool x.fin.on.reg,.int .i64 x.fin.on.n,.slice ta tl tc] 44)∧XB=W.heap.size):=by rw [ar,aj];exact HW.out
 by_cases hk2:x.fin.kind=2
 . have da:tl=1:=by omega
   obtain⟨tb,ad,ai,rfl,av,aw,ax⟩:=b5.out 0 (by omega);have HJ:=hid (H1.out.jump aw);have HS:Hid (s.end_ u x.fin=(s.jump u ad,true)):=by
    show _=_;unfold RnS.end_;rw [if_pos hk2];have e:x.fin.to.getD 0 0=(ad:Int):=by rw [Aab,Aaa (by omega),av];rfl
    rw [e,Aag]
   rw [Aas] at ax;have cV:kd=2:=by rw [ar];exact hk2
   rw [HS.out];rw [<-ar,<-aj];subst cV da;have zt:=aac ax;clear h ht an k1 k2 k3 k4 ay aY aL bV bm HW ar aj hk2 av aw;go_enter Tryd.func44,Tryd.ntmps44;go_upto_region 1 with (fail)
   rw [<-az.out.1,<-az.out.2];clear az;go_wp2_with (first | (go_at_call 68;refine HJ.out.mono ?_;rintro e W5 ⟨rfl,hj⟩;have HF:=hid hj;clear hj));go_ret;exact⟨rfl,_,HF.out⟩
 . by_cases hk3:x.fin.kind=3
   . have db:tl=2:=by omega
     obtain⟨tb,br,ai,rfl,av,aw,ax⟩:=b5.out 0 (by omega);obtain⟨eY,bt,dV,e',bj,bk,bl⟩:=b5.out 1 (by omega);cases e';obtain⟨NV,aR⟩:∃y,y=aaX t.regs x.fin.on:=⟨_,rfl⟩
     have HV:=hid (H1.out.val ay);rw [<-aR] at HV;have dj:Hid (∀W5,Below W1.heap.size W1 W5->Calls Tryd.prog 68 #[.pointer (some ⟨WB,0,none⟩),.int .i64 (br:Int)] W5 fun e w'=>e = .returned (.tuple #[])∧aaG u G F A S W0 base WB w' V iv (s.jump u br)):=fun W5 hb=>(H1.out.later hb).jump aw;have dk:Hid (∀W5,Below W1.heap.size W1 W5->Calls Tryd.prog 68 #[.pointer (some ⟨WB,0,none⟩),.int .i64 (bt:Int)] W5 fun e w'=>e = .returned (.tuple #[])∧aaG u G F A S W0 base WB w' V iv (s.jump u bt)):=fun W5 hb=>(H1.out.later hb).jump bk;have HC:Hid (∀W5,Below W1.heap.size W1 W5->W5.cell? ⟨XB,3,none⟩=some (.slice (some ⟨tb,ai,none⟩) tl tc)∧W5.cell? ⟨tb,ai,none⟩=some (.int .i64 (br:Int))∧W5.cell? ⟨tb,ai+1,none⟩=some (.int .i64 (bt:Int))):=fun W5 hb=>⟨aab x3 hb,by have:=aab ax hb;rw [Aas] at this;exact this,aab bl hb⟩
     have HS:Hid (s.end_ u x.fin=if NV≠0 then (s.jump u br,true) else (s.jump u bt,true)):=by
      show _=_;unfold RnS.end_;rw [if_neg hk2,if_pos hk3,an,<-aR]
      by_cases e:NV≠0
      . rw [if_pos e,if_pos e]
        have e2:x.fin.to.getD 0 0=(br:Int):=by rw [Aab,Aaa (by omega),av];rfl
        rw [e2,Aag]
      . rw [if_neg e,if_neg e]
        have e2:x.fin.to.getD 1 0=(bt:Int):=by rw [Aab,Aaa (by omega),bj];rfl
        rw [e2,Aag]
     have cW:kd=3:=by rw [ar];exact hk3
     rw [<-ar,<-aj];subst cW db
     by_cases hN:NV=0
     . have aX:Hid (s.end_ u x.fin=(s.jump u bt,true)):=HS.out.trans (if_neg (fun e=>e hN))
       rw [aX.out];have q0:(decide (NV<0)||decide (0<NV))=false:=by rw [hN];rfl
       clear h ht an k1 k2 k3 k4 ay aY aL bV bm HW ar aj hk2 hk3 av aw ax bj bk bl aR HS dj hN x3;go_enter Tryd.func44,Tryd.ntmps44;go_upto_region 1 with (fail)
       rw [<-az.out.1,<-az.out.2];clear az
       go_wp2_with (first
        | (go_at_call 69; refine HV.out.mono ?_; rintro e W5 ⟨rfl, aq⟩; obtain ⟨x3, d0, d1⟩ := HC.out W5 aq; have eF := aac x3; have eH := aac d0; have aE := hid aq; clear aq x0 x1 x2 zX)
        | (go_at_call 68; refine (dk.out W5 aE.out).mono ?_; rintro e W6 ⟨rfl, hj⟩; have HF := hid hj; clear hj))
       go_ret;exact⟨rfl,_,HF.out⟩
     . have aX:Hid (s.end_ u x.fin=(s.jump u br,true)):=HS.out.trans (if_pos hN)
       rw [aX.out];have q0:(decide (NV<0)||decide (0<NV))=true:=abN hN;clear h ht an k1 k2 k3 k4 ay aY aL bV bm HW ar aj hk2 hk3 av aw ax bj bk bl aR HS dk hN x3;go_enter Tryd.func44,Tryd.ntmps44;go_upto_region 1 with (fail)
       rw [<-az.out.1,<-az.out.2];clear az
       go_wp2_with (first
        | (go_at_call 69; refine HV.out.mono ?_; rintro e W5 ⟨rfl, aq⟩; obtain ⟨x3, d0, d1⟩ := HC.out W5 aq; have eF := aac x3; have eH := aac d0; have aE := hid aq; clear aq x0 x1 x2 zX)
        | (go_at_call 68; refine (dj.out W5 aE.out).mono ?_; rintro e W6 ⟨rfl, hj⟩; have HF := hid hj; clear hj))
       go_ret;exact⟨rfl,_,HF.out⟩
   . have dH:x.fin.kind=1:=by omega
     have cU:kd=1:=by rw [ar];exact dH
     obtain⟨NV,aR⟩:∃y,y=aaX t.regs x.fin.on:=⟨_,rfl⟩
     obtain⟨g,fc,hv,dG,-,-,ae,-⟩:=H1.out.at_.topAt H1.out.fr;have d4:=ae 4 _ rfl;have aC:=H1.out.deep;obtain⟨n,au⟩:∃n,n=r.length:=⟨_,rfl⟩
     have dr:Hid (∀m d os,CallsIn Fence.wide m Tryd.prog 69 #[.pointer (some ⟨WB,0,none⟩),.agg #[.bool x.fin.on.reg,.int .i64 x.fin.on.n]] (grow (redrawn W1 d) os) fun e bu=>e = .returned (.int .i64 NV)∧∃p:Regrown,bu=grow (redrawn W1 p.d) p.os):=fun m d os=>by
      have h:=(H1.out.later (below_regrown W1 d os)).val ay;rw [<-aR] at h;exact CallsIn.regrown_of (callsIn_wide (n:=m).2 h)
     have dq:Hid (∀(q:Regrown) m d os,CallsIn Fence.wide m Tryd.prog 43 #[.pointer (some ⟨WB,0,none⟩)] (grow (redrawn W1 d) os) fun e bu=>e = .returned (.pointer (some ⟨g,n * 5,none⟩))∧∃p:Regrown,bu=grow (redrawn W1 p.d) p.os):=fun _ m d os=>by
      rw [au];exact CallsIn.regrown_of (callsIn_wide (n:=m).2 (aeT (H1.out.at_.later (below_regrown W1 d os)) hv aC))
     rw [<-au] at d4;have el:frC V r.length t=[.int .i64 (t.fn:Int),.int .i64 (t.blk:Int),.int .i64 (t.pos:Int),V (.regs r.length),.int .i64 t.dst]:=rfl;have r0:=cell_regrown x0;have r1:=cell_regrown x1;have r2:=cell_regrown x2;have r3:=cell_regrown x3;have r4:=cell_regrown d4;have zd:=aac d4;have Hv:=hid hv;have HN:Hid (n=r.length∧n+1<=fc∧n+1<=30):=⟨au,by rw [au];exact dG,by rw [au];exact aC⟩
     obtain⟨td,c7⟩:∃y,y=t.dst:=⟨_,rfl⟩
     have dt:=hid c7;rw [<-c7] at r4 d4
     have HS := hid (show s.end_ u x.fin = if s.frs.tail = [] then ({ s with frs := [], value := NV, state := 0 }, false) else ({ s with frs := s.frs.tail }.set t.dst NV, true) from by
      unfold RnS.end_
      rw [if_neg hk2, if_neg hk3, an, <- aR])
     rw [<-ar,<-aj];subst cU;have a8:=h.fr;have bz:=hid h.w.link;have aF:=hid a8;clear h ht an k1 k2 k3 k4 ay aY aL bV bm HW ar aj hk2 hk3 dH aR ae hv dG aC au el c7 a8;go_enter Tryd.func44,Tryd.ntmps44;go_upto_region 1 with (fail)
     rw [<-az.out.1,<-az.out.2];clear az;go_upto_region 9 with (fail)
     refine aaw (by kernel_rfl) (by kernel_rfl) ?_
     repeat (gi_big_quiet_step (fail))
     refine wpQuietIn_step (fun _ _ _ _=>trivial) (fun K hK=>?_);go_simp;refine⟨_,fun _=>dr.out _ _ _,hK _ ?_⟩;clear hK K
     repeat (gi_big_quiet_step (fail))
     refine wpQuietIn_step (fun _ _ _ _=>trivial) (fun K hK=>?_);go_simp;refine⟨_,fun q=>dq.out q _ _ _,hK _ ?_⟩;clear hK K
     repeat (gi_big_quiet_step (fail))
     refine wpQuietIn_nil ?_;intro W7 eD;obtain⟨rg,bR⟩:=eD;have bH:Below W1.heap.size W1 W7:=by rw [bR];exact below_regrown _ _ _
     have H7:=hid (H1.out.at_.later bH);clear bR bH r0 r1 r2 r3 r4 x0 x1 x2 x3 zX d4 zd dr dq H1 b5;go_upto_region 10 with (fail)
     obtain⟨-,-,aG,aI⟩:=H7.out.boxAt;have c9:=aG 9 _ rfl;rw [Aac,Hv.out,<-HN.out.1] at c9;have zW:=aac c9;have eN:(0:Int)<=(n:Int):=by omega
     have eQ:(n:Int)<=(fc:Int):=by have:=HN.out;omega
     have ew:n<=fc:=by have:=HN.out;omega
     have eU:IntKind.i64.wrap ((n:Int)+1 - 1)=(n:Int):=by have:=HN.out;rw [IntKind.wrap_i64];omega
     clear aG aI;have eC:wrap64 (n:Int)=(n:Int):=by have:=HN.out;first | go_num | (unfold wrap64;omega)
     have f9:W7.frozen? ⟨WB,9,none⟩=false:=H7.out.boxAt.2.2.2 9 (by omega);go_big_region;go_upto_region 11 with (fail)
     obtain⟨W9,aZ⟩:∃W9,W9=(W7.setCell ⟨WB,9,none⟩ (.slice (some ⟨g,0,none⟩) n fc)).drew:=⟨_,rfl⟩
     rw [<-aZ];have H9:=(H7.out.pop aF.out (g:=g) (c:=fc) Hv.out).later (Below.refl _ _).drew;rw [<-HN.out.1,<-aZ] at H9;obtain⟨V9,cJ⟩:∃V9,V9=abx V .frs (.slice (some ⟨g,0,none⟩) n fc):=⟨_,rfl⟩
     have dR:V9 .frs = .slice (some ⟨g,0,none⟩) n fc:=by rw [cJ,aai]
     rw [<-cJ] at H9;obtain⟨-,-,aG,aI⟩:=H9.boxAt;have c9:=aG 9 _ rfl;rw [Aac,dR] at c9;have c6:=aG 6 _ rfl;rw [Aac] at c6;have f6:=aI 6 (by omega);have zW:=aac c9;clear aG aI aZ cJ dR f9;cases r with
     | nil =>
       have cX:n=0:=HN.out.1;subst cX;have aX:Hid (s.end_ u x.fin=({ s with frs:=[],value:=NV,state:=0 },false)):=HS.out.trans (if_pos (by rw [aF.out];rfl));have HQ:=hid (abR (H9.putValue NV) 0);clear H9
       go_wp2_with (first
        | (go_at_call 26; refine HQ.out.mono ?_; rintro e eg ⟨rfl, hw⟩; have HF := hid hw; clear hw))
       go_ret;rw [aX.out];exact⟨rfl,_,HF.out⟩
     | cons c r' =>
       have ev:n=r'.length+1:=HN.out.1;have eO:decide (n=0)=false:=decide_eq_false (by omega);have eP:¬(n=0):=by omega
       have aX : Hid (s.end_ u x.fin = ({ s with frs := { c with regs := adG c.regs td NV } :: r' }, true)) := HS.out.trans (by
        rw [if_neg (by rw [aF.out]; intro e; cases e), <- dt.out]
        unfold RnS.set RnS.setTop RnS.top
        rw [aF.out]; rfl)
       have aT:td<(c.regs.length:Int):=by
        have h:=bz.out;rw [aF.out] at h;rw [dt.out];exact h.1
       have HQ:=hid (ac4 H9 (t:=c) (r:=r') rfl (by have:=HN.out;omega) td NV aT);clear H9 ev aT
       go_wp2_with (first
        | (go_at_call 70; refine HQ.out.mono ?_; rintro e eg ⟨rfl, hw⟩; have HF := hid hw; clear hw))
       go_ret;rw [aX.out];exact⟨rfl,_,HF.out⟩
end
end
end Go.Proofs.YtgekbfgplclmeaaDoor
