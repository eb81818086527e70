import Derived.Test.YtnkfdeiigplhoaaGreatDoorPRunE
import Derived.StillTailTactics
/- slices.Index and slices.Contains of ints. The walker jumps to a block. The walker comes to a block's end. -/
set_option maxHeartbeats 4000000
set_option maxRecDepth 100000
namespace Go.Proofs.YtnkfdeiigplhoaaGreatDoor
section
open Go.RowKit
def adf(l:List Int)(s:Int):Int:=match l.findIdx? (fun x=>decide (s=x)) with | some k=>k | none => -1
def alE(l:List Int)(s:Int):Bool:=decide (0<=adf l s)
theorem afe {S:Nat->Prop}(ao:Option Addr)(n c:Nat)(l:List Int)(s:Int)(w:World)(h:SlAt S w 1 aaO (.slice ao n c) l)(hn:l.length=n)(c3:n<=1048576) :
 Calls Tryz.prog 118 #[.slice ao n c,.int .i64 s] w fun e w'=>e = .returned (.int .i64 (adf l s))∧w=w':=by
 have Hh:=hid h;have Hn:=hid hn;clear h hn;go_enter Tryz.func118,Tryz.ntmps118;go_wp2_with fail;go_loop [8] (fun i=>∃k:Nat,k<=n∧i = .int .i64 k∧∀j,j<k->∀x,l[j]?=some x->decide (s=x)=false) (fun i=>n - (intOf i).toNat)
 case atStart=>exact⟨0,Aah _,rfl,fun j hj=>by omega⟩
 case round =>
  obtain⟨k,hk,rfl,aB⟩:=hrel;have H:=hid aB;clear aB
  by_cases dP:k<n
  . have bf:k<l.length:=by rw [Hn.out];exact dP
    obtain⟨b,off,rfl,aT⟩:=abb Hh.out bf;obtain⟨x,hx⟩:∃x,l[k]=x:=⟨_,rfl⟩
    rw [hx] at aT;have Hx:Hid (l[k]?=some x):=by show _=_;rw [Aaa bf,hx]
    have zb:b<w.heap.size:=aac aT;clear hx bf
    by_cases he:s=x
    . have Hi:Hid (adf l s=k):=by show _=_;unfold adf;rw [aex Hx.out (decide_eq_true he) H.out]
      have q0:(decide (s<=x)&&decide (x<=s))=true:=aia he;clear he;go_wp2_with fail;go_ret;exact⟨aaA Hi.out.symm,rfl⟩
    . have He:Hid (decide (s=x)=false):=decide_eq_false he
      have q0:(decide (s<=x)&&decide (x<=s))=false:=ahl he;clear he;go_wp2_with fail;go_round
      case rel=>exact⟨k+1,by omega,by go_num,abL H.out (fun y hy=>by rw [Hx.out] at hy;cases hy;exact He.out)⟩
      case measure=>simp [intOf];omega
  . have Hi:Hid (adf l s = -1):=by
     show _=_;unfold adf;rw [aew (fun j x hx=>H.out j (by have:=(Aae.1 hx).1;have:=Hn.out;omega) x hx)]
    go_wp2_with fail;go_ret;exact⟨aaA Hi.out.symm,rfl⟩
theorem afU {S:Nat->Prop}(ao:Option Addr)(n c:Nat)(l:List Int)(s:Int)(w:World)(h:SlAt S w 1 aaO (.slice ao n c) l)(hn:l.length=n)(c3:n<=1048576) :
 Calls Tryz.prog 123 #[.slice ao n c,.int .i64 s] w fun e w'=>e = .returned (.bool (alE l s))∧w=w':=by
 have H:=hid h;have Hn:=hid hn;clear h hn;go_enter Tryz.func123,Tryz.ntmps123;go_wp2_with (go_at_call 118;((with_reducible refine (afe _ _ _ _ _ _ H.out Hn.out c3).mono ?_);rintro e w' ⟨rfl,rfl⟩));go_ret;exact⟨rfl,rfl⟩
theorem akB {l:List Int}{s:Int}:alE l s=decide (s∈l):=by
 rw [Aa0];unfold alE adf;cases h:l.findIdx? (fun x=>decide (s=x)) with
 | none =>
   rw [List.findIdx?_eq_none_iff] at h;have hn:s ∉ l:=fun hm=>by have:=h s hm;simp at this
   simp [hn]
 | some k =>
   obtain⟨hk,hp,-⟩:=List.findIdx?_eq_some_iff_getElem.1 h;have hm:s∈l:=by rw [of_decide_eq_true hp];exact Aaf hk
   simp [hm]
end
section
open Go.RowKit Go.Sort
theorem aij {s : Int} : ∀ {l : List Int}, s ∈ l -> adf l s = (l.idxOf s : Int)
 | x :: l,h=>by
   by_cases e:x=s
   . subst e;unfold adf;simp [List.findIdx?_cons]
   . have hm:s∈l:=by
      rcases Aaw.1 h with h | h
      . exact absurd h.symm e
      . exact h
     have ih:=aij hm;have e':¬s=x:=fun h=>e h.symm;have e2:(x == s)=false:=by simpa using e
     unfold adf at ih ⊢;rw [List.findIdx?_cons,if_neg (by simpa using e'),List.idxOf_cons,e2];cases hq:l.findIdx? (fun x=>decide (s=x)) with
     | none=>rw [hq] at ih;dsimp only at ih;omega
     | some k =>
       rw [hq] at ih;dsimp only [Option.map_some,cond_false] at ih ⊢;omega
theorem aiw (p : afu) (n : Int) : ∀ (ps : List afu) (ns r : List Int), ps.length = ns.length -> agz (ps ++ [p]) (ns ++ [n]) r = (agz ps ns r).set p.dst.toNat n
 | [],[],_,_=>rfl
 | a :: ps,b :: ns,r,h=>by
   show agz (ps++[p]) (ns++[n]) (r.set a.dst.toNat b)=(agz ps ns (r.set a.dst.toNat b)).set _ _;exact aiw p n ps ns _ (by simpa using h)
 | [],_ :: _,_,h=>by simp at h
 | _ :: _,[],_,h=>by simp at h
theorem aou {c:List (List Int)}{k b:Nat}{l:List Int}{v:Int}(hk:c[k]?=some l)(hv:l[b]?=some v):c.set k (l.set b (v+1))=acL c k b:=by
 have bQ:=(Aae.1 hk).1;have cP:=(Aae.1 hv).1;have e1:l.set b (v+1)=l.modify b (·+1):=by
  refine Abk fun i=>?_;rw [List.getElem?_set,List.getElem?_modify]
  by_cases e:b=i
  . subst e;rw [if_pos rfl,if_pos cP,hv];simp
  . cases l[i]? <;> simp [e]
 unfold acL;rw [e1];refine Abk fun i=>?_;rw [List.getElem?_set,List.getElem?_modify]
 by_cases e:k=i
 . subst e;rw [if_pos rfl,if_pos bQ,hk];simp
 . cases c[i]? <;> simp [e]
section
variable {u : aaC} {G F A : Value} {S : Nat -> Prop} {W0 : World} {base WB : Nat} {W : World} {V : WPth -> Value} {iv : Value} {s : RnS}
theorem amK (h : aaQ u G F A S W0 base WB W V iv s) {t : RnF} {r : List RnF} {f : aao} {x z : aad} (be : s.frs = t :: r) (ht : FrW u t f x) (cm : apo f) {ad : Nat} (aY : (ad : Int) ∈ x.fin.to) (hz : f.blocks[ad]? = some z) (hn : r.length + 1 <= 30)
 {fa:Option Addr} {fl fc:Nat} (hF:F = .slice fa fl fc) {aa:Option Addr} {al ac:Nat} (hA:A = .slice aa al ac) {cl:List Int} (hc:s.cnt[t.fn]?=some cl) (ck:cl.length=f.blocks.length∧∀v∈cl,0<=v∧v<=1000000) :
 Calls Tryz.prog 84 #[.pointer (some ⟨WB,0,none⟩),.int .i64 (ad:Int)] W fun e w'=>e = .returned (.tuple #[])∧aaQ u G F A S W0 base WB w' V iv (s.jump u ad):=by
 subst hF hA;obtain⟨g,eo,hv,-,-,-,-,-⟩:=h.topAt be;have aj:=(Aae.1 ht.fn).1;have dd:=(Aae.1 ht.fn).2;have bY:=(Aae.1 hz).1;have dZ:=(Aae.1 hz).2;have cP:=(Aae.1 ht.blk).1;have hlen:fl=u.funcs.length:=by
  obtain⟨ao,c,e,-⟩:=h.rd.fs;cases e;rfl
 have bI:al=u.funcs.length:=by
  obtain⟨ao,c,e,-⟩:=h.rd.ah;cases e;rw [Aal]
 subst hlen bI;obtain⟨P,hP⟩:∃P,P=aag f.blocks 0 ad:=⟨_,rfl⟩
 have bg:((t.blk:Nat):Int)∈P:=by rw [hP];exact ama.2 ⟨t.blk,x,ht.blk,aY,by simp⟩
 have bP:adf P ((t.blk:Nat):Int)=((whence f.blocks ad t.blk:Nat):Int):=by rw [aij bg,hP];rfl
 have dO:whence f.blocks ad t.blk<P.length:=by
  show (aag f.blocks 0 ad).idxOf _<_;rw [<-hP];exact List.idxOf_lt_length_of_mem bg
 have dA:P.length<=1048576:=by
  have h1:=ac8 ad f.blocks 0 (fun y hy=>by obtain⟨i,hi,rfl⟩:=Aa1 hy;exact (cm.tgt i _ (Aaa hi)).1);have:=cm.len;rw [<-hP] at h1;omega
 -- what is read
 obtain⟨ab,af,cs,rfl,-,⟨v1,rfl,cx⟩,-,bL⟩:=h.rd.ah.get (k:=t.fn) (by rw [Aal];exact aj);rw [List.getElem_map,dd] at cx;have aL:(aheadF f.blocks).length=f.blocks.length:=by unfold aheadF;rw [Aal,List.length_range]
 obtain⟨ba,bc,rfl,-⟩:=cx.val;obtain⟨bb,aK,en,rfl,-,⟨v2,rfl,cy⟩,-,aC⟩:=cx.get (k:=ad) (by rw [aL];exact bY);have dz:(aheadF f.blocks)[ad]'(by rw [aL];exact bY)=P:=by
  unfold aheadF;rw [List.getElem_map,List.getElem_range,hP]
 rw [dz] at cy;obtain⟨pa,pc,rfl,-⟩:=cy.val;obtain⟨fb,ag,xa,xc,rfl,a8,dj,-,-⟩:=acF h.rd.fs aj;rw [dd] at a8 dj;obtain⟨xb,aQ,b0,bu,la,lc,ta,tc,rfl,bd,c8,-,-,-,-⟩:=afy dj bY;rw [dZ] at bd c8;have a1:=bL 0 _ rfl;have a2:=aC 0 _ rfl;rw [Aa2,Aan] at a1 a2;rw [aL] at a1;obtain⟨-,-,-,f3⟩:=a8.get4;obtain⟨x0,-⟩:=bd.get6;obtain⟨-,zb,aH,-⟩:=h.boxAt;have c1:=aH 1 _ rfl;have c2:=aH 2 _ rfl;rw [Aab] at c1 c2;obtain⟨g',aA,aE,-,-,-,ae,-⟩:=h.topAt be;rw [hv] at aE;cases aE;have t0:=ae 0 _ rfl;have t1:=ae 1 _ rfl;rw [Aa2] at t0
 have HX : Hid (∀ V1, Below W.heap.size W V1 -> V1.cell? ⟨WB, 1, none⟩ = some (.slice (some ⟨fb, ag, none⟩) u.funcs.length fc) ∧ V1.cell? ⟨WB, 2, none⟩ = some (.slice (some ⟨ab, af, none⟩) u.funcs.length ac) ∧ V1.cell? ⟨g, r.length * 5, none⟩ = some (.int .i64 (t.fn : Int)) ∧ V1.cell? ⟨g, r.length * 5 + 1, none⟩ = some (.int .i64 (t.blk : Int)) ∧
  V1.cell? ⟨ab, af + t.fn, none⟩ = some (.slice (some ⟨bb, aK, none⟩) f.blocks.length bc) ∧ V1.cell? ⟨bb, aK + ad, none⟩ = some (.slice pa P.length pc) ∧ V1.cell? ⟨fb, ag + t.fn * 4 + 3, none⟩ = some (.slice (some ⟨xb, aQ, none⟩) f.blocks.length xc) ∧ V1.cell? ⟨xb, aQ + ad * 6, none⟩ = some (.slice b0 z.phis.length bu) ∧
  SlAt S V1 1 aaO (.slice pa P.length pc) P ∧ SlAt S V1 2 ag4 (.slice b0 z.phis.length bu) z.phis ∧ aaQ u G (.slice (some ⟨fb, ag, none⟩) u.funcs.length fc) (.slice (some ⟨ab, af, none⟩) u.funcs.length ac) S W0 base WB V1 V iv s) := fun V1 hb =>
  ⟨aab c1 hb,aab c2 hb,aab t0 hb,aab t1 hb,aab a1 hb,aab a2 hb,aab f3 hb,aab x0 hb,cy.later aae hb,c8.later aa0 hb,h.later hb⟩
 have HT:=hid (agr h hv hn);obtain⟨n,au⟩:∃n,n=r.length:=⟨_,rfl⟩
 obtain⟨L,b9⟩:∃L,L=u.funcs.length:=⟨_,rfl⟩
 obtain⟨bn,ch⟩:∃m,m=f.blocks.length:=⟨_,rfl⟩
 obtain⟨pn,bS⟩:∃m,m=P.length:=⟨_,rfl⟩
 obtain⟨np,c5⟩:∃m,m=z.phis.length:=⟨_,rfl⟩
 obtain⟨fn,aN⟩:∃m,m=t.fn:=⟨_,rfl⟩
 obtain⟨tb,cv⟩:∃m,m=t.blk:=⟨_,rfl⟩
 obtain⟨k0,cq⟩:∃m,m=whence f.blocks ad t.blk:=⟨_,rfl⟩
 have bA : Hid (∀ V1, Below W.heap.size W V1 -> V1.cell? ⟨WB, 1, none⟩ = some (.slice (some ⟨fb, ag, none⟩) L fc) ∧ V1.cell? ⟨WB, 2, none⟩ = some (.slice (some ⟨ab, af, none⟩) L ac) ∧ V1.cell? ⟨g, n * 5, none⟩ = some (.int .i64 (fn : Int)) ∧ V1.cell? ⟨g, n * 5 + 1, none⟩ = some (.int .i64 (tb : Int)) ∧
  V1.cell? ⟨ab, af + fn, none⟩ = some (.slice (some ⟨bb, aK, none⟩) bn bc) ∧ V1.cell? ⟨bb, aK + ad, none⟩ = some (.slice pa pn pc) ∧ V1.cell? ⟨fb, ag + fn * 4 + 3, none⟩ = some (.slice (some ⟨xb, aQ, none⟩) bn xc) ∧ V1.cell? ⟨xb, aQ + ad * 6, none⟩ = some (.slice b0 np bu) ∧
  SlAt S V1 1 aaO (.slice pa pn pc) P ∧ SlAt S V1 2 ag4 (.slice b0 np bu) z.phis ∧ aaQ u G (.slice (some ⟨fb, ag, none⟩) u.funcs.length fc) (.slice (some ⟨ab, af, none⟩) u.funcs.length ac) S W0 base WB V1 V iv s) := by rw [au, b9, ch, bS, c5, aN, cv]; exact HX.out
 rw [<-au] at HT;have HI:Hid (adf P (tb:Int)=(k0:Int)):=by rw [cv,cq];exact bP
 have cA:Hid (P.length=pn∧pn<=1048576):=⟨bS.symm,by rw [bS];exact dA⟩
 have ev:(fn:Int)<(L:Int):=by rw [aN,b9];omega
 have eD:(ad:Int)<(bn:Int):=by rw [ch];omega
 have eY:(0:Int)<=(ad:Int):=by omega
 have HK:Hid (fn=t.fn∧tb=t.blk∧k0=whence f.blocks ad t.blk∧np=z.phis.length∧n=r.length∧k0<pn∧L=u.funcs.length∧bn=f.blocks.length∧P=aag f.blocks 0 ad):=⟨aN,cv,cq,c5,au,by rw [cq,bS];exact dO,b9,ch,hP⟩
 have aG:=hid be;have Ht:=hid ht;have bB:=hid cm;have Hz:=hid hz;have Hn:=hid hn;have Hc:=hid hc;have dw:=hid ck;have Hv:=hid hv;have HL:Hid (t.fn<u.funcs.length∧ad<f.blocks.length):=⟨aj,bY⟩
 clear h be ht cm aY hz hn hc ck hv aj dd bY dZ cP hP bg bP dO dA bL cx aL aC dz cy a8 dj bd c8 a1 a2 f3 x0 zb aH c1 c2 ae t0 t1 HX au b9 ch bS c5 aN cv cq;go_enter Tryz.func84,Tryz.ntmps84;go_upto_region 1 with (go_at_call 53;refine HT.out.mono ?_;rintro e W1 ⟨rfl,aM⟩;have b5:=hid aM;clear aM)
 obtain⟨c1,c2,t0,t1,a1,a2,f3,x0,s1,s2,h1⟩:=bA.out W1 b5.out;have z1:=aac c1;have z2:=aac t0;have z3:=aac a1;have z4:=aac a2;have z5:=aac f3;have z6:=aac x0;have k1:=cell_regrown c1;have k2:=cell_regrown c2;have k3:=cell_regrown t0;have k4:=cell_regrown t1;have k5:=cell_regrown a1;have k6:=cell_regrown a2;have dt:Hid (∀m d os,CallsIn Fence.wide m Tryz.prog 118 #[.slice pa pn pc,.int .i64 (tb:Int)] (grow (redrawn W1 d) os) fun e bz=>e = .returned (.int .i64 (k0:Int))∧∃p:Regrown,bz=grow (redrawn W1 p.d) p.os):=fun m d os=>by
  have hh:=afe pa pn pc P (tb:Int) (grow (redrawn W1 d) os) (s1.later aae (below_regrown W1 d os)) cA.out.1 cA.out.2;rw [HI.out] at hh;exact CallsIn.regrown_of (callsIn_wide (n:=m).2 (hh.mono fun e bz ⟨e1,e2⟩=>⟨e1,by rw [<-e2];exact Below.refl _ _⟩))
 clear s1 s2 h1;refine aaD (by kernel_rfl) (by kernel_rfl) ?_
 repeat (gi_big_quiet_step (fail))
 refine wpQuietIn_step (fun _ _ _ _=>trivial) (fun K hK=>?_);go_simp;refine⟨_,fun _=>dt.out _ _ _,hK _ ?_⟩;clear hK K
 repeat (gi_big_quiet_step (fail))
 refine wpQuietIn_nil ?_;intro W2 eG;obtain⟨rg,bT⟩:=eG;have dF:Below W1.heap.size W1 W2:=by rw [bT];exact below_regrown _ _ _
 have cC:Hid (Below W.heap.size W W2):=b5.out.trans (dF.mono b5.out.size);clear bT dF c1 c2 t0 t1 a1 a2 f3 x0 k1 k2 k3 k4 k5 k6 z1 z2 z3 z4 z5 z6 dt b5;obtain⟨c1,-,t0,-,-,-,f3,x0,-,-,-⟩:=bA.out W2 cC.out;have z1:=aac c1;have z2:=aac t0;have z5:=aac f3;have z6:=aac x0;go_upto_region 2 with (fail)
 go_quiet (fail);go_upto_region 5 with (fail)
 obtain⟨W3,cM⟩:∃W3,W3=W2.drewN nq:=⟨_,rfl⟩
 have dG:Below W2.heap.size W2 W3:=by rw [cM];exact bE
 rw [<-cM];have cD:Hid (Below W.heap.size W W3):=cC.out.trans (dG.mono cC.out.size);clear cM dG c1 t0 f3 x0 z1 z2 z5 z6;obtain⟨NX,cI⟩:∃NX:List Int,NX=z.phis.map fun p=>aaS t.regs (p.src.getD k0 ⟨false,0⟩):=⟨_,rfl⟩
 have dr:Hid (NX=z.phis.map fun p=>aaS t.regs (p.src.getD k0 ⟨false,0⟩)):=cI;have aR:Hid (NX.length=np):=by show _=_;rw [cI,Aal];exact HK.out.2.2.2.1.symm
 clear cI;have c7:np<=300:=by
  have h1:=(bB.out.many z (Aam Hz.out)).1;have:=HK.out.2.2.2.1;omega
 obtain⟨i0,ey,dk,dm,dn⟩:=info_parts acA;go_loopw [7,50] (fun s7 s50 wr=>∃k:Nat,k<=np∧s50 = .int .i64 (k:Int)∧aaz W3.heap.size wr s7 (NX.take k)∧Below W3.heap.size W3 wr) (fun _ s50 _=>np - (intOf s50).toNat)
 case atStart=>exact⟨0,Aah _,rfl,aaz.nil _ _,Below.refl _ _⟩
 case round =>
  obtain⟨k,hk,rfl,ak,hb⟩:=hrel;have Hb:=hid hb;have b6:Hid (Below W.heap.size W wr):=cD.out.trans (hb.mono cD.out.size)
  by_cases bQ:k<np
  . have aV:(NX.take k).length=k:=by rw [Aar,aR.out];omega
    obtain⟨va,vc,he⟩:=ak.shape;rw [aV] at he;subst he;have bD:Hid (∀W5,Below wr.heap.size wr W5->W5.ownsRow W3.heap.size 3 1 (.slice va k vc) k ((NX.take k).map (Value.int .i64))):=fun W5 aq=>by
     have h:=(ak.later aq).1;rw [aV] at h;exact h
    have bF:Hid (∀y∈NX.take k,I64 y):=ak.2;obtain⟨-,-,-,-,-,-,-,-,-,s2,h1⟩:=bA.out wr b6.out;have cr:k<z.phis.length:=by rw [<-HK.out.2.2.2.1];exact bQ
    obtain⟨pb,b3,cs,rfl,-,⟨sv,rfl,bl,-⟩,-,aI⟩:=s2.get cr;obtain⟨sa,sc,rfl,-⟩:=bl.val;obtain⟨p0,p1⟩:=aI.get2;have dU:z.phis[k]∈z.phis:=Aaf cr;obtain⟨-,bt,dh⟩:=bB.out.phi _ z Hz.out _ dU;obtain⟨pd,dT⟩:∃d,d=z.phis[k].dst:=⟨_,rfl⟩
    obtain⟨src,bk⟩:∃l,l=z.phis[k].src:=⟨_,rfl⟩
    rw [<-dT] at p0;rw [<-bk] at p1 bl bt dh;have aO:k0<src.length:=by rw [bt,<-HK.out.2.2.2.2.2.2.2.2,cA.out.1];exact HK.out.2.2.2.2.2.1
    obtain⟨vb,b4,en,rfl,-,⟨rfl,dQ⟩,-,aC⟩:=bl.get aO;obtain⟨q0,q1⟩:=aC.get2;have bW:=dh _ (Aaf aO);obtain⟨sl,bj⟩:∃n,n=src.length:=⟨_,rfl⟩
    obtain⟨vr,cz⟩:∃b,b=src[k0].reg:=⟨_,rfl⟩
    obtain⟨vn,bV⟩:∃n,n=src[k0].n:=⟨_,rfl⟩
    rw [<-bj] at p1;rw [<-cz] at q0;rw [<-bV] at q1;obtain⟨X,hX⟩:∃X,X=aaS t.regs ⟨vr,vn⟩:=⟨_,rfl⟩
    have bH:NX[k]?=some X:=by
     rw [dr.out,Aak,Aaa cr];show some (aaS t.regs (z.phis[k].src.getD k0 ⟨false,0⟩))=_;rw [<-bk,Aac,Aaa aO,hX,cz,bV];rfl
    have dY:vr=true->0<=vn∧vn<(t.regs.length:Int):=fun e=>by
     rw [cz] at e;have:=bW e;have h2:=Ht.out.regs;have h3:=bB.out.pr;rw [bV];omega
    have HV:Hid (∀W5,Below wr.heap.size wr W5->Calls Tryz.prog 85 #[.pointer (some ⟨WB,0,none⟩),.agg #[.bool vr,.int .i64 vn]] W5 fun e w'=>e = .returned (.int .i64 X)∧Below W5.heap.size W5 w'):=fun W5 aq=>by
     rw [hX];exact akb (h1.later aq) aG.out Hn.out vr vn dY
    have ei:Hid (I64 X):=by
     show I64 X;rw [hX];exact aaP Ht.out.num (by rw [bV];exact dQ)
    have ez:(k0:Int)<(sl:Int):=by rw [bj];omega
    have zp:=aac p0;have zq:=aac q0;have cB:=hid bH;clear s2 h1 dQ bl aI aC bt dh bW dT bk bj cz bV hX bH dY ak hb dU aO cr;go_upto_region 7 with (fail)
    obtain⟨W4,cb⟩:∃W4,W4=wr.alloc (.cells #[.int .i64 pd,.slice (some ⟨vb,b4,none⟩) sl sc] 114):=⟨_,rfl⟩
    have cg:Below wr.heap.size wr W4:=by rw [cb];exact bE
    have cF:W4.heap[wr.heap.size]?=some (.cells #[.int .i64 pd,.slice (some ⟨vb,b4,none⟩) sl sc] 114 (0,0)):=by rw [cb];exact heap_alloc_new _ _
    rw [<-cb];obtain⟨PB,bG⟩:∃PB,PB=wr.heap.size:=⟨_,rfl⟩
    rw [<-bG] at cF ⊢;obtain⟨y0,y1⟩:=(aah (cs:=[_,_]) cF).get2;rw [Aab] at y1;have zy:=aac y0;have q0:=aab q0 cg;have q1:=aab q1 cg;have zq:=aac q0;have cE:=hid cg;clear cb cg cF bG p0 p1 zp
    go_upto_region 8 with (first
     | (go_at_call 85; refine (HV.out W4 cE.out).mono ?_; rintro e W5 ⟨rfl, aq⟩; have aF : Hid (Below wr.heap.size wr W5) := cE.out.trans (aq.mono cE.out.size); clear aq)
     | (refine wpList_append_own_at _ rfl (.tmp 54) (.tmp 62) 26 rfl W3.heap.size 3 i0 _ 1 8 Tryz.underlying26 ey dk dm dn rfl (by decide) (.slice va k vc) k ((NX.take k).map (Value.int .i64)) rfl (bD.out _ (by have h := aF.out; exact bE1 h)) ⟨W5.heap.size, 0, none⟩ 1 1 [.int .i64 X] rfl rfl ?_ ?_ ?_ ?_ ?_ ?_
        . intro j v hj
          match j, hj with
          | 0, hj => cases hj; rw [Addr.add_lit]; simp
        . intro v hv
          rw [Aaq.1 hv]; rfl
        . unfold maxLen; omega
        . omega
        . have h1 := Hb.out.size
          have h2 := aF.out.size
          simp
          omega
        intro v' w' aW aU c4 er
        have ef := hid aW
        have HG : Hid (Below W3.heap.size W3 w') := by
         refine Below.grown ?_ aU ?_ ?_
         . exact Hb.out.trans ((aF.out.alloc aF.out.size _).mono Hb.out.size)
         . exact (Hb.out.trans ((aF.out.alloc aF.out.size _).mono Hb.out.size)).size
         . exact fun q hq => ((bD.out wr (Below.refl _ _)).lt q hq).1
        clear aW aU c4 er))
    have eh:Hid (aaz W3.heap.size w' v' (NX.take (k+1))):=by
     have dN:k<NX.length:=by rw [aR.out];exact bQ
     have dE:=cB.out;rw [Aaa dN] at dE;have e:NX.take (k+1)=NX.take k++[X]:=by rw [Aat dN,Option.some.inj dE]
     refine⟨?_,fun y hy=>?_⟩
     . rw [e,Aai,Aav,Aar,aR.out,Abr (by omega)]
       exact ef.out
     . rw [e] at hy
       rcases Aaz.1 hy with hy | hy
       . exact bF.out y hy
       . rw [Aaq.1 hy];exact ei.out
    go_wp2_with fail;go_roundw
    case rel=>exact⟨k+1,by omega,by go_num,eh.out,HG.out⟩
    case measure=>simp [intOf];omega
  . have eA:k=np:=by omega
    subst eA;have aV:(NX.take k).length=k:=by rw [Aar,aR.out];omega
    obtain⟨va,vc,he⟩:=ak.shape;rw [aV] at he;subst he;have aB:NX.take k=NX:=by rw [<-aR.out,Aay]
    rw [aB] at ak;obtain⟨-,-,-,-,-,-,-,-,-,s2,h1⟩:=bA.out wr b6.out;have aX:SlAt (fun b=>W3.heap.size<=b) wr 1 aaO (.slice va k vc) NX:=by
     have h:=ak.sl;exact h.mono aae (fun b hb=>hb.1) (aav.refl _ _)
    obtain⟨wo,di⟩:∃wo:World,wo=wr:=⟨_,rfl⟩
    rw [<-di] at s2 h1 aX ⊢;have eN:Hid (Below W.heap.size W wo):=by rw [di];exact b6.out
    have eg:Hid (∀b,(V (.regs r.length)).ownBlock=some b->b<W3.heap.size):=fun b hb=>by
     obtain⟨-,-,-,-,-,-,-,-,-,-,h0⟩:=bA.out W (Below.refl _ _);have:=(h0.rows.lt (p := .regs r.length) (by rw [aG.out];exact Abc _) b hb).2;have:=cD.out.size;omega
    clear ak hb aB aV hk bQ Hb b6 di;have dy:aaQ u G (.slice (some ⟨fb,ag,none⟩) u.funcs.length fc) (.slice (some ⟨ab,af,none⟩) u.funcs.length ac) S W0 base WB wo V iv { s with frs:={ t with regs:=agz (z.phis.take 0) (NX.take 0) t.regs } :: r }:=by
     have e:({ s with frs:={ t with regs:=agz (z.phis.take 0) (NX.take 0) t.regs } :: r }:RnS)=s:=by
      show ({ s with frs:=t :: r }:RnS)=s;rw [<-aG.out]
     rw [e];exact h1
    have ej:=hid s2;have H1:=hid dy;have ek:=hid aX;clear h1 dy s2 aX;go_upto_region 10 with (fail)
    go_loopw [67] (fun s67 wr=>∃j:Nat,j<=k∧s67 = .int .i64 (j:Int)∧aaQ u G (.slice (some ⟨fb,ag,none⟩) u.funcs.length fc) (.slice (some ⟨ab,af,none⟩) u.funcs.length ac) S W0 base WB wr V iv { s with frs:={ t with regs:=agz (z.phis.take j) (NX.take j) t.regs } :: r }∧SlAt (fun b=>W3.heap.size<=b) wr 1 aaO (.slice va k vc) NX∧SlAt S wr 2 ag4 (.slice b0 k bu) z.phis) (fun s67 _=>k - (intOf s67).toNat)
    case atStart=>exact⟨0,Aah _,rfl,H1.out,ek.out,ej.out⟩
    case round =>
     obtain⟨j,hj,rfl,hw,aX,cu⟩:=hrel
     by_cases hjk:j<k
     . have cp:j<z.phis.length:=by rw [<-HK.out.2.2.2.1];exact hjk
       obtain⟨pb,b3,cs,rfl,-,⟨sv,rfl,bl,-⟩,-,aI⟩:=cu.get cp;obtain⟨sa,sc,rfl,-⟩:=bl.val;obtain⟨p0,p1⟩:=aI.get2;obtain⟨⟨dI,dJ⟩,-,-⟩:=bB.out.phi _ z Hz.out _ (Aaf cp);obtain⟨q,hq⟩:∃q:Nat,z.phis[j].dst=(q:Int):=Aas dI;rw [hq] at p0 dJ;obtain⟨R1,ca⟩:∃R1,R1=agz (z.phis.take j) (NX.take j) t.regs:=⟨_,rfl⟩
       rw [<-ca] at hw;have ep:R1.length=t.regs.length:=by rw [ca,ahA]
       have ct:q<R1.length:=by have:=Ht.out.regs;have:=bB.out.pr;omega
       obtain⟨RB,rc,hR,-,-,-,-,aJ⟩:=hw.numAt (p := .regs r.length) (show r.length<r.length+1 from Abc _) rfl (l:=R1) (by show aaF (({ t with regs:=R1 } :: r).reverse.getD r.length RnF.none).regs=_;rw [abV]) (Aaa ct);obtain⟨g',aA,aE,-,-,-,ae,-⟩:=hw.topAt (t:={ t with regs:=R1 }) (r:=r) rfl;rw [Hv.out] at aE;cases aE;have t3:=ae 3 _ rfl;rw [hR,<-HK.out.2.2.2.2.1] at t3;have cT:j<NX.length:=by rw [aR.out];exact hjk
       obtain⟨nb,bZ,eP,rfl,-,⟨rfl,-⟩,-,bM⟩:=aX.get cT;have n0:=bM 0 _ rfl;rw [Aa2,Aan] at n0;obtain⟨X,hX⟩:∃X,X=NX[j]:=⟨_,rfl⟩
       rw [<-hX] at n0;obtain⟨rl,da⟩:∃m,m=R1.length:=⟨_,rfl⟩
       rw [<-da] at t3;obtain⟨sl,bt⟩:∃m,m=z.phis[j].src.length:=⟨_,rfl⟩
       rw [<-bt] at p1;have cJ:RB<W3.heap.size:=eg.out RB (by rw [hR];rfl);have dC:¬S RB:=hw.off (.regs r.length) (show r.length<r.length+1 from Abc _) RB (by rw [hR];rfl);have dV:agz (z.phis.take (j+1)) (NX.take (j+1)) t.regs=R1.set q X:=by
        rw [Aat cp,Aat cT,aiw _ _ _ _ _ (by rw [Aar,Aar,aR.out,<-HK.out.2.2.2.1]),<-ca,hq,hX,Aaj]
       have HF : Hid (∀ W', Below wr.heap.size wr W' -> W'.cell? ⟨g, n * 5 + 3, none⟩ = some (.slice (some ⟨RB, 0, none⟩) rl rc) ∧ W'.cell? ⟨nb, bZ + j, none⟩ = some (.int .i64 X) ∧ (∃ y : Int, W'.cell? ⟨RB, q, none⟩ = some (.int .i64 y)) ∧ W'.frozen? ⟨RB, q, none⟩ = false ∧
        aaQ u G (.slice (some ⟨fb, ag, none⟩) u.funcs.length fc) (.slice (some ⟨ab, af, none⟩) u.funcs.length ac) S W0 base WB (W'.setCell ⟨RB, q, none⟩ (.int .i64 X)) V iv { s with frs := { t with regs := agz (z.phis.take (j + 1)) (NX.take (j + 1)) t.regs } :: r } ∧ SlAt (fun b => W3.heap.size <= b) (W'.setCell ⟨RB, q, none⟩ (.int .i64 X)) 1 aaO (.slice (some ⟨nb, bZ, none⟩) k vc) NX ∧ SlAt S (W'.setCell ⟨RB, q, none⟩ (.int .i64 X)) 2 ag4 (.slice (some ⟨pb, b3, none⟩) k bu) z.phis) := fun W' hb => by
        have dX:=hw.later hb;obtain⟨eO,e0,dB,-,-,-,cQ,cS⟩:=dX.numAt (p := .regs r.length) (show r.length<r.length+1 from Abc _) rfl (l:=R1) (by show aaF (({ t with regs:=R1 } :: r).reverse.getD r.length RnF.none).regs=_;rw [abV]) (Aaa ct);rw [hR] at dB;cases dB;have bR:∀b o v,b≠RB->W'.cell? ⟨b,o,none⟩=some v->(W'.setCell ⟨RB,q,none⟩ (.int .i64 X)).cell? ⟨b,o,none⟩=some v:=fun b o v au hc=>by
         rw [World.cell?_of_block (w:=W') (Below.heap_setCell _ _ _ _ (fun e=>au e))];exact hc
        refine⟨aab t3 hb,aab n0 hb,⟨_,cQ⟩,cS,?_,(aX.later aae hb).mono aae (fun _ h=>h) (fun b o v hS hc=>bR b o v (fun e=>by omega) hc),(cu.later aa0 hb).mono aa0 (fun _ h=>h) (fun b o v hS hc=>bR b o v (fun e=>dC (e ▸ hS)) hc)⟩;rw [dV];exact dX.putReg (t:={ t with regs:=R1 }) (r:=r) rfl hR ct X
       have eQ:(j:Int)<(k:Int):=by omega
       have eV:(q:Int)<(rl:Int):=by rw [da];omega
       have eU:(0:Int)<=(q:Int):=by omega
       have zp:=aac p0;clear hw aX cu bl aI dI dJ hq ca ep ct hR aJ ae bM hX da bt dV cp cT cJ dC t3 n0;go_upto_region 12 with (fail)
       obtain⟨W6,cf⟩:∃W6,W6=wr.alloc (.cells #[.int .i64 (q:Int),.slice sa sl sc] 114):=⟨_,rfl⟩
       have cO:Below wr.heap.size wr W6:=by rw [cf];exact bE
       have cG:W6.heap[wr.heap.size]?=some (.cells #[.int .i64 (q:Int),.slice sa sl sc] 114 (0,0)):=by rw [cf];exact heap_alloc_new _ _
       rw [<-cf];obtain⟨PB,bG⟩:∃PB,PB=wr.heap.size:=⟨_,rfl⟩
       rw [<-bG] at cG ⊢;obtain⟨y0,-⟩:=(aah (cs:=[_,_]) cG).get2;obtain⟨t3,n0,⟨yy,m0⟩,m1,-,-,-⟩:=HF.out W6 cO;have zt:=aac t3;have zn:=aac n0;have zm:=aac m0;have zy:=aac y0;have ds:=hid cO;clear cf cO cG bG p0 p1 zp;go_still_tail 11,(by kernel_rfl);change wpList _ _ _ _ _ W6.drew;obtain⟨W7,cN⟩:∃W7:World,W7=W6.drew:=⟨_,rfl⟩
       have bJ:Below W6.heap.size W6 W7:=by rw [cN];exact (Below.refl _ _).drew
       rw [<-cN];obtain⟨-,-,⟨yz,eJ⟩,eZ,G1,G2,G3⟩:=HF.out W7 (ds.out.trans (bJ.mono ds.out.size));have e5:=aac eJ;have ec:=hid G1;have ed:=hid G2;have ee:=hid G3;clear cN bJ t3 n0 m0 m1 y0 zt zn zm zy HF G1 G2 G3;go_wp2_with fail;go_roundw
       case rel=>exact⟨j+1,by omega,by go_num,ec.out,ed.out,ee.out⟩
       case measure=>simp [intOf];omega
     . have cU:j=k:=by omega
       subst cU;have e1:z.phis.take j=z.phis:=by rw [show j=z.phis.length from HK.out.2.2.2.1,Aay]
       have e2:NX.take j=NX:=by rw [<-aR.out,Aay]
       rw [e1,e2] at hw;obtain⟨RZ,cK⟩:∃RZ,RZ=agz z.phis NX t.regs:=⟨_,rfl⟩
       rw [<-cK] at hw;have ew:base<=g∧g<wr.heap.size:=by
        have:=hw.rows.lt (p := .frs) trivial g (by rw [Hv.out];rfl);exact this
       obtain⟨g',aA,aE,-,-,-,ae,aJ⟩:=hw.topAt (t:={ t with regs:=RZ }) (r:=r) rfl;rw [Hv.out] at aE;cases aE;have b1:=ae 1 _ rfl;have b2:=ae 2 _ rfl;have f1:=aJ 1 (by omega);have f2:=aJ 2 (by omega);have dR:=hw.putTop (t:={ t with regs:=RZ }) (t':={ t with regs:=RZ,blk:=ad }) (r:=r) rfl Hv.out (j:=1) (by omega) (.int .i64 (ad:Int)) rfl rfl;have dS:=dR.putTop (t:={ t with regs:=RZ,blk:=ad }) (t':={ t with regs:=RZ,blk:=ad,pos:=0 }) (r:=r) rfl Hv.out (j:=2) (by omega) (.int .i64 0) rfl rfl;have bO:({ t with regs:=RZ,blk:=ad,pos:=0 }:RnF)=aed u ad t:=by
        unfold aed agC;have hb:aeQ u t.fn ad=z:=by
         unfold aeQ;rw [Ht.out.funcR,Aac,Hz.out];rfl
        rw [hb,Ht.out.funcR,<-HK.out.2.2.1,<-dr.out,<-cK]
       have bh:aaQ u G (.slice (some ⟨fb,ag,none⟩) u.funcs.length fc) (.slice (some ⟨ab,af,none⟩) u.funcs.length ac) S W0 base WB ((wr.setCell ⟨g,r.length * 5+1,none⟩ (.int .i64 (ad:Int))).setCell ⟨g,r.length * 5+2,none⟩ (.int .i64 0)) V iv { s with frs:=aed u ad t :: r }:=by rw [<-bO];exact dS
       rw [<-HK.out.2.2.2.2.1] at b1 b2 f1 f2 bh;have zg:=aac b1;have HP:=hid bh;clear hw aX cu cK ew ae aJ dR dS bO bh e1 e2;go_upto_region 15 with (fail)
       obtain⟨W8,dD⟩:∃W8,W8=(wr.setCell ⟨g,n * 5+1,none⟩ (.int .i64 (ad:Int))).setCell ⟨g,n * 5+2,none⟩ (.int .i64 0):=⟨_,rfl⟩
       have H8:=HP.out;rw [<-dD] at H8 ⊢;clear dD HP b1 b2 f1 f2 zg;obtain⟨g',aA,aE,-,-,-,ae,-⟩:=H8.topAt (t:=aed u ad t) (r:=r) rfl;rw [Hv.out] at aE;cases aE;have t0:W8.cell? ⟨g,n * 5,none⟩=some (.int .i64 (fn:Int)):=by
        have h:=ae 0 _ rfl;rw [Aa2,<-HK.out.2.2.2.2.1] at h;rw [HK.out.1];exact h
       obtain⟨-,eL,bK,-⟩:=H8.boxAt;have cV:t.fn<s.cnt.length:=(Aae.1 Hc.out).1;have dM:okW (r.length+1) s.cnt.length (.cnt t.fn):=cV;have db:ad<cl.length:=by rw [dw.out.1];exact HL.out.2
       obtain⟨v0,cw⟩:∃v0,cl[ad]?=some v0:=⟨cl[ad],Aaa db⟩
       obtain ⟨CB, cc, bN, -, -, -, cj, dH⟩ := H8.numAt (p := .cnt t.fn) dM rfl (l := cl) (by
        show aaF (s.cnt.getD t.fn []) = _
        rw [Aac, Hc.out]; rfl) cw
       have aI:(walkC G (.slice (some ⟨fb,ag,none⟩) u.funcs.length fc) (.slice (some ⟨ab,af,none⟩) u.funcs.length ac) iv V { s with frs:=aed u ad t :: r } .cnts)[t.fn]?=some [V (.cnt t.fn)]:=by
        show ((List.range s.cnt.length).map fun k=>[V (.cnt k)])[t.fn]?=_;rw [Aak,Aa4 cV];rfl
       obtain⟨TB,e4,dg,-,-,-,aP,-⟩:=H8.rows.cell (p := .cnts) trivial aI (j:=0) (u:=V (.cnt t.fn)) rfl;have aj:(walkC G (.slice (some ⟨fb,ag,none⟩) u.funcs.length fc) (.slice (some ⟨ab,af,none⟩) u.funcs.length ac) iv V { s with frs:=aed u ad t :: r } .cnts).length=s.cnt.length:=by
        show ((List.range s.cnt.length).map fun k=>[V (.cnt k)]).length=_;rw [Aal,List.length_range]
       rw [aj] at dg;have bU:WPth.cnts.sz=1:=rfl;rw [bU,Aan,Aa2,bN,<-HK.out.1] at aP;have b8:=bK 10 _ rfl;rw [Aab,dg] at b8;have zT:=aac aP;have zC:=aac cj;have zB:=aac b8;have zg:=aac t0;have eF:=dw.out.2 v0 (Aam cw);have eW:IntKind.i64.wrap (v0+1)=v0+1:=by rw [IntKind.wrap_i64];omega
       obtain⟨CL,cH⟩:∃m,m=s.cnt.length:=⟨_,rfl⟩
       obtain⟨cn,cR⟩:∃m,m=cl.length:=⟨_,rfl⟩
       have eu:(fn:Int)<(CL:Int):=by have:=HK.out.1;rw [cH];omega
       have eE:(ad:Int)<(cn:Int):=by rw [cR];omega
       rw [<-cH] at b8;rw [<-cR] at aP;have HF:Hid (∀W9,Below W8.heap.size W8 W9->W9.cell? ⟨CB,ad,none⟩=some (.int .i64 v0)∧W9.frozen? ⟨CB,ad,none⟩=false∧aaQ u G (.slice (some ⟨fb,ag,none⟩) u.funcs.length fc) (.slice (some ⟨ab,af,none⟩) u.funcs.length ac) S W0 base WB (W9.setCell ⟨CB,ad,none⟩ (.int .i64 (v0+1))) V iv (s.jump u ad)):=fun W9 br=>by
        refine⟨aab cj br,by rw [World.frozen?_of_block (w:=W8) (br.block CB (aac cj))];exact dH,?_⟩;have h:=(H8.later br).putCnt (k:=t.fn) (l:=cl) Hc.out bN (d:=ad) db (v0+1);have e:({ ({ s with frs:=aed u ad t :: r }:RnS) with cnt:=s.cnt.set t.fn (cl.set ad (v0+1)) }:RnS)=s.jump u ad:=by
         unfold RnS.jump RnS.setTop RnS.top;rw [aG.out,aou Hc.out cw];rfl
        rw [<-e];exact h
       clear H8 ae bK cV dM db bN aI dg aj bU cw cH cR eL;go_still_tail 15,(by kernel_rfl);change wpList _ _ _ _ _ W8.drew;obtain⟨W9,a7⟩:∃W9:World,W9=W8.drew:=⟨_,rfl⟩
       have br:Below W8.heap.size W8 W9:=by rw [a7];exact (Below.refl _ _).drew
       rw [<-a7];obtain⟨m0,m1,HG⟩:=HF.out W9 br;have zm:=aac m0;have eb:=hid HG;clear a7 br HF HG t0 aP cj b8 zT zC zB zg dH;go_wp2_with fail;go_end0;exact⟨rfl,eb.out⟩
end
end
section
open Go.RowKit Go.Sort
structure adW (u:aaC)(G F A:Value)(S:Nat->Prop)(W0:World)(base WB:Nat)(W:World)(V:WPth->Value)(iv:Value)(s:RnS)(t:RnF)(r:List RnF)(f:aao)(x:aad):Prop where
 at_:aaQ u G F A S W0 base WB W V iv s
 fr:s.frs=t :: r
 fw:FrW u t f x
 chk:aal u=(0,0)
 num:ajv u
 w:RnW u s
 fF:∃fa fl fc,F = .slice fa fl fc
 fA:∃aa al ac,A = .slice aa al ac
 steps:s.steps<=100001
section
variable {u : aaC} {G F A : Value} {S : Nat -> Prop} {W0 : World} {base WB : Nat} {W : World} {V : WPth -> Value} {iv : Value} {s : RnS} {t : RnF} {r : List RnF} {f : aao} {x : aad}
theorem adW.fo(h:adW u G F A S W0 base WB W V iv s t r f x):apo f:=aiI h.chk h.fw.fn
theorem adW.deep(h:adW u G F A S W0 base WB W V iv s t r f x):r.length+1<=30:=by have:=h.w.deep;rw [h.fr] at this;exact this
theorem adW.later {W':World}(h:adW u G F A S W0 base WB W V iv s t r f x)(hb:Below W.heap.size W W'):adW u G F A S W0 base WB W' V iv s t r f x :=
 ⟨h.at_.later hb,h.fr,h.fw,h.chk,h.num,h.w,h.fF,h.fA,h.steps⟩
theorem adW.jump(h:adW u G F A S W0 base WB W V iv s t r f x){ad:Nat}(aY:(ad:Int)∈x.fin.to) :
 Calls Tryz.prog 84 #[.pointer (some ⟨WB,0,none⟩),.int .i64 (ad:Int)] W fun e w'=>e = .returned (.tuple #[])∧aaQ u G F A S W0 base WB w' V iv (s.jump u ad):=by
 obtain⟨fa,fl,fc,hF⟩:=h.fF;obtain⟨aa,al,ac,hA⟩:=h.fA;have dP:=((h.fo.tgt _ x h.fw.blk).2 _ aY).2;have hz:f.blocks[ad]?=some f.blocks[ad]:=Aaa (by omega);obtain⟨cl,hc,ck,bN⟩:=h.w.cnt.2 t.fn f h.fw.fn;exact amK h.at_ h.fr h.fw h.fo aY hz h.deep hF hA hc ⟨ck,fun v hv=>by have:=bN v hv;have:=h.steps;omega⟩
theorem adW.val(h:adW u G F A S W0 base WB W V iv s t r f x){v:DVal}(hv:VOk f.regs v) :
 Calls Tryz.prog 85 #[.pointer (some ⟨WB,0,none⟩),.agg #[.bool v.reg,.int .i64 v.n]] W fun e w'=>e = .returned (.int .i64 (aaS t.regs v))∧Below W.heap.size W w' :=
 akb h.at_ h.fr h.deep v.reg v.n fun e=>by
  have h1:=hv e;have h2:=h.fw.regs;have h3:=h.fo.pr;omega
theorem adW.end_(h:adW u G F A S W0 base WB W V iv s t r f x){S':Nat->Prop}{ta:Option Addr}{tc:Nat}(ht:SlAt S' W 1 aaO (.slice ta x.fin.to.length tc) x.fin.to) :
 Calls Tryz.prog 54 #[.pointer (some ⟨WB,0,none⟩),.agg #[.int .i64 x.fin.kind,.bool x.fin.on.reg,.int .i64 x.fin.on.n,.slice ta x.fin.to.length tc]] W fun e w' =>
  e = .returned (.bool (s.end_ u x.fin).2)∧∃V',aaQ u G F A S W0 base WB w' V' iv (s.end_ u x.fin).1:=by
 have an:s.top=t:=by unfold RnS.top;rw [h.fr];rfl
 obtain⟨k1,k2,k3,k4,-⟩:=h.fo.kind _ x h.fw.blk;have ay:=h.fo.on _ x h.fw.blk;obtain⟨W1,a6⟩:∃W1,W1=W.alloc (.cells #[.int .i64 x.fin.kind,.bool x.fin.on.reg,.int .i64 x.fin.on.n,.slice ta x.fin.to.length tc] 57):=⟨_,rfl⟩
 have aM:Below W.heap.size W W1:=by rw [a6];exact bE
 have bX:W1.heap[W.heap.size]?=some (.cells #[.int .i64 x.fin.kind,.bool x.fin.on.reg,.int .i64 x.fin.on.n,.slice ta x.fin.to.length tc] 57 (0,0)):=by rw [a6];exact heap_alloc_new _ _
 obtain⟨x0,x1,x2,x3⟩:=(aah (cs:=[_,_,_,_]) bX).get4;rw [Aab] at x1 x2 x3;obtain⟨XB,bq⟩:∃XB,XB=W.heap.size:=⟨_,rfl⟩
 rw [<-bq] at x0 x1 x2 x3;have zX:=aac x0;have HW:Hid (W1=W.alloc (.cells #[.int .i64 x.fin.kind,.bool x.fin.on.reg,.int .i64 x.fin.on.n,.slice ta x.fin.to.length tc] 57)∧XB=W.heap.size):=⟨a6,bq⟩
 have H1:=hid (h.later aM);have b7:Hid (∀(k:Nat) (hk:k<x.fin.to.length),∃tb ad:Nat,∃ai,ta=some ⟨tb,ai,none⟩∧x.fin.to[k]=(ad:Int)∧(ad:Int)∈x.fin.to∧W1.cell? ⟨tb,ai+k,none⟩=some (.int .i64 (ad:Int))):=fun k hk=>by
  obtain⟨tb,ai,cs,e,-,⟨rfl,-⟩,-,aI⟩:=ht.get hk;have c:=aI 0 _ rfl;rw [Aa2,Aan] at c;have hm:=Aaf hk;have:=k4 _ hm;obtain⟨ad,aY⟩:∃m:Nat,x.fin.to[k]=(m:Int):=Aas (a:=x.fin.to[k]) (by omega);rw [aY] at c hm;exact⟨tb,ad,ai,e,aY,hm,aab c aM⟩
 obtain⟨kd,ar⟩:∃m,m=x.fin.kind:=⟨_,rfl⟩
 obtain⟨tl,aj⟩:∃m,m=x.fin.to.length:=⟨_,rfl⟩
 rw [<-ar] at x0;rw [<-aj] at x3;have HE:Hid (kd=x.fin.kind∧tl=x.fin.to.length∧s.top=t):=⟨ar,aj,an⟩
 have az:Hid (W1=W.alloc (.cells #[.int .i64 kd,.bool x.fin.on.reg,.int .i64 x.fin.on.n,.slice ta tl tc] 57)∧XB=W.heap.size):=by rw [ar,aj];exact HW.out
 by_cases hk2:x.fin.kind=2
 . have de:tl=1:=by omega
   obtain⟨tb,ad,ai,rfl,av,aw,ax⟩:=b7.out 0 (by omega);have HJ:=hid (H1.out.jump aw);have HS:Hid (s.end_ u x.fin=(s.jump u ad,true)):=by
    show _=_;unfold RnS.end_;rw [if_pos hk2];have e:x.fin.to.getD 0 0=(ad:Int):=by rw [Aac,Aaa (by omega),av];rfl
    rw [e,Aaj]
   rw [Aa2] at ax;have cX:kd=2:=by rw [ar];exact hk2
   rw [HS.out];rw [<-ar,<-aj];subst cX de;have zt:=aac ax;clear h ht an k1 k2 k3 k4 ay a6 aM bX bq HW ar aj hk2 av aw;go_enter Tryz.func54,Tryz.ntmps54;go_upto_region 1 with (fail)
   rw [<-az.out.1,<-az.out.2];clear az;go_wp2_with (first | (go_at_call 84;refine HJ.out.mono ?_;rintro e W5 ⟨rfl,hj⟩;have HF:=hid hj;clear hj));go_ret;exact⟨rfl,_,HF.out⟩
 . by_cases hk3:x.fin.kind=3
   . have df:tl=2:=by omega
     obtain⟨tb,bw,ai,rfl,av,aw,ax⟩:=b7.out 0 (by omega);obtain⟨e3,bx,ea,e',bm,bo,bp⟩:=b7.out 1 (by omega);cases e';obtain⟨NV,aS⟩:∃y,y=aaS t.regs x.fin.on:=⟨_,rfl⟩
     have HV:=hid (H1.out.val ay);rw [<-aS] at HV;have dp:Hid (∀W5,Below W1.heap.size W1 W5->Calls Tryz.prog 84 #[.pointer (some ⟨WB,0,none⟩),.int .i64 (bw:Int)] W5 fun e w'=>e = .returned (.tuple #[])∧aaQ u G F A S W0 base WB w' V iv (s.jump u bw)):=fun W5 hb=>(H1.out.later hb).jump aw;have dq:Hid (∀W5,Below W1.heap.size W1 W5->Calls Tryz.prog 84 #[.pointer (some ⟨WB,0,none⟩),.int .i64 (bx:Int)] W5 fun e w'=>e = .returned (.tuple #[])∧aaQ u G F A S W0 base WB w' V iv (s.jump u bx)):=fun W5 hb=>(H1.out.later hb).jump bo;have HC:Hid (∀W5,Below W1.heap.size W1 W5->W5.cell? ⟨XB,3,none⟩=some (.slice (some ⟨tb,ai,none⟩) tl tc)∧W5.cell? ⟨tb,ai,none⟩=some (.int .i64 (bw:Int))∧W5.cell? ⟨tb,ai+1,none⟩=some (.int .i64 (bx:Int))):=fun W5 hb=>⟨aab x3 hb,by have:=aab ax hb;rw [Aa2] at this;exact this,aab bp hb⟩
     have HS:Hid (s.end_ u x.fin=if NV≠0 then (s.jump u bw,true) else (s.jump u bx,true)):=by
      show _=_;unfold RnS.end_;rw [if_neg hk2,if_pos hk3,an,<-aS]
      by_cases e:NV≠0
      . rw [if_pos e,if_pos e]
        have e2:x.fin.to.getD 0 0=(bw:Int):=by rw [Aac,Aaa (by omega),av];rfl
        rw [e2,Aaj]
      . rw [if_neg e,if_neg e]
        have e2:x.fin.to.getD 1 0=(bx:Int):=by rw [Aac,Aaa (by omega),bm];rfl
        rw [e2,Aaj]
     have cY:kd=3:=by rw [ar];exact hk3
     rw [<-ar,<-aj];subst cY df
     by_cases hN:NV=0
     . have aZ:Hid (s.end_ u x.fin=(s.jump u bx,true)):=HS.out.trans (if_neg (fun e=>e hN))
       rw [aZ.out];have q0:(decide (NV<0)||decide (0<NV))=false:=by rw [hN];rfl
       clear h ht an k1 k2 k3 k4 ay a6 aM bX bq HW ar aj hk2 hk3 av aw ax bm bo bp aS HS dp hN x3;go_enter Tryz.func54,Tryz.ntmps54;go_upto_region 1 with (fail)
       rw [<-az.out.1,<-az.out.2];clear az
       go_wp2_with (first
        | (go_at_call 85; refine HV.out.mono ?_; rintro e W5 ⟨rfl, aq⟩; obtain ⟨x3, d0, d1⟩ := HC.out W5 aq; have eK := aac x3; have eM := aac d0; have aF := hid aq; clear aq x0 x1 x2 zX)
        | (go_at_call 84; refine (dq.out W5 aF.out).mono ?_; rintro e W6 ⟨rfl, hj⟩; have HF := hid hj; clear hj))
       go_ret;exact⟨rfl,_,HF.out⟩
     . have aZ:Hid (s.end_ u x.fin=(s.jump u bw,true)):=HS.out.trans (if_pos hN)
       rw [aZ.out];have q0:(decide (NV<0)||decide (0<NV))=true:=ad1 hN;clear h ht an k1 k2 k3 k4 ay a6 aM bX bq HW ar aj hk2 hk3 av aw ax bm bo bp aS HS dq hN x3;go_enter Tryz.func54,Tryz.ntmps54;go_upto_region 1 with (fail)
       rw [<-az.out.1,<-az.out.2];clear az
       go_wp2_with (first
        | (go_at_call 85; refine HV.out.mono ?_; rintro e W5 ⟨rfl, aq⟩; obtain ⟨x3, d0, d1⟩ := HC.out W5 aq; have eK := aac x3; have eM := aac d0; have aF := hid aq; clear aq x0 x1 x2 zX)
        | (go_at_call 84; refine (dp.out W5 aF.out).mono ?_; rintro e W6 ⟨rfl, hj⟩; have HF := hid hj; clear hj))
       go_ret;exact⟨rfl,_,HF.out⟩
   . have dL:x.fin.kind=1:=by omega
     have cW:kd=1:=by rw [ar];exact dL
     obtain⟨NV,aS⟩:∃y,y=aaS t.regs x.fin.on:=⟨_,rfl⟩
     obtain⟨g,fc,hv,dK,-,-,ae,-⟩:=H1.out.at_.topAt H1.out.fr;have d4:=ae 4 _ rfl;have aD:=H1.out.deep;obtain⟨n,au⟩:∃n,n=r.length:=⟨_,rfl⟩
     have dv:Hid (∀m d os,CallsIn Fence.wide m Tryz.prog 85 #[.pointer (some ⟨WB,0,none⟩),.agg #[.bool x.fin.on.reg,.int .i64 x.fin.on.n]] (grow (redrawn W1 d) os) fun e bz=>e = .returned (.int .i64 NV)∧∃p:Regrown,bz=grow (redrawn W1 p.d) p.os):=fun m d os=>by
      have h:=(H1.out.later (below_regrown W1 d os)).val ay;rw [<-aS] at h;exact CallsIn.regrown_of (callsIn_wide (n:=m).2 h)
     have du:Hid (∀(q:Regrown) m d os,CallsIn Fence.wide m Tryz.prog 53 #[.pointer (some ⟨WB,0,none⟩)] (grow (redrawn W1 d) os) fun e bz=>e = .returned (.pointer (some ⟨g,n * 5,none⟩))∧∃p:Regrown,bz=grow (redrawn W1 p.d) p.os):=fun _ m d os=>by
      rw [au];exact CallsIn.regrown_of (callsIn_wide (n:=m).2 (agr (H1.out.at_.later (below_regrown W1 d os)) hv aD))
     rw [<-au] at d4;have et:frC V r.length t=[.int .i64 (t.fn:Int),.int .i64 (t.blk:Int),.int .i64 (t.pos:Int),V (.regs r.length),.int .i64 t.dst]:=rfl;have r0:=cell_regrown x0;have r1:=cell_regrown x1;have r2:=cell_regrown x2;have r3:=cell_regrown x3;have r4:=cell_regrown d4;have zd:=aac d4;have Hv:=hid hv;have HN:Hid (n=r.length∧n+1<=fc∧n+1<=30):=⟨au,by rw [au];exact dK,by rw [au];exact aD⟩
     obtain⟨td,dc⟩:∃y,y=t.dst:=⟨_,rfl⟩
     have dx:=hid dc;rw [<-dc] at r4 d4
     have HS := hid (show s.end_ u x.fin = if s.frs.tail = [] then ({ s with frs := [], value := NV, state := 0 }, false) else ({ s with frs := s.frs.tail }.set t.dst NV, true) from by
      unfold RnS.end_
      rw [if_neg hk2, if_neg hk3, an, <- aS])
     rw [<-ar,<-aj];subst cW;have be:=h.fr;have bC:=hid h.w.link;have aG:=hid be;clear h ht an k1 k2 k3 k4 ay a6 aM bX bq HW ar aj hk2 hk3 dL aS ae hv dK aD au et dc be;go_enter Tryz.func54,Tryz.ntmps54;go_upto_region 1 with (fail)
     rw [<-az.out.1,<-az.out.2];clear az;go_upto_region 9 with (fail)
     refine aaD (by kernel_rfl) (by kernel_rfl) ?_
     repeat (gi_big_quiet_step (fail))
     refine wpQuietIn_step (fun _ _ _ _=>trivial) (fun K hK=>?_);go_simp;refine⟨_,fun _=>dv.out _ _ _,hK _ ?_⟩;clear hK K
     repeat (gi_big_quiet_step (fail))
     refine wpQuietIn_step (fun _ _ _ _=>trivial) (fun K hK=>?_);go_simp;refine⟨_,fun q=>du.out q _ _ _,hK _ ?_⟩;clear hK K
     repeat (gi_big_quiet_step (fail))
     refine wpQuietIn_nil ?_;intro W7 eI;obtain⟨rg,bT⟩:=eI;have bJ:Below W1.heap.size W1 W7:=by rw [bT];exact below_regrown _ _ _
     have H7:=hid (H1.out.at_.later bJ);clear bT bJ r0 r1 r2 r3 r4 x0 x1 x2 x3 zX d4 zd dv du H1 b7;go_upto_region 10 with (fail)
     obtain⟨-,-,aH,aJ⟩:=H7.out.boxAt;have c9:=aH 9 _ rfl;rw [Aab,Hv.out,<-HN.out.1] at c9;have zW:=aac c9;have eR:(0:Int)<=(n:Int):=by omega
     have eT:(n:Int)<=(fc:Int):=by have:=HN.out;omega
     have eC:n<=fc:=by have:=HN.out;omega
     have eX:IntKind.i64.wrap ((n:Int)+1 - 1)=(n:Int):=by have:=HN.out;rw [IntKind.wrap_i64];omega
     clear aH aJ;have eH:wrap64 (n:Int)=(n:Int):=by have:=HN.out;first | go_num | (unfold wrap64;omega)
     have f9:W7.frozen? ⟨WB,9,none⟩=false:=H7.out.boxAt.2.2.2 9 (by omega);go_big_region;go_upto_region 11 with (fail)
     obtain⟨W9,a7⟩:∃W9,W9=(W7.setCell ⟨WB,9,none⟩ (.slice (some ⟨g,0,none⟩) n fc)).drew:=⟨_,rfl⟩
     rw [<-a7];have H9:=(H7.out.pop aG.out (g:=g) (c:=fc) Hv.out).later (Below.refl _ _).drew;rw [<-HN.out.1,<-a7] at H9;obtain⟨V9,cL⟩:∃V9,V9=abW V .frs (.slice (some ⟨g,0,none⟩) n fc):=⟨_,rfl⟩
     have dW:V9 .frs = .slice (some ⟨g,0,none⟩) n fc:=by rw [cL,aar]
     rw [<-cL] at H9;obtain⟨-,-,aH,aJ⟩:=H9.boxAt;have c9:=aH 9 _ rfl;rw [Aab,dW] at c9;have c6:=aH 6 _ rfl;rw [Aab] at c6;have f6:=aJ 6 (by omega);have zW:=aac c9;clear aH aJ a7 cL dW f9;cases r with
     | nil =>
       have cZ:n=0:=HN.out.1;subst cZ;have aZ:Hid (s.end_ u x.fin=({ s with frs:=[],value:=NV,state:=0 },false)):=HS.out.trans (if_pos (by rw [aG.out];rfl));have HQ:=hid (acr (H9.putValue NV) 0);clear H9
       go_wp2_with (first
        | (go_at_call 30; refine HQ.out.mono ?_; rintro e el ⟨rfl, hw⟩; have HF := hid hw; clear hw))
       go_ret;rw [aZ.out];exact⟨rfl,_,HF.out⟩
     | cons c r' =>
       have eB:n=r'.length+1:=HN.out.1;have c3:decide (n=0)=false:=decide_eq_false (by omega);have eS:¬(n=0):=by omega
       have aZ : Hid (s.end_ u x.fin = ({ s with frs := { c with regs := afk c.regs td NV } :: r' }, true)) := HS.out.trans (by
        rw [if_neg (by rw [aG.out]; intro e; cases e), <- dx.out]
        unfold RnS.set RnS.setTop RnS.top
        rw [aG.out]; rfl)
       have aV:td<(c.regs.length:Int):=by
        have h:=bC.out;rw [aG.out] at h;rw [dx.out];exact h.1
       have HQ:=hid (adQ H9 (t:=c) (r:=r') rfl (by have:=HN.out;omega) td NV aV);clear H9 eB aV
       go_wp2_with (first
        | (go_at_call 86; refine HQ.out.mono ?_; rintro e el ⟨rfl, hw⟩; have HF := hid hw; clear hw))
       go_ret;rw [aZ.out];exact⟨rfl,_,HF.out⟩
end
end
end Go.Proofs.YtnkfdeiigplhoaaGreatDoor
