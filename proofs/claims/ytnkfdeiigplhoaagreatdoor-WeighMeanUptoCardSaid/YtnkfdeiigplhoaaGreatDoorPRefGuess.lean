import Derived.Test.YtnkfdeiigplhoaaGreatDoorPAllF
/- graph.Func: a function of a checked unit, by its number. loops.Deep: in how many loops each block of a function is. weigh.Guess and the document's WeighGuess. The document's WeighGuess. -/
set_option maxHeartbeats 4000000
set_option maxRecDepth 100000
namespace Go.Proofs.YtnkfdeiigplhoaaGreatDoor
section
open Go.RowKit
def anL(W:World)(UF UX:Nat)(u0 u1 u2 u3 c a:Value):World:=((((((W.setCell ⟨UF,0,none⟩ u0).setCell ⟨UF,1,none⟩ u1).setCell ⟨UF,2,none⟩ u2).setCell ⟨UF,3,none⟩ u3).setCell ⟨UX,0,none⟩ c).setCell ⟨UX,1,none⟩ a)
variable {W:World}{UF UX:Nat}
theorem ahm{fn : Func} (al : fn.results = #[.cell 4 50, .cell 5 31]) {tmps : Array Value}   {u0 u1 u2 u3 c a : Value}
 (h4:tmps.getD 4 undef = .pointer (some ⟨UF,0,none⟩)) (h5:tmps.getD 5 undef = .pointer (some ⟨UX,0,none⟩)) (hF:aaj W UF 0 [u0,u1,u2,u3]) (hX:aaj W UX 0 [c,a]) :
 (results fn tmps).run Tryz.prog W = .ok (.tuple #[.agg #[u0,u1,u2,u3],.agg #[c,a]]) W:=by
 obtain⟨a0,a1,a2,a3⟩:=hF.get4;obtain⟨b0,b1⟩:=hX.get2;simp only [Ab3] at h4 h5;simp [results,al,h4,h5,go_sem,a0,a1,a2,a3,b0,b1]
theorem agj{o0 o1 o2 o3 x0 x1:Value}(u0 u1 u2 u3 c a:Value)(hF:aaj W UF 0 [o0,o1,o2,o3])(hX:aaj W UX 0 [x0,x1])(ax:UF≠UX) :
 aaj (anL W UF UX u0 u1 u2 u3 c a) UF 0 [u0,u1,u2,u3]∧aaj (anL W UF UX u0 u1 u2 u3 c a) UX 0 [c,a]:=by
 unfold anL;have q4:=ap4 (u0:=u0) (u1:=u1) (u2:=u2) (u3:=u3) hF;obtain⟨W4,cB⟩:∃W4,W4=(((W.setCell ⟨UF,0,none⟩ u0).setCell ⟨UF,1,none⟩ u1).setCell ⟨UF,2,none⟩ u2).setCell ⟨UF,3,none⟩ u3:=⟨_,rfl⟩
 have c2:aaj W4 UX 0 [x0,x1]:=fun j v hj=>by
  rw [cB,aaf _ (Ne.symm ax),aaf _ (Ne.symm ax),aaf _ (Ne.symm ax),aaf _ (Ne.symm ax)];exact hX j v hj
 rw [<-cB] at q4 ⊢;have q2:=apX (u0:=c) (u1:=a) c2;exact⟨fun j v hj=>by rw [aaf _ ax,aaf _ ax];exact q4 j v hj,q2⟩
theorem aaj.drewC{b o:Nat}{cs:List Value}(h:aaj W b o cs):aaj W.drew b o cs:=fun j v hj=>h j v hj
theorem afP{B:Nat}{w:World}{u0 u1 u2 u3 c a:Value}(h:Below B w W)(hF:B<=UF)(hX:B<=UX):Below B w (anL W UF UX u0 u1 u2 u3 c a) :=
 (((((h.setCell (p:=⟨UF,0,none⟩) hF _).setCell (p:=⟨UF,1,none⟩) hF _).setCell (p:=⟨UF,2,none⟩) hF _).setCell (p:=⟨UF,3,none⟩) hF _).setCell (p:=⟨UX,0,none⟩) hX _).setCell (p:=⟨UX,1,none⟩) hX _
def amO(fs:List aao)(k:Int):Option aao:=if k<0 then none else fs[k.toNat]?
def abx(u:aaC)(k:Int):Option aao×Int×Int:=if (aal u).1≠0 then (none,aal u) else match amO u.funcs k with | none=>(none,3,-1) | some f=>(some f,0,0)
def aiG:Value := .agg #[.string ⟨#[]⟩,.int .i64 0,.int .i64 0,.slice none 0 0]
def ael(S:Nat->Prop)(u:aaC)(k:Int)(w:World)(e:Ending)(w':World):Prop :=
 Below w.heap.size w w' ∧
 (∀f,(abx u k).1=some f->∃xa xc,e = .returned (.tuple #[.agg #[.string f.name,.int .i64 f.params,.int .i64 f.regs,.slice xa f.blocks.length xc],.agg #[.int .i64 0,.int .i64 0]])∧SlAt S w 6 aaJ (.slice xa f.blocks.length xc) f.blocks) ∧
 ((abx u k).1=none->e = .returned (.tuple #[aiG,.agg #[.int .i64 (abx u k).2.1,.int .i64 (abx u k).2.2]]))
theorem am8 {S : Nat -> Prop} (ga : Option Addr) (gc : Nat) (fa : Option Addr) (fc : Nat) (gs : List aas) (fs : List aao) (k : Int) (w : World) (hk : I64 k)
 (hg:SlAt S w 3 aaE (.slice ga gs.length gc) gs) (hf:SlAt S w 4 aaZ (.slice fa fs.length fc) fs) (hw:abX w)
 (bt:gs.length<=1048576) (a7:fs.length<=1048576) (aP:∀(k:Nat) (f:aao),fs[k]?=some f->aaT f.blocks<=1048576∧f.blocks.length<=1048576) :
 Calls Tryz.prog 90 #[.agg #[.slice ga gs.length gc,.slice fa fs.length fc],.int .i64 k] w fun e w'=>ael S ⟨gs,fs⟩ k w e w':=by
 obtain⟨cF,cG⟩:=hk;obtain⟨c,hc⟩:∃c,c=(aal ⟨gs,fs⟩).1:=⟨_,rfl⟩
 obtain⟨d,hd⟩:∃d,d=(aal ⟨gs,fs⟩).2:=⟨_,rfl⟩
 have bj:Hid (aal ⟨gs,fs⟩=(c,d)):=by show _=_;rw [hc,hd]
 have bY:Hid (∀V,Below w.heap.size w V->Calls Tryz.prog 23 #[.agg #[.slice ga gs.length gc,.slice fa fs.length fc]] V fun e w'=>e = .returned (.agg #[.int .i64 c,.int .i64 d])∧Below V.heap.size V w'):=fun V hV=>by
  have h:=adr (S:=S) ga gc fa fc gs fs V (hg.later aan hV) (hf.later aak hV) (abX.below hw hV) bt a7 aP;rw [<-hc,<-hd] at h;exact h
 have Hf:=hid hf;clear hg hf hw aP hc hd;go_enter Tryz.func90,Tryz.ntmps90;go_upto_region 1 with (fail)
 obtain⟨W,hW⟩:∃W,W=((w.alloc (.cells #[.slice ga gs.length gc,.slice fa fs.length fc] 25)).alloc (.cells #[.string ⟨#[]⟩,.int .i64 0,.int .i64 0,.slice none 0 0] 50)).alloc (.cells #[.int .i64 0,.int .i64 0] 31):=⟨_,rfl⟩
 obtain⟨aD,h0,h1,h2⟩:=ac2 w (.cells #[.slice ga gs.length gc,.slice fa fs.length fc] 25) (.cells #[.string ⟨#[]⟩,.int .i64 0,.int .i64 0,.slice none 0 0] 50) (.cells #[.int .i64 0,.int .i64 0] 31);rw [<-hW] at aD h0 h1 h2 ⊢;have av:Below w.heap.size w W:=by rw [hW];exact bE
 obtain⟨UB,aB⟩:∃UB,UB=w.heap.size:=⟨_,rfl⟩
 obtain⟨UF,cc⟩:∃UF,UF=w.heap.size+1:=⟨_,rfl⟩
 obtain⟨UX,aC⟩:∃UX,UX=w.heap.size+1+1:=⟨_,rfl⟩
 rw [<-aC] at h2 ⊢;rw [<-cc] at h1 ⊢;rw [<-aB] at h0 ⊢;have aw:Hid (UB=w.heap.size∧UF=w.heap.size+1∧UX=w.heap.size+2∧W.heap.size=w.heap.size+3):=⟨aB,cc,aC,aD⟩
 have aM:Hid (∀V,Below W.heap.size W V->Below w.heap.size w V∧V.heap[UB]?=some (.cells #[.slice ga gs.length gc,.slice fa fs.length fc] 25 (0,0))∧V.heap[UF]?=some (.cells #[.string ⟨#[]⟩,.int .i64 0,.int .i64 0,.slice none 0 0] 50 (0,0))∧V.heap[UX]?=some (.cells #[.int .i64 0,.int .i64 0] 31 (0,0))) :=
  fun V hV=>⟨av.trans (hV.mono av.size),(hV.block UB (by omega)).trans h0,(hV.block UF (by omega)).trans h1,(hV.block UX (by omega)).trans h2⟩
 have aL:=hid av;obtain⟨c0,c1⟩:=(aah (cs:=[_,_]) h0).get2;have zB:UB<W.heap.size:=by omega
 clear hW h0 h1 h2 av aB cc aC aD;go_upto_region 2 with (go_at_call 23;refine (bY.out W aL.out).mono ?_;rintro e w1 ⟨rfl,au⟩;have ai:=hid au;clear au)
 obtain⟨W2,af⟩:∃W2,W2=w1.alloc (.cells #[.int .i64 c,.int .i64 d] 31):=⟨_,rfl⟩
 have ak:Below w1.heap.size w1 W2:=by rw [af];exact bE
 have ao:Hid (Below W.heap.size W W2):=ai.out.trans (ak.mono ai.out.size);have x0:W2.cell? ⟨w1.heap.size,0,none⟩=some (.int .i64 c):=by rw [af];simp
 have x1:W2.cell? ⟨w1.heap.size,1,none⟩=some (.int .i64 d):=by rw [af];simp
 rw [<-af];obtain⟨XB,ar⟩:∃XB,XB=w1.heap.size:=⟨_,rfl⟩
 rw [<-ar] at x0 x1 ⊢;obtain⟨aq,s0,s1,s2⟩:=aM.out W2 ao.out;have aq:=hid aq;have S1:=hid s1;have S2:=hid s2;obtain⟨a0,a1⟩:=(aah (cs:=[_,_]) s0).get2;rw [Aab] at a1;have f0:=aat s1 0;have f1:=aat s1 1;have f2:=aat s1 2;have f3:=aat s1 3;have g0:=aat s2 0;have g1:=aat s2 1;obtain⟨b0,b1,b2,b3⟩:=(aah (cs:=[_,_,_,_]) s1).get4;obtain⟨d0,d1⟩:=(aah (cs:=[_,_]) s2).get2;rw [Aab] at b1 b2 b3 d1;have dB:UB<W2.heap.size:=aac a0;have dp:UF<W2.heap.size:=aac b0;have dr:UX<W2.heap.size:=aac d0;have bf:XB<W2.heap.size:=aac x0;have ax:¬UF=UX:=by have:=aw.out;omega
 have dc:¬UX=UF:=by omega
 have cK:¬XB=UF∧¬UF=XB∧¬XB=UX∧¬UX=XB:=by have:=aw.out;have:=ai.out.size;omega
 obtain⟨cK,dx,dy,dz⟩:=cK;have an:w.heap.size<=UF∧w.heap.size<=UX:=by have:=aw.out;omega
 have ae:=hid an;clear af ak ar s0 s1 s2 c0 c1 zB an
 by_cases aU:c=0
 . subst aU
   have c5:d=0:=by
    have h:=abR (u:=⟨gs,fs⟩) (by rw [bj.out]);rw [bj.out] at h;exact congrArg Prod.snd h
   subst c5;obtain⟨fn,al⟩:∃fn,fn=fs.length:=⟨_,rfl⟩
   rw [<-al] at a1 a7 ⊢;have cP:=hid al;have cL:Hid (decide ((0:Int)<=k∧k<=(fn:Int) - 1)=(amO fs k).isSome):=by
    show _=_;unfold amO
    by_cases h0:k<0
    . rw [if_pos h0,decide_eq_false (by omega)];rfl
    . rw [if_neg h0]
      by_cases h1:k<(fn:Int)
      . rw [decide_eq_true (by omega),Aaa (by omega)];rfl
      . rw [decide_eq_false (by omega),Aa8 (by omega)];rfl
   have aZ:Hid (∀V,Calls Tryz.prog 25 #[.int .i64 k,.int .i64 0,.int .i64 ((fn:Int) - 1)] V fun e w'=>e = .returned (.bool (amO fs k).isSome)∧V=w'):=fun V=>by
    have h:=aaq k 0 ((fn:Int) - 1) V;rw [cL.out] at h;exact h
   clear cL al;cases hfo:amO fs k with
   | none =>
     rw [hfo] at aZ;have ad:Hid (∀e w',Below w.heap.size w w'->e = .returned (.tuple #[aiG,.agg #[.int .i64 3,.int .i64 (-1)]])->ael S ⟨gs,fs⟩ k w e w'):=fun e w' h1 h2=>by
      have e1:abx ⟨gs,fs⟩ k=(none,3,-1):=by
       unfold abx;rw [bj.out,if_neg (by simp)];dsimp only;rw [hfo]
      refine⟨h1,fun f hf=>?_,fun _=>?_⟩
      . rw [e1] at hf;cases hf
      . rw [e1];exact h2
     clear hfo;simp only [Option.isSome_none] at aZ
     go_wp2_with (first
      | (go_at_call 25; refine (aZ.out _).mono ?_; rintro e w' ⟨rfl, rfl⟩)
      | (go_at_call 24; refine (aaY _ _ _).mono ?_; rintro e w5 ⟨rfl, bp⟩
         obtain ⟨b9, s0, s1, s2⟩ := aM.out w5 (ao.out.trans (bp.mono ao.out.size))
         have b9 := hid b9
         have S1 := hid s1
         have S2 := hid s2
         have f0 := aat s1 0
         have f1 := aat s1 1
         have f2 := aat s1 2
         have f3 := aat s1 3
         have g0 := aat s2 0
         have g1 := aat s2 1
         obtain ⟨b0, b1, b2, b3⟩ := (aah (cs := [_, _, _, _]) s1).get4
         obtain ⟨d0, d1⟩ := (aah (cs := [_, _]) s2).get2
         rw [Aab] at b1 b2 b3 d1
         have dp : UF < w5.heap.size := aac b0
         have dr : UX < w5.heap.size := aac d0
         clear bp s0 s1 s2))
     have ag:=agj (.string ⟨#[]⟩) (.int .i64 0) (.int .i64 0) (.slice none 0 0) (.int .i64 3) (.int .i64 (-1)) (aah (cs:=[_,_,_,_]) S1.out) (aah (cs:=[_,_]) S2.out) ax;have aT:Below w.heap.size w (anL w5 UF UX (.string ⟨#[]⟩) (.int .i64 0) (.int .i64 0) (.slice none 0 0) (.int .i64 3) (.int .i64 (-1))):=afP b9.out ae.out.1 ae.out.2;exact bodyPost_ret (ahm rfl rfl rfl ag.1 ag.2) rfl (ad.out _ _ aT rfl)
   | some f =>
     rw [hfo] at aZ;simp only [Option.isSome_some] at aZ;have cj:0<=k∧fs[k.toNat]?=some f:=by
      unfold amO at hfo
      by_cases h0:k<0
      . rw [if_pos h0] at hfo;cases hfo
      . rw [if_neg h0] at hfo;exact⟨by omega,hfo⟩
     obtain⟨kn,rfl⟩:=Aas cj.1;have cl:fs[kn]?=some f:=by have:=cj.2;rwa [Aaj] at this
     have aG:kn<fs.length:=(Aae.1 cl).1;have cI:kn<fn:=by rw [cP.out];exact aG
     obtain⟨fb,cY,xa,xc,rfl,a6,bS,-,-⟩:=acF (Hf.out.later aak aq.out) aG;have cv:fs[kn]=f:=(Aae.1 cl).2;have aW:=(acF Hf.out aG)
     rw [cv] at a6;obtain⟨q0,q1,q2,q3⟩:=a6.get4;have bG:SlAt S w 6 aaJ (.slice xa f.blocks.length xc) f.blocks:=by
      obtain⟨cX,bl,dm,dn,e1,aH,aV,-,-⟩:=aW;cases e1;rw [cv] at aH aV;have h3:=(aH.later aq.out).get4.2.2.2;rw [q3] at h3;cases h3;exact aV
     have dt:fb<w.heap.size:=by
      obtain⟨cX,bl,dm,dn,e1,aH,aV,-,-⟩:=aW;cases e1;exact aac aH.get4.1
     have c7:¬fb=UF:=by have:=ae.out;omega
     have c8:¬UF=fb:=by have:=ae.out;omega
     have c9:¬fb=UX:=by have:=ae.out;omega
     have da:¬UX=fb:=by have:=ae.out;omega
     have c6:fb<W2.heap.size:=aac q0;have ad:Hid (∀e w',Below w.heap.size w w'->e = .returned (.tuple #[.agg #[.string f.name,.int .i64 f.params,.int .i64 f.regs,.slice xa f.blocks.length xc],.agg #[.int .i64 0,.int .i64 0]])->ael S ⟨gs,fs⟩ (kn:Int) w e w'):=fun e w' h1 h2=>by
      have e1:abx ⟨gs,fs⟩ (kn:Int)=(some f,0,0):=by
       unfold abx;rw [bj.out,if_neg (by simp)];dsimp only;rw [hfo]
      refine⟨h1,fun f' hf=>?_,fun hn=>?_⟩
      . rw [e1] at hf
        cases hf;exact⟨xa,xc,h2,bG⟩
      . rw [e1] at hn;cases hn
     obtain⟨nm,bz⟩:∃nm,nm=f.name:=⟨_,rfl⟩
     obtain⟨pr,bA⟩:∃pr,pr=f.params:=⟨_,rfl⟩
     obtain⟨rg,bB⟩:∃rg,rg=f.regs:=⟨_,rfl⟩
     obtain⟨bn,cC⟩:∃bn,bn=f.blocks.length:=⟨_,rfl⟩
     rw [<-bz] at q0 ad;rw [<-bA] at q1 ad;rw [<-bB] at q2 ad;rw [<-cC] at q3 ad;clear a6 bS aW cv cl cj hfo bG bz bA bB cC aG;go_wp2_with (go_at_call 25;refine (aZ.out _).mono ?_;rintro e w' ⟨rfl,rfl⟩);have ag:=agj (.string nm) (.int .i64 pr) (.int .i64 rg) (.slice xa bn xc) (.int .i64 0) (.int .i64 0) (aah (cs:=[_,_,_,_]) S1.out) (aah (cs:=[_,_]) S2.out) ax;have aT:Below w.heap.size w (anL W2 UF UX (.string nm) (.int .i64 pr) (.int .i64 rg) (.slice xa bn xc) (.int .i64 0) (.int .i64 0)):=afP aq.out ae.out.1 ae.out.2;exact bodyPost_ret (ahm rfl rfl rfl ag.1 ag.2) rfl (ad.out _ _ aT rfl)
 . have hq:((decide (c<0)||decide (0<c))||(decide (d<0)||decide (0<d)))=true:=by rw [Aa0];simp;omega
   have ad:Hid (∀e w',Below w.heap.size w w'->e = .returned (.tuple #[aiG,.agg #[.int .i64 c,.int .i64 d]])->ael S ⟨gs,fs⟩ k w e w'):=fun e w' h1 h2=>by
    have e1:abx ⟨gs,fs⟩ k=(none,c,d):=by
     unfold abx;rw [bj.out,if_pos aU]
    refine⟨h1,fun f hf=>?_,fun _=>?_⟩
    . rw [e1] at hf;cases hf
    . rw [e1];exact h2
   clear aU;go_wp2_with fail;go_region;have ag:=agj (.string ⟨#[]⟩) (.int .i64 0) (.int .i64 0) (.slice none 0 0) (.int .i64 c) (.int .i64 d) (aah (cs:=[_,_,_,_]) S1.out) (aah (cs:=[_,_]) S2.out) ax;have aT:Below w.heap.size w (anL W2 UF UX (.string ⟨#[]⟩) (.int .i64 0) (.int .i64 0) (.slice none 0 0) (.int .i64 c) (.int .i64 d)):=afP aq.out ae.out.1 ae.out.2;obtain⟨W6,bL⟩:∃W6,W6=anL W2 UF UX (.string ⟨#[]⟩) (.int .i64 0) (.int .i64 0) (.slice none 0 0) (.int .i64 c) (.int .i64 d):=⟨_,rfl⟩
   rw [<-bL] at ag aT;unfold anL at bL;rw [<-bL];have bk:=hid ag;have cM:=hid aT;clear bL ag aT;go_wp2_with fail;refine bodyPost_ret (ahm rfl rfl rfl bk.out.1.drewC bk.out.2.drewC) rfl (ad.out _ _ cM.out.drew rfl)
end
section
open Go.RowKit
def afv(u:aaC)(k:Int)(w:World)(e:Ending)(w':World):Prop :=
 Below w.heap.size w w' ∧
 (∀f,(abx u k).1=some f->∃g,e = .returned (.tuple #[.slice (some ⟨g,0,none⟩) f.blocks.length f.blocks.length,.agg #[.int .i64 0,.int .i64 0]])∧SlAt (fun b=>w.heap.size<=b∧b<w'.heap.size) w' 1 aaO (.slice (some ⟨g,0,none⟩) f.blocks.length f.blocks.length) (aeS f.blocks)) ∧
 ((abx u k).1=none->e = .returned (.tuple #[.slice none 0 0,.agg #[.int .i64 (abx u k).2.1,.int .i64 (abx u k).2.2]]))
theorem agT {u:aaC}{k:Int}{f:aao}(h:(abx u k).1=some f):aal u=(0,0)∧0<=k∧u.funcs[k.toNat]?=some f∧abx u k=(some f,0,0):=by
 unfold abx at h ⊢
 by_cases h0:(aal u).1≠0
 . rw [if_pos h0] at h;cases h
 . rw [if_neg h0] at h ⊢
   have hc:=abR (u:=u) (Classical.not_not.1 h0);cases hf:amO u.funcs k with
   | none=>rw [hf] at h;cases h
   | some x =>
     rw [hf] at h;cases h;unfold amO at hf
     by_cases hk:k<0
     . rw [if_pos hk] at hf;cases hf
     . rw [if_neg hk] at hf;exact⟨hc,by omega,hf,rfl⟩
theorem agS {u:aaC}{k:Int}(h:(abx u k).1=none):((abx u k).2.1≠0):=by
 unfold abx at h ⊢
 by_cases h0:(aal u).1≠0
 . rw [if_pos h0];exact h0
 . rw [if_neg h0] at h ⊢
   cases hf:amO u.funcs k with
   | none=>simp
   | some x=>rw [hf] at h;cases h
def aaU(bs:List aad)(n k j:Nat):List Value:=(List.range n).map fun b=>Value.int .i64 (deepTo bs k j b:Int)
theorem aec(bs:List aad)(n k j:Nat):(aaU bs n k j).length=n:=by simp [aaU]
theorem aeT(bs:List aad)(n k j:Nat){b:Nat}(h:b<n):(aaU bs n k j)[b]?=some (.int .i64 (deepTo bs k j b:Int)):=by
 unfold aaU;rw [Aak,Aa4 h];rfl
theorem ah5(bs:List aad)(n:Nat):aaU bs n 0 0=List.replicate n (.int .i64 0):=by
 unfold aaU;rw [show (fun b=>Value.int .i64 ((deepTo bs 0 0 b:Nat):Int))=fun _=>Value.int .i64 0 from funext fun b=>by simp [deepTo],List.map_const'];simp
variable {bs:List aad}{n:Nat}
theorem ah3{k j:Nat}(h:k<(adX bs).length)(hj:j=(adX bs)[k].length):aaU bs n (k+1) 0=aaU bs n k j:=by
 unfold aaU;refine Ab0 fun b _=>?_;rw [aiW h,hj]
theorem ah4{k j q:Nat}(h:k<(adX bs).length)(hj:j<(adX bs)[k].length)(hq:(adX bs)[k][j]=(q:Int)):(aaU bs n k j).set q (.int .i64 ((deepTo bs k j q:Int)+1))=aaU bs n k (j+1):=by
 apply Abk;intro i;rw [List.getElem?_set,aec]
 by_cases hi:i<n
 . rw [aeT bs n _ _ hi,aeT bs n _ _ hi,aiX h hj,hq]
   by_cases e:q=i
   . subst e;rw [if_pos rfl,if_pos hi,if_pos rfl];rfl
   . rw [if_neg e,if_neg (by omega)];rfl
 . rw [Aa8 (l:=aaU bs n k (j+1)) (by rw [aec];omega),Aa8 (l:=aaU bs n k j) (by rw [aec];omega)]
   split
   . rw [if_neg (by omega)]
   . rfl
theorem aiV(hn:n=bs.length):aaU bs n n 0=(aeS bs).map (Value.int .i64):=by
 subst hn;unfold aaU aeS;rw [List.map_map];rfl
theorem adO {fn : Func} (al : fn.results = #[.tmp 4, .cell 5 31]) {tmps : Array Value} {b : Nat} {v : Value} (hv : tmps.getD 4 undef = v) (ht : tmps.getD 5 undef = .pointer (some ⟨b, 0, none⟩)) {c a : Int} {W : World}
 (h0:W.cell? ⟨b,0,none⟩=some (.int .i64 c)) (h1:W.cell? ⟨b,1,none⟩=some (.int .i64 a)):(results fn tmps).run Tryz.prog W = .ok (.tuple #[v,.agg #[.int .i64 c,.int .i64 a]]) W:=by
 simp only [Ab3] at ht hv;simp [results,al,ht,hv,go_sem,h0,h1]
theorem am4 {S : Nat -> Prop} (ga : Option Addr) (gc : Nat) (fa : Option Addr) (fc : Nat) (gs : List aas) (fs : List aao) (k : Int) (w : World) (hk : I64 k)
 (hg:SlAt S w 3 aaE (.slice ga gs.length gc) gs) (hf:SlAt S w 4 aaZ (.slice fa fs.length fc) fs) (hw:abX w) (hS:∀b,S b->b<w.heap.size)
 (bt:gs.length<=1048576) (a7:fs.length<=1048576) (aP:∀(k:Nat) (f:aao),fs[k]?=some f->aaT f.blocks<=1048576∧f.blocks.length<=1048576) :
 Calls Tryz.prog 62 #[.agg #[.slice ga gs.length gc,.slice fa fs.length fc],.int .i64 k] w fun e w'=>afv ⟨gs,fs⟩ k w e w':=by
 have HF:Hid (∀V,Below w.heap.size w V->Calls Tryz.prog 90 #[.agg #[.slice ga gs.length gc,.slice fa fs.length fc],.int .i64 k] V fun e w'=>ael S ⟨gs,fs⟩ k V e w'):=fun V hV =>
  am8 (S:=S) ga gc fa fc gs fs k V hk (hg.later aan hV) (hf.later aak hV) (abX.below hw hV) bt a7 aP
 obtain⟨cF,cG⟩:=hk;have HS:=hid hS;clear hg hf hw aP hS;go_enter Tryz.func62,Tryz.ntmps62;go_upto_region 1 with (fail)
 obtain⟨W,hW⟩:∃W,W=(w.alloc (.cells #[.slice ga gs.length gc,.slice fa fs.length fc] 25)).alloc (.cells #[.int .i64 0,.int .i64 0] 31):=⟨_,rfl⟩
 obtain⟨aD,h0,h1⟩:=abk w (.cells #[.slice ga gs.length gc,.slice fa fs.length fc] 25) (.cells #[.int .i64 0,.int .i64 0] 31);rw [<-hW] at aD h0 h1 ⊢;have av:Below w.heap.size w W:=by rw [hW];exact bE
 obtain⟨UB,aB⟩:∃UB,UB=w.heap.size:=⟨_,rfl⟩
 obtain⟨UX,aC⟩:∃UX,UX=w.heap.size+1:=⟨_,rfl⟩
 rw [<-aC] at h1 ⊢;rw [<-aB] at h0 ⊢;have aw:Hid (UB=w.heap.size∧UX=w.heap.size+1∧W.heap.size=w.heap.size+2):=⟨aB,aC,aD⟩
 have aM:Hid (∀V,Below W.heap.size W V->Below w.heap.size w V∧V.heap[UX]?=some (.cells #[.int .i64 0,.int .i64 0] 31 (0,0))) :=
  fun V hV=>⟨av.trans (hV.mono av.size),(hV.block UX (by omega)).trans h1⟩
 have aL:=hid av;obtain⟨c0,c1⟩:=(aah (cs:=[_,_]) h0).get2;rw [Aab] at c1;have zB:UB<W.heap.size:=by omega
 clear hW h0 h1 av aB aC aD;cases hfo:(abx ⟨gs,fs⟩ k).1 with
 | none =>
   have ds:=hid hfo;obtain⟨c,hc⟩:∃c,c=(abx ⟨gs,fs⟩ k).2.1:=⟨_,rfl⟩
   obtain⟨d,hd⟩:∃d,d=(abx ⟨gs,fs⟩ k).2.2:=⟨_,rfl⟩
   have aU:c≠0:=by rw [hc];exact agS hfo
   have hq:((decide (c<0)||decide (0<c))||(decide (d<0)||decide (0<d)))=true:=by rw [Aa0];simp;omega
   have ad:Hid (∀e w',Below w.heap.size w w'->e = .returned (.tuple #[.slice none 0 0,.agg #[.int .i64 c,.int .i64 d]])->afv ⟨gs,fs⟩ k w e w'):=fun e w' h1 h2=>by
    refine⟨h1,fun f hf=>?_,fun _=>?_⟩
    . rw [hfo] at hf;cases hf
    . rw [<-hc,<-hd];exact h2
   have bH:Hid (Calls Tryz.prog 90 #[.agg #[.slice ga gs.length gc,.slice fa fs.length fc],.int .i64 k] W fun e w'=>e = .returned (.tuple #[aiG,.agg #[.int .i64 c,.int .i64 d]])∧Below W.heap.size W w') :=
    (HF.out W aL.out).mono fun e w' h=>⟨by rw [hc,hd];exact h.2.2 hfo,h.1⟩
   unfold aiG at bH;clear hfo hc hd aU;go_upto_region 2 with (go_at_call 90;refine bH.out.mono ?_;rintro e w1 ⟨rfl,au⟩;have ai:=hid au;clear au)
   obtain⟨W2,af⟩:∃W2,W2=(w1.alloc (.cells #[.string ⟨#[]⟩,.int .i64 0,.int .i64 0,.slice none 0 0] 50)).alloc (.cells #[.int .i64 c,.int .i64 d] 31):=⟨_,rfl⟩
   obtain⟨bm,-,h2⟩:=abk w1 (.cells #[.string ⟨#[]⟩,.int .i64 0,.int .i64 0,.slice none 0 0] 50) (.cells #[.int .i64 c,.int .i64 d] 31);rw [<-af] at bm h2 ⊢;have ak:Below w1.heap.size w1 W2:=by rw [af];exact bE
   obtain⟨aq,s1⟩:=aM.out W2 (ai.out.trans (ak.mono ai.out.size));obtain⟨XB,ar⟩:∃XB,XB=w1.heap.size+1:=⟨_,rfl⟩
   rw [<-ar] at h2 ⊢;obtain⟨x0,x1⟩:=(aah (cs:=[_,_]) h2).get2;obtain⟨d0,d1⟩:=(aah (cs:=[_,_]) s1).get2;rw [Aab] at x1 d1;have g0:=aat s1 0;have g1:=aat s1 1;have zX:UX<W2.heap.size:=aac d0;have bf:XB<W2.heap.size:=aac x0;have bd:¬UX=XB∧¬XB=UX:=by have:=aw.out;have:=ai.out.size;omega
   obtain⟨bd,cJ⟩:=bd;have aq:=hid aq;have an:w.heap.size<=UX:=by have:=aw.out;omega
   have ae:=hid an;clear af bm h2 ak ar s1 an c0 c1 zB;go_wp2_with fail;go_region;go_wp2_with fail;have q:=abj (w:=W2) (u := .int .i64 c) (v := .int .i64 d) d0 d1;refine bodyPost_ret (adO rfl rfl rfl (c:=c) (a:=d) (W:=_) ?_ ?_) rfl (ad.out _ _ ?_ rfl)
   . first | exact q.1 | skip
   . first | exact q.2 | skip
   . exact ((aq.out.setCell (p:=⟨UX,0,none⟩) ae.out _).setCell (p:=⟨UX,1,none⟩) ae.out _).drew
 | some f =>
   obtain⟨bq,-,br,ch⟩:=agT hfo;have al:=aiI (u:=⟨gs,fs⟩) bq br;have be:=al.toOk;have aI:=al.len.2;obtain⟨bs,bN⟩:∃bs,bs=f.blocks:=⟨_,rfl⟩
   obtain⟨n,hn⟩:∃n,n=bs.length:=⟨_,rfl⟩
   obtain⟨nm,bz⟩:∃nm,nm=f.name:=⟨_,rfl⟩
   obtain⟨pr,bA⟩:∃pr,pr=f.params:=⟨_,rfl⟩
   obtain⟨rg,bB⟩:∃rg,rg=f.regs:=⟨_,rfl⟩
   rw [<-bN] at be aI;rw [<-hn] at aI;have ad:Hid (∀e w' g,Below w.heap.size w w'->e = .returned (.tuple #[.slice (some ⟨g,0,none⟩) n n,.agg #[.int .i64 0,.int .i64 0]])->SlAt (fun b=>w.heap.size<=b∧b<w'.heap.size) w' 1 aaO (.slice (some ⟨g,0,none⟩) n n) (aeS bs)->afv ⟨gs,fs⟩ k w e w'):=fun e w' g h1 h2 h3=>by
    refine⟨h1,fun f' hf=>?_,fun hn=>?_⟩
    . rw [hfo] at hf
      cases hf;rw [<-bN,<-hn];exact⟨g,h2,h3⟩
    . rw [hfo] at hn;cases hn
   have bH:Hid (Calls Tryz.prog 90 #[.agg #[.slice ga gs.length gc,.slice fa fs.length fc],.int .i64 k] W fun e w'=>∃xa xc,e = .returned (.tuple #[.agg #[.string nm,.int .i64 pr,.int .i64 rg,.slice xa n xc],.agg #[.int .i64 0,.int .i64 0]])∧SlAt S W 6 aaJ (.slice xa n xc) bs∧Below W.heap.size W w') :=
    (HF.out W aL.out).mono fun e w' h=>by
      obtain⟨xa,xc,e1,e2⟩:=h.2.1 f hfo;rw [hn,bN,bz,bA,bB];exact⟨xa,xc,e1,e2,h.1⟩
   have bJ:=hid be;have Hn:=hid hn;clear hfo bq br ch al be bN hn bz bA bB;go_upto_region 2 with (go_at_call 90;refine bH.out.mono ?_;rintro e w1 ⟨xa,xc,rfl,bS,au⟩;have ai:=hid au;have cW:=hid bS;clear au bS)
   obtain⟨W2,af⟩:∃W2,W2=(w1.alloc (.cells #[.string nm,.int .i64 pr,.int .i64 rg,.slice xa n xc] 50)).alloc (.cells #[.int .i64 0,.int .i64 0] 31):=⟨_,rfl⟩
   obtain⟨bm,h3,h2⟩:=abk w1 (.cells #[.string nm,.int .i64 pr,.int .i64 rg,.slice xa n xc] 50) (.cells #[.int .i64 0,.int .i64 0] 31);rw [<-af] at bm h3 h2 ⊢;have ak:Below w1.heap.size w1 W2:=by rw [af];exact bE
   have ao:Hid (Below W.heap.size W W2):=ai.out.trans (ak.mono ai.out.size);obtain⟨XB,ar⟩:∃XB,XB=w1.heap.size+1:=⟨_,rfl⟩
   obtain⟨FB,cA⟩:∃FB,FB=w1.heap.size:=⟨_,rfl⟩
   rw [<-ar] at h2 ⊢;rw [<-cA] at h3 ⊢;obtain⟨x0,x1⟩:=(aah (cs:=[_,_]) h2).get2;obtain⟨y0,y1,y2,y3⟩:=(aah (cs:=[_,_,_,_]) h3).get4;rw [Aab] at x1 y1 y2 y3;have X0:=hid x0;have X1:=hid x1;have bf:XB<W2.heap.size:=aac x0;have dq:FB<W2.heap.size:=aac y0;have ax:¬UX=XB∧¬XB=UX∧¬FB=UX:=by have:=aw.out;have:=ai.out.size;omega
   have cS:=hid ax;have bF:=(cW.out.later aam ao.out)
   have bg:=hid (fun (V:World) (hV:Below W2.heap.size W2 V)=>ali (S:=S) nm pr rg xa n xc bs V (bF.later aam hV) (fun b hb=>by have:=HS.out b hb;have:=aL.out.size;have:=ao.out.size;have:=hV.size;omega) Hn.out.symm (by omega) bJ.out);have db:=run_make_row' (P:=Tryz.prog) 26 3 (.int .i64 0) 8 Tryz.underlying26 acA rfl .i64 .i64 n (by omega) (by omega);clear af bm h2 h3 ak ar cA c0 c1 zB ax bF;go_wp2_with (go_at_call 91;refine (bg.out _ ?_).mono ?_;exact bE;rintro e V0 ⟨OB,rfl,bD,bp⟩;have aX:=hid bD;have bX:=hid bp;clear bD bp);obtain⟨DB,bK⟩:∃DB,DB=W2.heap.size:=⟨_,rfl⟩
   obtain⟨W3,bo⟩:∃W3,W3=W2.alloc (.cells (madeCells #[.int .i64 0] n) 3):=⟨_,rfl⟩
   have cg:Below W2.heap.size W2 W3:=by rw [bo];exact bE
   have cZ:W3.heap.size=DB+1:=by rw [bo,bK];simp
   have cz:W3.heap[DB]?=some (.cells (madeCells #[.int .i64 0] n) 3 (0,0)):=by rw [bo,bK];exact heap_alloc_new _ _
   rw [<-bo] at aX bX;rw [<-bK];have ca:V0.heap[DB]?=some (.cells (aaU bs n 0 0).toArray 3 (0,0)):=by
    rw [bX.out.block DB (by omega),cz,ah5,abn]
   have b7:Hid (acV V0 V0 DB 3 (aaU bs n 0 0)):=⟨Aad _,fun _ _ _=>rfl,⟨rfl,rfl,rfl⟩,ca⟩
   have aQ:Hid (Below W2.heap.size W2 V0):=cg.trans (bX.out.mono cg.size);have cw:Hid (∀b,W3.heap.size<=b∧b<V0.heap.size->b≠DB):=fun b hb=>by have:=hb.1;omega
   have bV:Hid (W2.heap.size<=DB∧DB<V0.heap.size):=⟨by omega,(Aax.1 ca).1⟩
   have bh:Hid ((adX bs).length=n):=by show _=_;rw [ahc,Hn.out]
   clear bK bo cg cZ cz ca db bg y0 y1 y2 y3 x0 x1 bf dq;go_loopw [30] (fun s30 wr=>∃k:Nat,k<=n∧s30 = .int .i64 (k:Int)∧acV V0 wr DB 3 (aaU bs n k 0)) (fun s30 _=>n - (intOf s30).toNat)
   case atStart=>exact⟨0,Aah _,rfl,b7.out⟩
   case round =>
    obtain⟨wo,ct⟩:∃wo:World,wo=wr:=⟨_,rfl⟩
    subst ct;obtain⟨kk,cH,rfl,aK⟩:=hrel;have b8:=hid aK
    by_cases cI:kk<n
    . have aG:kk<(adX bs).length:=by rw [bh.out];exact cI
      obtain⟨rb,dk,cs,hO,-,⟨rv,rfl,aF⟩,-,a6⟩:=aX.out.get aG;cases hO;have cq:=a6.get1;rw [Aan,Aab] at cq;have aS:∀x∈(adX bs)[kk],0<=x∧x<(n:Int):=fun x hx=>by
       rw [aoo aG] at hx;have:=(alh bJ.out kk).have_ x hx;rw [<-Hn.out] at this;exact this
      have ay:Hid (∀j,j=((adX bs)[kk]).length->aaU bs n (kk+1) 0=aaU bs n kk j):=fun j hj=>ah3 aG hj;have aA:Hid (∀(L:List Int),L=(adX bs)[kk]->∀(j q:Nat) (hj:j<L.length),L[j]=(q:Int)->(aaU bs n kk j).set q (.int .i64 ((deepTo bs kk j q:Int)+1))=aaU bs n kk (j+1)):=fun L hL j q hj hq=>by subst hL;exact ah4 aG hj hq
      have cQ:Hid (∀j q,deepTo bs kk j q<=n+1):=fun j q=>by have:=ah6 bJ.out kk j q (by rw [<-Hn.out];omega);rw [<-Hn.out] at this;exact this
      obtain⟨L,hL⟩:∃L,L=(adX bs)[kk]:=⟨_,rfl⟩
      rw [<-hL] at aF aS ay;have az:=hid (aA.out L hL);clear aA;obtain⟨pa,pc,rfl,dd⟩:=aF.val;obtain⟨ln,cn⟩:∃ln,ln=L.length:=⟨_,rfl⟩
      have r0:=aK.cellOf cq (by have:=(aX.out.live (by decide) afD).get aG;obtain⟨_,_,_,e,h5,-⟩:=this;cases e;exact cw.out _ h5.1);rw [<-cn] at aF r0 dd ay;have b4:=hid aF;have bW:=hid aS;have cR:=hid cn;have zO:OB<wo.heap.size:=aac r0;clear aK a6 cq aS hL cn aF;go_wp2_with fail;clear r0;go_loopw [36] (fun s36 wr=>∃j:Nat,j<=ln∧s36 = .int .i64 (j:Int)∧acV V0 wr DB 3 (aaU bs n kk j)) (fun s36 _=>ln - (intOf s36).toNat)
      case atStart=>exact⟨0,Aah _,rfl,b8.out⟩
      case round =>
       obtain⟨j,hj,rfl,aj⟩:=hrel;have cV:=hid aj
       by_cases bw:j<ln
       . have ck:j<L.length:=by rw [<-cR.out];exact bw
         have bT:=bW.out L[j] (Aaf ck);obtain⟨q,hq⟩:=Aas bT.1;have de:q<n:=by omega
         obtain⟨xb,xo,cu,e0⟩:=abb (aj.sl aae cw.out b4.out) ck;subst cu;rw [hq] at e0;have d0:=aj.at (aeT bs n kk j de)
         have f0:=aj.fz q;have aJ:=aj.set q (.int .i64 ((deepTo bs kk j q:Int)+1));rw [az.out j q ck hq] at aJ;have hle:=cQ.out j q;obtain⟨m,hm⟩:∃m,m=deepTo bs kk j q:=⟨_,rfl⟩
         rw [<-hm] at d0 aJ hle;have b5:=hid aJ;have zx:xb<wr.heap.size:=aac e0;have zD:DB<wr.heap.size:=aac d0;clear aj bT hq aJ hm;go_wp2_with fail;go_roundw
         case rel=>exact⟨j+1,by omega,by go_num,b5.out⟩
         case measure=>simp [intOf];omega
       . have bQ:j=ln:=by omega
         have cU:Hid (acV V0 wr DB 3 (aaU bs n (kk+1) 0)):=by rw [ay.out j bQ];exact aj
         clear aj bQ;go_wp2_with fail;go_roundw
         case rel=>exact⟨kk+1,by omega,by go_num,cU.out⟩
         case measure=>simp [intOf];omega
    . have cm:kk=n:=by omega
      subst cm;obtain⟨aY,s1⟩:=aM.out V0 (ao.out.trans (aQ.out.mono ao.out.size));have df:=hid aY;have cb:UX≠DB:=by have:=bV.out.1;have:=aw.out;have:=ao.out.size;omega
      have cf:XB≠DB:=by have h1:=aac X0.out;have:=bV.out.1;omega
      have x0:=aK.cellOf (aab X0.out aQ.out) cf;have x1:=aK.cellOf (aab X1.out aQ.out) cf;obtain⟨d0,d1⟩:=(aah (cs:=[_,_]) s1).get2;rw [Aab] at d1;have bR:wo.heap[UX]?=some (.cells #[.int .i64 0,.int .i64 0] 31 (0,0)):=(aK.keep UX (Aax.1 s1).1 cb).trans s1;obtain⟨d0,d1⟩:=(aah (cs:=[_,_]) bR).get2;rw [Aab] at d1;have g0:=aat bR 0;have g1:=aat bR 1;have zX:UX<wo.heap.size:=aac d0;have bf:XB<wo.heap.size:=aac x0;have an:w.heap.size<=UX∧w.heap.size<=DB:=by have:=aw.out;have:=bV.out.1;have:=ao.out.size;omega
      have ae:=hid an;have cN:Hid (Below w.heap.size w wo):=aK.below df.out an.2;have cr:=aK.row;rw [aiV Hn.out] at cr;have cT:=hid cr;have cx:=hid cb;obtain⟨bd,cJ,-⟩:=cS.out;clear aK s1 bR cr cb cf an aY;go_wp2_with fail;go_region;go_wp2_with fail;have q:=abj (w:=wo) (u := .int .i64 0) (v := .int .i64 0) d0 d1;obtain⟨W9,bM⟩:∃W9,W9=((wo.setCell ⟨UX,0,none⟩ (.int .i64 0)).setCell ⟨UX,1,none⟩ (.int .i64 0)).drew:=⟨_,rfl⟩
      have bC:W9.heap[DB]?=some (.cells ((aeS bs).map (Value.int .i64)).toArray 3 (0,0)):=by
       have h:((wo.setCell ⟨UX,0,none⟩ (.int .i64 0)).setCell ⟨UX,1,none⟩ (.int .i64 0)).heap[DB]?=wo.heap[DB]?:=by
        rw [Below.heap_setCell _ _ _ _ (by dsimp only;exact Ne.symm cx.out),Below.heap_setCell _ _ _ _ (by dsimp only;exact Ne.symm cx.out)]
       rw [bM];exact h.trans cT.out
      have c4:Below w.heap.size w W9:=by
       rw [bM];exact ((cN.out.setCell (p:=⟨UX,0,none⟩) ae.out.1 _).setCell (p:=⟨UX,1,none⟩) ae.out.1 _).drew
      have cD:W9.cell? ⟨UX,0,none⟩=some (.int .i64 0)∧W9.cell? ⟨UX,1,none⟩=some (.int .i64 0):=by rw [bM];exact q
      rw [<-bM];refine bodyPost_ret (adO rfl rfl rfl (c:=0) (a:=0) cD.1 cD.2) rfl (ad.out _ _ DB c4 rfl ?_);have aE:=(anE (base:=w.heap.size) (n:=kk) ((aer bs).trans Hn.out.symm) (by omega) bC ae.out.2 (fun x hx=>by have:=ah2 bJ.out x hx;rw [<-Hn.out] at this;unfold I64;omega)).sl;exact aE
end
section
open Go.RowKit
def afK(u:aaC)(k:Int)(w:World)(e:Ending)(w':World):Prop :=
 Below w.heap.size w w' ∧
 (∀f,(abx u k).1=some f->∃v,e = .returned (.tuple #[v,.agg #[.int .i64 0,.int .i64 0]])∧aaz w.heap.size w' v (abh (aeS f.blocks))) ∧
 ((abx u k).1=none->e = .returned (.tuple #[.slice none 0 0,.agg #[.int .i64 (abx u k).2.1,.int .i64 (abx u k).2.2]]))
theorem ai7(l:List Int)(k:Nat)(h:k<l.length):abh (l.take (k+1))=abh (l.take k)++[aet l[k]]:=by
 unfold abh;rw [Aat h,Aav];rfl
structure apq (W0 W:World)(v:Value)(l:List Int):Prop where
 own:W.ownsRow W0.heap.size 3 1 v l.length (l.map (Value.int .i64))
 old:Below W0.heap.size W0 W
theorem alD {S : Nat -> Prop} (ga : Option Addr) (gc : Nat) (fa : Option Addr) (fc : Nat) (gs : List aas) (fs : List aao) (k : Int) (w : World) (hk : I64 k)
 (hg:SlAt S w 3 aaE (.slice ga gs.length gc) gs) (hf:SlAt S w 4 aaZ (.slice fa fs.length fc) fs) (hw:abX w) (hS:∀b,S b->b<w.heap.size)
 (bt:gs.length<=1048576) (a7:fs.length<=1048576) (aP:∀(k:Nat) (f:aao),fs[k]?=some f->aaT f.blocks<=1048576∧f.blocks.length<=1048576) :
 Calls Tryz.prog 35 #[.agg #[.slice ga gs.length gc,.slice fa fs.length fc],.int .i64 k] w fun e w'=>afK ⟨gs,fs⟩ k w e w':=by
 have HD:Hid (∀V,Below w.heap.size w V->Calls Tryz.prog 62 #[.agg #[.slice ga gs.length gc,.slice fa fs.length fc],.int .i64 k] V fun e w'=>afv ⟨gs,fs⟩ k V e w'):=fun V hV =>
  am4 (S:=S) ga gc fa fc gs fs k V hk (hg.later aan hV) (hf.later aak hV) (abX.below hw hV) (fun b hb=>Aap (hS b hb) hV.size) bt a7 aP
 obtain⟨cF,cG⟩:=hk;clear hg hf hw aP hS;obtain⟨i0,hi,dg,dh,di⟩:=info_parts ahs;go_enter Tryz.func35,Tryz.ntmps35;go_upto_region 1 with (fail)
 obtain⟨W,hW⟩:∃W,W=(w.alloc (.cells #[.slice ga gs.length gc,.slice fa fs.length fc] 25)).alloc (.cells #[.int .i64 0,.int .i64 0] 31):=⟨_,rfl⟩
 obtain⟨aD,h0,h1⟩:=abk w (.cells #[.slice ga gs.length gc,.slice fa fs.length fc] 25) (.cells #[.int .i64 0,.int .i64 0] 31);rw [<-hW] at aD h0 h1 ⊢;have av:Below w.heap.size w W:=by rw [hW];exact bE
 obtain⟨UB,aB⟩:∃UB,UB=w.heap.size:=⟨_,rfl⟩
 obtain⟨UX,aC⟩:∃UX,UX=w.heap.size+1:=⟨_,rfl⟩
 rw [<-aC] at h1 ⊢;rw [<-aB] at h0 ⊢;have aw:Hid (UB=w.heap.size∧UX=w.heap.size+1∧W.heap.size=w.heap.size+2):=⟨aB,aC,aD⟩
 have aM:Hid (∀V,Below W.heap.size W V->Below w.heap.size w V∧V.heap[UX]?=some (.cells #[.int .i64 0,.int .i64 0] 31 (0,0))) :=
  fun V hV=>⟨av.trans (hV.mono av.size),(hV.block UX (by omega)).trans h1⟩
 have aL:=hid av;obtain⟨c0,c1⟩:=(aah (cs:=[_,_]) h0).get2;rw [Aab] at c1;have zB:UB<W.heap.size:=by omega
 clear hW h0 h1 av aB aC aD;cases hfo:(abx ⟨gs,fs⟩ k).1 with
 | none =>
   obtain⟨c,hc⟩:∃c,c=(abx ⟨gs,fs⟩ k).2.1:=⟨_,rfl⟩
   obtain⟨d,hd⟩:∃d,d=(abx ⟨gs,fs⟩ k).2.2:=⟨_,rfl⟩
   have aU:c≠0:=by rw [hc];exact agS hfo
   have hq:((decide (c<0)||decide (0<c))||(decide (d<0)||decide (0<d)))=true:=by rw [Aa0];simp;omega
   have ad:Hid (∀e w',Below w.heap.size w w'->e = .returned (.tuple #[.slice none 0 0,.agg #[.int .i64 c,.int .i64 d]])->afK ⟨gs,fs⟩ k w e w'):=fun e w' h1 h2=>by
    refine⟨h1,fun f hf=>?_,fun _=>?_⟩
    . rw [hfo] at hf;cases hf
    . rw [<-hc,<-hd];exact h2
   have bU:Hid (Calls Tryz.prog 62 #[.agg #[.slice ga gs.length gc,.slice fa fs.length fc],.int .i64 k] W fun e w'=>e = .returned (.tuple #[.slice none 0 0,.agg #[.int .i64 c,.int .i64 d]])∧Below W.heap.size W w') :=
    (HD.out W aL.out).mono fun e w' h=>⟨by rw [hc,hd];exact h.2.2 hfo,h.1⟩
   clear hfo hc hd aU;go_upto_region 2 with (go_at_call 62;refine bU.out.mono ?_;rintro e w1 ⟨rfl,au⟩;have ai:=hid au;clear au)
   obtain⟨W2,af⟩:∃W2,W2=w1.alloc (.cells #[.int .i64 c,.int .i64 d] 31):=⟨_,rfl⟩
   have h2:W2.heap[w1.heap.size]?=some (.cells #[.int .i64 c,.int .i64 d] 31 (0,0)):=by rw [af];exact heap_alloc_new _ _
   rw [<-af];have ak:Below w1.heap.size w1 W2:=by rw [af];exact bE
   obtain⟨aq,s1⟩:=aM.out W2 (ai.out.trans (ak.mono ai.out.size));obtain⟨XB,ar⟩:∃XB,XB=w1.heap.size:=⟨_,rfl⟩
   rw [<-ar] at h2 ⊢;obtain⟨x0,x1⟩:=(aah (cs:=[_,_]) h2).get2;obtain⟨d0,d1⟩:=(aah (cs:=[_,_]) s1).get2;rw [Aab] at x1 d1;have g0:=aat s1 0;have g1:=aat s1 1;have zX:UX<W2.heap.size:=aac d0;have bf:XB<W2.heap.size:=aac x0;have bd:¬UX=XB∧¬XB=UX:=by have:=aw.out;have:=ai.out.size;omega
   obtain⟨bd,cJ⟩:=bd;have aq:=hid aq;have an:w.heap.size<=UX:=by have:=aw.out;omega
   have ae:=hid an;clear af h2 ak ar s1 an c0 c1 zB;go_wp2_with fail;go_region;go_wp2_with fail;have q:=abj (w:=W2) (u := .int .i64 c) (v := .int .i64 d) d0 d1;refine bodyPost_ret (adO rfl rfl rfl (c:=c) (a:=d) (W:=_) ?_ ?_) rfl (ad.out _ _ ?_ rfl)
   . exact q.1
   . exact q.2
   . exact ((aq.out.setCell (p:=⟨UX,0,none⟩) ae.out _).setCell (p:=⟨UX,1,none⟩) ae.out _).drew
 | some f =>
   obtain⟨bq,-,br,ch⟩:=agT hfo;have al:=aiI (u:=⟨gs,fs⟩) bq br;have be:=al.toOk;have aI:=al.len.2;have bO:=ah2 be;have bP:=aer f.blocks;obtain⟨n,hn⟩:∃n,n=f.blocks.length:=⟨_,rfl⟩
   obtain⟨L,hL⟩:∃L,L=aeS f.blocks:=⟨_,rfl⟩
   rw [<-hn] at aI bO bP;rw [<-hL] at bO bP;have ad:Hid (∀e w' v,Below w.heap.size w w'->e = .returned (.tuple #[v,.agg #[.int .i64 0,.int .i64 0]])->aaz w.heap.size w' v (abh L)->afK ⟨gs,fs⟩ k w e w'):=fun e w' v h1 h2 h3=>by
    refine⟨h1,fun f' hf=>?_,fun hn=>?_⟩
    . rw [hfo] at hf
      cases hf;rw [<-hL];exact⟨v,h2,h3⟩
    . rw [hfo] at hn;cases hn
   have bU:Hid (Calls Tryz.prog 62 #[.agg #[.slice ga gs.length gc,.slice fa fs.length fc],.int .i64 k] W fun e w'=>∃g,e = .returned (.tuple #[.slice (some ⟨g,0,none⟩) n n,.agg #[.int .i64 0,.int .i64 0]])∧SlAt (fun b=>W.heap.size<=b∧b<w'.heap.size) w' 1 aaO (.slice (some ⟨g,0,none⟩) n n) L∧Below W.heap.size W w') :=
    (HD.out W aL.out).mono fun e w' h=>by
      obtain⟨g,e1,e2⟩:=h.2.1 f hfo;rw [hn,hL];exact⟨g,e1,e2,h.1⟩
   have cO:=hid bO;have cy:=hid bP;clear hfo bq br ch al be bO bP hn hL;go_upto_region 2 with (go_at_call 62;refine bU.out.mono ?_;rintro e w1 ⟨g,rfl,bD,au⟩;have ai:=hid au;have aX:=hid bD;clear au bD)
   obtain⟨W2,af⟩:∃W2,W2=w1.alloc (.cells #[.int .i64 0,.int .i64 0] 31):=⟨_,rfl⟩
   have h2:W2.heap[w1.heap.size]?=some (.cells #[.int .i64 0,.int .i64 0] 31 (0,0)):=by rw [af];exact heap_alloc_new _ _
   rw [<-af];have ak:Below w1.heap.size w1 W2:=by rw [af];exact bE
   have ao:Hid (Below W.heap.size W W2):=ai.out.trans (ak.mono ai.out.size);obtain⟨XB,ar⟩:∃XB,XB=w1.heap.size:=⟨_,rfl⟩
   rw [<-ar] at h2 ⊢;obtain⟨x0,x1⟩:=(aah (cs:=[_,_]) h2).get2;rw [Aab] at x1;have bf:XB<W2.heap.size:=aac x0;have b6:=hid (aX.out.later aae ak);clear af h2 ak ar c0 c1 zB aX;go_wp2_with fail;clear x0 x1;go_loopw [8,24] (fun s8 s24 wr=>∃(j:Nat) (v:Value),v=s8∧j<=n∧s24 = .int .i64 (j:Int)∧apq W2 wr v (abh (L.take j))) (fun _ s24 _=>n - (intOf s24).toNat)
   case atStart=>exact⟨0,_,rfl,Aah _,rfl,by simpa [abh] using World.ownsRow_nil _ _ _ _,Below.refl _ _⟩
   case round =>
    obtain⟨wo,ct⟩:∃wo:World,wo=wr:=⟨_,rfl⟩
    subst ct;obtain⟨j,v,rfl,hj,rfl,a8⟩:=hrel;have bI:=hid a8
    by_cases bQ:j<n
    . have bw:j<L.length:=by rw [cy.out];exact bQ
      obtain⟨x,hx⟩:∃x,x=L[j]:=⟨_,rfl⟩
      have bT:=cO.out L[j] (Aaf bw);obtain⟨xb,xo,cu,e0⟩:=abb (b6.out.later aae a8.old) bw;cases cu;rw [<-hx,Aab] at e0;rw [<-hx] at bT;have az:Hid (abh (L.take (j+1))=abh (L.take j)++[aet x]):=by show _=_;rw [ai7 _ _ bw,<-hx]
      have zg:g<wo.heap.size:=aac e0;clear a8 hx;go_wp2_with fail;obtain⟨m,hm⟩:=Aas (show 0<=min x 8 by omega);have dw:m<=8:=by omega
      have Hm:Hid (aet x=((10 ^ m:Nat):Int)):=by show _=_;unfold aet;rw [hm,Aaj]
      rw [hm];clear e0 hm;go_loopw [11,30] (fun s11 s30 wr=>∃(i q:Nat),i<=m∧s30 = .int .i64 (i:Int)∧s11 = .int .i64 (q:Int)∧q=10 ^ i∧wr=wo) (fun _ s30 _=>m - (intOf s30).toNat)
      case atStart=>exact⟨0,1,Aah _,rfl,rfl,rfl,rfl⟩
      case round =>
       obtain⟨i,q,du,rfl,rfl,hq,rfl⟩:=hrel;have dA:q<=100000000:=by rw [hq];exact Nat.pow_le_pow_right (by decide) (by omega:i<=8)
       by_cases him:i<m
       . have Hq:Hid (q * 10=10 ^ (i+1)):=by show _=_;rw [hq,Nat.pow_succ]
         clear hq;go_wp2_with fail;go_roundw
         case rel=>exact⟨i+1,q * 10,by omega,by go_num,by go_num,Hq.out,by trivial⟩
         case measure=>simp [intOf];omega
       . have cE:i=m:=by omega
         have Hq:Hid (aet x=(q:Int)):=by show _=_;rw [Hm.out,hq,cE]
         have aR:Hid ((wr.alloc (.cells #[.int .i64 (q:Int)] 3)).ownsRow W2.heap.size 3 1 v (abh (L.take j)).length ((abh (L.take j)).map (Value.int .i64))):=bI.out.own.alloc _;have dv:(abh (L.take j)).length<=40:=by rw [aeZ,Aar];omega
         have dj:=bI.out.old.size;clear hq cE;go_wp2_with (at_builtin;refine wpList_append_own_at _ rfl _ _ 26 rfl W2.heap.size 3 i0 (.int .i64 0) 1 8 Tryz.underlying26 hi dg dh di rfl (by decide) v _ _ rfl aR.out ⟨wr.heap.size,0,none⟩ 1 1 [.int .i64 (q:Int)] rfl rfl (cell_one_new _ _ _) ?_ ?_ ?_ ?_ ?_)
         . intro u hu;simp at hu;subst hu;rfl
         . unfold maxLen;omega
         . omega
         . simp;omega
         . intro v7 w7 aO aN cp c3
           have bu:apq W2 w7 v7 (abh (L.take (j+1))):=by
            refine⟨?_,(bI.out.old.alloc dj _).grown aN (by simp;omega) (fun kk cH=>(bI.out.own.lt kk cH).1)⟩;rw [az.out,Aai,Aa5,Aav,Hq.out];exact aO
           have bZ:=hid bu;clear aO aN cp c3 bu;go_wp2_with fail;go_roundw
           case rel=>exact⟨j+1,v7,rfl,by omega,by go_num,bZ.out⟩
           case measure=>simp [intOf];omega
    . have bx:j=n:=by omega
      have aE:=a8.own;rw [bx,<-cy.out,Aay] at aE;have aR:=hid aE;obtain⟨aY,s1⟩:=aM.out wo (ao.out.trans (a8.old.mono ao.out.size));have aY:=hid aY;obtain⟨d0,d1⟩:=(aah (cs:=[_,_]) s1).get2;rw [Aab] at d1;have g0:=aat s1 0;have g1:=aat s1 1;have zX:UX<wo.heap.size:=aac d0;have an:w.heap.size<=UX∧w.heap.size<=W2.heap.size∧UX<W2.heap.size:=by have:=aw.out;have:=ao.out.size;omega
      have ae:=hid an;clear a8 bx aE s1 an;go_wp2_with fail;have q:=abj (w:=wo) (u := .int .i64 0) (v := .int .i64 0) d0 d1;refine bodyPost_ret (adO rfl rfl rfl (c:=0) (a:=0) (W:=_) ?_ ?_) rfl (ad.out _ _ v ?_ rfl ⟨?_,fun x hx=>by have:=alC L x hx;unfold I64;omega⟩)
      . exact q.1
      . exact q.2
      . exact ((aY.out.setCell (p:=⟨UX,0,none⟩) ae.out.1 _).setCell (p:=⟨UX,1,none⟩) ae.out.1 _)
      . have h:∀a,World.ownsRow a w.heap.size 3 1 v (abh L).length ((abh L).map (Value.int .i64))=World.ownsRow a w.heap.size 3 1 v (abh L).length ((abh L).map fun x=>Value.int .i64 x):=fun _=>rfl
        rw [<-h];have h2:=ownsRow_setCell_below (a:=⟨UX,1,none⟩) (ownsRow_setCell_below (a:=⟨UX,0,none⟩) aR.out ae.out.2.2 (.int .i64 0)) ae.out.2.2 (.int .i64 0);refine⟨h2.1,?_⟩;rcases h2.2 with h1 | ⟨g9,cap,cur,e,h3,h4,h5⟩
        . exact .inl h1
        . exact .inr ⟨g9,cap,cur,e,by have:=ae.out.2.1;omega,h4,h5⟩
end
section
open Go.RowKit
end
end Go.Proofs.YtnkfdeiigplhoaaGreatDoor
