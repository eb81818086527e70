import Derived.Test.YtgekbfgplclmeaaDoorPUnrB
import Derived.Test.YtgekbfgplclmeaaDoorPUnrC3
/- code.Ahead of a unit in its form; turnerylaw6.weighFits. turnerylaw6.weighFits: are there as many counts as blocks? unroll.find: is a block a loop of its own? unroll.Rounds. UnrollOther: the law's walk. -/
set_option maxHeartbeats 4000000
set_option maxRecDepth 100000
namespace Go.Proofs.YtgekbfgplclmeaaDoor
section
open Go.RowKit
theorem ahS {S : Nat -> Prop} (nm : ByteArray) (p r : Int) (ba : Option Addr) (bc : Nat) (bs : List aad) (n : Nat) (w : World) (hb : SlAt S w 6 aa2 (.slice ba n bc) bs) (aA : bs.length = n) (hn : n <= 1048576)
 (cy:∀(k:Nat) (x:aad),bs[k]?=some x->x.fin.to.length<=2∧∀t∈x.fin.to,0<=t∧t<(bs.length:Int)) :
 Calls Tryd.prog 22 #[.agg #[.string nm,.int .i64 p,.int .i64 r,.slice ba n bc]] w fun e w' =>
  ∃a c,e = .returned (.slice a n c)∧SlAt (fun b=>w.heap.size<=b) w' 1 rRow (.slice a n c) (aheadF bs)∧Below w.heap.size w w':=by
 subst aA;refine (aga nm p r ba bc bs w hb hn cy).mono ?_;rintro e w' ⟨v,rfl,hv,hb⟩;obtain⟨a,c,rfl⟩:=amt hv;have hl:(aheadF bs).length=bs.length:=by unfold aheadF;simp
 rw [hl] at hv ⊢;exact⟨a,c,rfl,hv,hb⟩
theorem ajn {fn : Func} (ax : fn.results = #[.tmp 4, .cell 5 28]) {tmps : Array Value} {b : Nat} {v : Value} (hv : tmps.getD 4 undef = v) (ht : tmps.getD 5 undef = .pointer (some ⟨b, 0, none⟩)) {c a : Int} {W : World}
 (h0:W.cell? ⟨b,0,none⟩=some (.int .i64 c)) (h1:W.cell? ⟨b,1,none⟩=some (.int .i64 a)):(results fn tmps).run Tryd.prog W = .ok (.tuple #[v,.agg #[.int .i64 c,.int .i64 a]]) W:=by
 simp only [Abl] at ht hv;simp [results,ax,ht,hv,go_sem,h0,h1]
theorem afA {S : Nat -> Prop} (ga : Option Addr) (gc : Nat) (fa : Option Addr) (fc : Nat) (gs : List aat) (fs : List aal) (kk : Nat) (w : World)
 (hg:SlAt S w 3 abd (.slice ga gs.length gc) gs) (hf:SlAt S w 4 abT (.slice fa fs.length fc) fs) (hw:ab5 w)
 (bm:gs.length<=1048576) (bk:fs.length<=1048576) (a7:∀(k:Nat) (f:aal),fs[k]?=some f->aa1 f.blocks<=1048576∧f.blocks.length<=1048576)
 (b3:aak ⟨gs,fs⟩=(0,0)) (b7:kk<fs.length) :
 Calls Tryd.prog 7 #[.agg #[.slice ga gs.length gc,.slice fa fs.length fc],.int .i64 kk] w fun e w' =>
  ∃a c,e = .returned (.tuple #[.slice a fs[kk].blocks.length c,.agg #[.int .i64 0,.int .i64 0]])∧SlAt (fun b=>w.heap.size<=b) w' 1 rRow (.slice a fs[kk].blocks.length c) (aheadF fs[kk].blocks)∧Below w.heap.size w w':=by
 have Hg:=hid hg;have Hf:=hid hf;have Hw:=hid hw;have bg:=hid a7;have bV:=hid b3;clear hg hf hw a7 b3;go_enter Tryd.func7,Tryd.ntmps7;obtain⟨W,hW⟩:∃W,W=(w.alloc (.cells #[.slice ga gs.length gc,.slice fa fs.length fc] 25)).alloc (.cells #[.int .i64 0,.int .i64 0] 28):=⟨_,rfl⟩
 have ar:Below w.heap.size w W:=by rw [hW];exact bE
 have br:=hid ar;have W0:Hid (W.cell? ⟨w.heap.size,0,none⟩=some (.slice ga gs.length gc)):=by show _=_;rw [hW];simp
 have W1:Hid (W.cell? ⟨w.heap.size,1,none⟩=some (.slice fa fs.length fc)):=by show _=_;rw [hW];simp
 have R0:Hid (W.cell? ⟨w.heap.size+1,0,none⟩=some (.int .i64 0)):=by show _=_;rw [hW];simp
 have R1:Hid (W.cell? ⟨w.heap.size+1,1,none⟩=some (.int .i64 0)):=by show _=_;rw [hW];simp
 have F0:Hid (W.frozen? ⟨w.heap.size+1,0,none⟩=false):=by show _=_;rw [hW];simp
 have F1:Hid (W.frozen? ⟨w.heap.size+1,1,none⟩=false):=by show _=_;rw [hW];simp
 have b1:W.heap.size=w.heap.size+2:=by rw [hW];simp
 go_wp2_with fail;rw [<-hW];have bf:ab5 W:=ab5.below Hw.out ar;refine (aeu (S:=S) ga gc fa fc gs fs W (Hg.out.later aaC ar) (Hf.out.later aan ar) bf bm bk bg.out).mono ?_;rintro e w1 ⟨rfl,az⟩;have g0:=aab W0.out az;have g1:=aab W1.out az;have g2:=aab R0.out az;have g3:=aab R1.out az;have k2:=(az.frozen (p:=⟨w.heap.size+1,0,none⟩) (by simp;omega)).trans F0.out;have k3:=(az.frozen (p:=⟨w.heap.size+1,1,none⟩) (by simp;omega)).trans F1.out;have z1:w.heap.size+1<w1.heap.size:=aac g2;have z0:w.heap.size<w1.heap.size:=aac g0;rw [bV.out];have ak:Hid (Below w.heap.size w w1):=br.out.trans (az.mono (by omega));clear az hW ar bf;obtain⟨b,off,xa,xc,rfl,al,aP,-,-⟩:=acM Hf.out b7;obtain⟨c0,c1,c2,c3⟩:=(al.later ak.out).get4;obtain⟨n1,n2,n3⟩:=agT (u:=⟨gs,fs⟩) (k:=kk) (f:=fs[kk]) (by rw [bV.out]) (Aaa b7);have N3:=hid n3;have bh:=hid aP;have cD:b<w1.heap.size:=aac c3;have cz:decide ((0:Int)<=(kk:Int)∧(kk:Int)<=(fs.length:Int) - 1)=true:=decide_eq_true ⟨by omega,by omega⟩;clear al n3 aP
 go_wp2_with (first
  | (go_at_call 20; ((with_reducible refine (aah _ _ _ _).mono ?_); rintro e w' ⟨rfl, rfl⟩; rw [cz])))
 refine (ahS _ _ _ xa xc fs[kk].blocks _ _ (bh.out.later aam ?_) rfl (by omega) ?_).mono ?_
 . have h:=ak.out;exact bE1 h
 . intro i x hx
   have h:=adR (N3.out i x hx);refine⟨by omega,fun t ht=>?_⟩;have:=h.2.2.2.1 t ht;omega
 . rintro e w2 ⟨a,c,rfl,hv,bD⟩
   have aS:Below w1.heap.size w1 w2:=by exact bE1 bD
   have g4:=aab g2 aS;have g5:=aab g3 aS;have k4:=(aS.frozen (p:=⟨w.heap.size+1,0,none⟩) z1).trans k2;have k5:=(aS.frozen (p:=⟨w.heap.size+1,1,none⟩) z1).trans k3;have Hv:=hid hv;have cm:=hid aS;clear hv aS bD;go_wp2_with fail;have q:=aaU (u := .int .i64 0) (v := .int .i64 0) g4 g5;refine bodyPost_ret (ajn rfl rfl rfl (c:=0) (a:=0) q.1 q.2) rfl ⟨_,_,rfl,?_,?_⟩
   . refine Hv.out.mono aau (fun b hb=>?_) ((agL _ ?_).trans (agL _ ?_))
     . simp at hb;omega
     . intro b hb;simp at hb;simp;omega
     . intro b hb;simp at hb;simp;omega
   . have h:=ak.out;have h2:=cm.out;exact bE2 h2 h
end
section
open Go.RowKit
theorem ahi {S:Nat->Prop}{w:World}{a:Option Addr}{n c:Nat}{l:List (List Int)}(h:SlAt S w 1 rRow (.slice a n c) l){t:Nat}(ht:t<l.length):∃b off ra rc,a=some ⟨b,off,none⟩∧w.cell? ⟨b,off+t,none⟩=some (.slice ra l[t].length rc)∧SlAt S w 1 abe (.slice ra l[t].length rc) l[t]:=by
 obtain⟨b,off,cs,ha,-,⟨v,rfl,hv⟩,-,al⟩:=h.get ht;have d:=al.get1;rw [Aam] at d;obtain⟨ra,rc,rfl,-⟩:=hv.val;exact⟨b,off,ra,rc,ha,d,hv⟩
end
section
open Go.RowKit
theorem adE {fn : Func} (ax : fn.results = #[.cell 6 69, .tmp 7]) {tmps : Array Value} {b : Nat} {v : Value} (hv : tmps.getD 7 undef = v) (ht : tmps.getD 6 undef = .pointer (some ⟨b, 0, none⟩)) {x y z : Int} {W : World}
 (h0:W.cell? ⟨b,0,none⟩=some (.int .i64 x)) (h1:W.cell? ⟨b,1,none⟩=some (.int .i64 y)) (h2:W.cell? ⟨b,2,none⟩=some (.int .i64 z)):(results fn tmps).run Tryd.prog W = .ok (.tuple #[.agg #[.int .i64 x,.int .i64 y,.int .i64 z],v]) W:=by
 simp only [Abl] at ht hv;simp [results,ax,ht,hv,go_sem,h0,h1,h2]
theorem ah4(w:World)(a b c:Obj):(((w.alloc a).alloc b).alloc c).heap.size=w.heap.size+3∧(((w.alloc a).alloc b).alloc c).heap[w.heap.size]?=some a∧(((w.alloc a).alloc b).alloc c).heap[w.heap.size+1]?=some b∧(((w.alloc a).alloc b).alloc c).heap[w.heap.size+1+1]?=some c:=by
 have hs:∀(v:World) (o:Obj),(v.alloc o).heap.size=v.heap.size+1:=fun v o=>by simp
 have s1:=hs w a;have s2:=hs (w.alloc a) b;have s3:=hs ((w.alloc a).alloc b) c;have e1:=heap_alloc_new w a;have e2:=heap_alloc_new (w.alloc a) b;have e3:=heap_alloc_new ((w.alloc a).alloc b) c;rw [s1] at e2;rw [s2,s1] at e3;refine⟨by omega,?_,?_,e3⟩
 . rw [Below.heap_alloc _ _ _ (by omega),Below.heap_alloc _ _ _ (by omega)];exact e1
 . rw [Below.heap_alloc _ _ _ (by omega)];exact e2
theorem aiT {l:List Int}{s:Int}:aht l s=true↔s∈l:=by
 unfold aht abj;cases h:l.findIdx? (fun x=>decide (s=x)) with
 | none =>
   rw [List.findIdx?_eq_none_iff] at h;simp only [decide_eq_true_eq];refine⟨fun h=>by omega,fun hm=>?_⟩;have:=h s hm;simp at this
 | some k =>
   rw [List.findIdx?_eq_some_iff_getElem] at h;obtain⟨h1,h2,-⟩:=h;simp only [decide_eq_true_eq] at h2 ⊢;exact⟨fun _=>by rw [h2];exact Aai _,fun _=>by omega⟩
theorem ak4 {l:List Int}{s:Int}(h2:l.length=2)(hm:s∈l):abj l s=if l.getD 0 0=s then 0 else 1:=by
 match l,h2 with
 | [x,y],_ =>
   simp only [Aax,List.not_mem_nil,or_false] at hm;unfold abj
   by_cases h:x=s
   . subst h;simp [List.findIdx?_cons]
   . have hy:s=y:=by
      rcases hm with h1 | h1
      . exact absurd h1.symm h
      . exact h1
     subst hy;have h':¬s=x:=fun e=>h e.symm;simp [List.findIdx?_cons,h,h']
def acX(bs:List aad)(b:Nat)(w:World)(e:Ending)(w':World):Prop:=∃x y z:Int,e = .returned (.tuple #[.agg #[.int .i64 x,.int .i64 y,.int .i64 z],.bool (acg bs b).isSome])∧(∀k,acg bs b=some k->x=(k:Int)∧y=((1 - k:Nat):Int))∧Below w.heap.size w w'
theorem aj3 {S S' : Nat -> Prop} (nm : ByteArray) (ba : Option Addr) (bc : Nat) (f : aal) (aa : Option Addr) (ac : Nat) (b : Nat) (w : World) (hf : agQ f) (aw : b < f.blocks.length)
 (hb:SlAt S w 6 aa2 (.slice ba f.blocks.length bc) f.blocks) (ha:SlAt S' w 1 rRow (.slice aa f.blocks.length ac) (aheadF f.blocks)) :
 Calls Tryd.prog 17 #[.agg #[.string nm,.int .i64 f.params,.int .i64 f.regs,.slice ba f.blocks.length bc],.slice aa f.blocks.length ac,.int .i64 (b:Int)] w fun e w' =>
  acX f.blocks b w e w':=by
 have a1:=hf.len.2;obtain⟨x,hx⟩:∃x,x=f.blocks[b]:=⟨_,rfl⟩
 have bp:f.blocks[b]?=some x:=by rw [hx];exact Aaa aw
 obtain⟨xb,bS,pa,pc,cG,lc,ta,tc,bG,al,-,-,bO,-,-⟩:=adr hb aw;subst bG;have bj:(aheadF f.blocks).length=f.blocks.length:=by unfold aheadF;simp
 obtain⟨rb,cA,ra,rc,bJ,r0,aC⟩:=ahi ha (t:=b) (by rw [bj];exact aw);subst bJ;have b9:(aheadF f.blocks)[b]'(by rw [bj];exact aw)=aag f.blocks 0 b:=by
  have h:=abJ aw;rw [Aab,Aaa (by rw [bj];exact aw)] at h;exact h
 rw [b9] at r0 aC;rw [<-hx] at al bO;obtain⟨-,-,d2,d3,d4,d5⟩:=al.get6;have bo:=hf.kind b x bp
 have bI : (aag f.blocks 0 b).length <= 2 * f.blocks.length := acw b f.blocks 0 (fun y hy => by
  obtain ⟨i, hi, rfl⟩ := Aav hy
  exact (hf.tgt i _ (Aaa hi)).1)
 obtain⟨kd,aM⟩:∃kd,kd=x.fin.kind:=⟨_,rfl⟩
 obtain⟨P,hP⟩:∃P,P=aag f.blocks 0 b:=⟨_,rfl⟩
 obtain⟨tn,bM⟩:∃tn,tn=x.fin.to.length:=⟨_,rfl⟩
 have ai:Hid (acg f.blocks b=if kd=3∧(x.fin.to.getD 0 0=(b:Int)∨x.fin.to.getD 1 0=(b:Int))∧P.length=2 then some (if P.getD 0 0=(b:Int) then 1 else 0) else none):=by
  show _=_;unfold acg;rw [bp];dsimp only;rw [<-aM,<-hP]
 rw [<-hP] at r0 aC bI;rw [<-aM] at d2 bo;rw [<-bM] at d5 bo;have bt:=hid aC;have cp:=hid bO;have zx:xb<w.heap.size:=aac d2;have zr:rb<w.heap.size:=aac r0;obtain⟨bn,aA⟩:∃bn,bn=f.blocks.length:=⟨_,rfl⟩
 have cr:=hid bp;have HP:=hid hP;have cn:=hid bM;have b5:=bo.2.2.1;have bu:Hid (kd=3->x.fin.to.length=2):=fun h=>by omega
 rw [<-aA] at aw a1 bI ⊢;clear al bO aC bo aM hP bM hx bp b9 bj hb ha hf aA;obtain⟨rg,cb⟩:∃rg,rg=x.fin.on.reg:=⟨_,rfl⟩
 obtain⟨on,b8⟩:∃on,on=x.fin.on.n:=⟨_,rfl⟩
 rw [<-cb] at d3;rw [<-b8] at d4;clear cb b8;obtain⟨W,hW⟩:∃W,W=((w.alloc (.cells #[.string nm,.int .i64 f.params,.int .i64 f.regs,.slice (some ⟨xb,bS,none⟩) bn bc] 40)).alloc (.cells #[.int .i64 0,.int .i64 0,.int .i64 0] 69)).alloc (.cells #[.int .i64 kd,.bool rg,.int .i64 on,.slice ta tn tc] 44):=⟨_,rfl⟩
 have aD:Hid (Below w.heap.size w W):=by show Below _ _ _;rw [hW];exact bE
 obtain⟨zW,-,bC,bB⟩:W.heap.size=w.heap.size+3∧W.heap[w.heap.size]?=_∧W.heap[w.heap.size+1]?=_∧W.heap[w.heap.size+1+1]?=_:=by rw [hW];exact ah4 _ _ _ _
 have aQ:Hid (aaj W (w.heap.size+1) 0 [.int .i64 0,.int .i64 0,.int .i64 0]):=fun j v hj=>by rw [aaH bC,Aac,List.getElem?_toArray];exact hj
 have aE:∀(a b c:Int) (V:World),aaj V (w.heap.size+1) 0 [.int .i64 0,.int .i64 0,.int .i64 0]->aaj (((V.setCell ⟨w.heap.size+1,0,none⟩ (.int .i64 a)).setCell ⟨w.heap.size+1,1,none⟩ (.int .i64 b)).setCell ⟨w.heap.size+1,2,none⟩ (.int .i64 c)) (w.heap.size+1) 0 [.int .i64 a,.int .i64 b,.int .i64 c]:=fun a b c V h=>amP h;have af:=hid aE;clear aE;have v0:W.cell? ⟨w.heap.size+1+1,0,none⟩=some (.int .i64 kd):=by rw [aaH bB];rfl
 have v3:W.cell? ⟨w.heap.size+1+1,3,none⟩=some (.slice ta tn tc):=by rw [aaH bB];rfl
 have bl:∀i,W.frozen? ⟨w.heap.size+1,i,none⟩=false:=fun i=>by simp [World.frozen?,bC]
 have z0:=bl 0;have z1:=bl 1;have z2:=bl 2;obtain⟨y0,y1,y2⟩:=aQ.out.get3;have cj:=aab r0 aD.out;have HW:=hid hW;clear hW bl bC bB;go_enter Tryd.func17,Tryd.ntmps17;go_upto_region 2 with (fail)
 rw [<-HW.out];clear r0
 by_cases h3:kd=3
 case neg =>
  have Hs:Hid (acg f.blocks b=none):=by show _=_;rw [ai.out,if_neg (fun h=>h3 h.1)]
  have q0:(decide (kd<3)||decide (3<kd))=true:=by rw [Bool.or_eq_true,decide_eq_true_eq,decide_eq_true_eq];omega
  clear h3 b5;go_wp2_with fail;obtain⟨e0,e1,e2⟩:=(af.out 0 0 0 _ aQ.out).get3;refine bodyPost_ret (adE (v := .bool false) rfl rfl rfl e0 e1 e2) rfl ?_;unfold acX;refine⟨0,0,0,by rw [Hs.out];rfl,fun k hk=>(by rw [Hs.out] at hk;cases hk),?_⟩;have h:=aD.out;exact bE1 h
 case pos =>
  subst h3;have aO:=bu.out rfl;have bN:tn=2:=cn.out.trans aO;subst bN;have aJ:=hid (cp.out.later aaf aD.out)
  by_cases hp2:P.length=2
  case neg =>
   have Hs:Hid (acg f.blocks b=none):=by show _=_;rw [ai.out,if_neg (fun h=>hp2 h.2.2)]
   obtain⟨pn,ca⟩:∃pn,pn=P.length:=⟨_,rfl⟩
   rw [<-ca] at cj hp2 bI;have q0:(decide ((pn:Int)<2)||decide ((2:Int)<(pn:Int)))=true:=by rw [Bool.or_eq_true,decide_eq_true_eq,decide_eq_true_eq];omega
   clear ca hp2 aO;go_wp2_with fail;obtain⟨e0,e1,e2⟩:=(af.out 0 0 0 _ aQ.out).get3;refine bodyPost_ret (adE (v := .bool false) rfl rfl rfl e0 e1 e2) rfl ?_;unfold acX;refine⟨0,0,0,by rw [Hs.out];rfl,fun k hk=>(by rw [Hs.out] at hk;cases hk),?_⟩;have h:=aD.out;exact bE1 h
  case pos =>
   rw [hp2] at cj;have aH:=hid (aew ta 2 tc x.fin.to (b:Int) W (by have h:=aJ.out;rw [aO] at h;exact h) aO (by omega));have aB:x.fin.to.getD 0 0=(b:Int)∨x.fin.to.getD 1 0=(b:Int)↔(b:Int)∈x.fin.to:=by
    match h:x.fin.to,aO with
    | [p,q],_=>simp [eq_comm]
   cases hc:aht x.fin.to (b:Int) with
   | false =>
     have Hs:Hid (acg f.blocks b=none):=by
      show _=_;rw [ai.out,if_neg (fun h=>by rw [aiT.2 (aB.1 h.2.1)] at hc;cases hc)]
     have Hc:=hid hc;clear hc hp2 aO aB;go_wp2_with (go_at_call 33;((with_reducible refine aH.out.mono ?_);rintro e w' ⟨rfl,rfl⟩;rw [Hc.out]));obtain⟨e0,e1,e2⟩:=(af.out 0 0 0 _ aQ.out).get3;refine bodyPost_ret (adE (v := .bool false) rfl rfl rfl e0 e1 e2) rfl ?_;unfold acX;refine⟨0,0,0,by rw [Hs.out];rfl,fun k hk=>(by rw [Hs.out] at hk;cases hk),?_⟩;have h:=aD.out;exact bE1 h
   | true =>
     have hm:=aiT.1 hc;have bZ:(b:Int)∈P:=by
      have h:=aeK (s:=0) cr.out hm;rw [Aac] at h;rw [HP.out];exact h
     have aL:=ak4 hp2 bZ;have Hs:Hid (acg f.blocks b=some (if P.getD 0 0=(b:Int) then 1 else 0)):=by
      show _=_;rw [ai.out,if_pos ⟨rfl,aB.2 hm,hp2⟩]
     have aV:Hid (SlAt S' W 1 abe (.slice ra 2 rc) P):=by
      have h:=bt.out.later aaf aD.out;rw [hp2] at h;exact h
     have aI:=hid (acP ra 2 rc P (b:Int) W aV.out hp2 (by omega));obtain⟨tb,cB,bL,t0⟩:=afJ aJ.out (t:=0) (by omega);obtain⟨cH,ck,a8,t1⟩:=afJ aJ.out (t:=1) (by omega);subst bL;cases a8;obtain⟨aF,bd⟩:∃aF,aF=x.fin.to[0]'(by omega):=⟨_,rfl⟩
     obtain⟨bR,be⟩:∃bR,bR=x.fin.to[1]'(by omega):=⟨_,rfl⟩
     rw [<-bd,Aas] at t0;rw [<-be] at t1;have cI:tb<W.heap.size:=aac t0;have Hc:=hid hc;clear hc hp2 aO aB hm bZ bd be b5;have cw:abj P (b:Int)=0∨abj P (b:Int)=1:=by rw [aL];split <;> simp
     have bz:Hid (∃k,acg f.blocks b=some k∧(1 - abj P (b:Int))=(k:Int)∧abj P (b:Int)=((1 - k:Nat):Int)):=by
      refine⟨_,Hs.out,?_,?_⟩ <;> rw [aL] <;> split <;> simp
     obtain⟨ix,b4⟩:∃ix,ix=abj P (b:Int):=⟨_,rfl⟩
     rw [<-b4] at aI bz cw;clear aL b4
     by_cases he:aF=(b:Int)
     . have q0:(decide (aF<=(b:Int))&&decide ((b:Int)<=aF))=true:=aey he
       clear he
       go_wp2_with (first
        | (go_at_call 33; ((with_reducible refine aH.out.mono ?_); rintro e w' ⟨rfl, rfl⟩; rw [Hc.out]))
        | (go_at_call 34; ((with_reducible refine aI.out.mono ?_); rintro e w' ⟨rfl, rfl⟩)))
       obtain⟨e0,e1,e2⟩:=(af.out (1 - ix) ix bR _ aQ.out).get3;obtain⟨k,k1,k2,k3⟩:=bz.out;refine bodyPost_ret (adE (v := .bool true) rfl rfl rfl e0 e1 e2) rfl ?_;unfold acX;refine⟨_,_,_,by rw [k1];rfl,fun k' hk=>(by rw [k1] at hk;cases hk;exact⟨k2,k3⟩),?_⟩;have h:=aD.out;exact bE1 h
     . have q0:(decide (aF<=(b:Int))&&decide ((b:Int)<=aF))=false:=afE he
       clear he
       go_wp2_with (first
        | (go_at_call 33; ((with_reducible refine aH.out.mono ?_); rintro e w' ⟨rfl, rfl⟩; rw [Hc.out]))
        | (go_at_call 34; ((with_reducible refine aI.out.mono ?_); rintro e w' ⟨rfl, rfl⟩)))
       obtain⟨e0,e1,e2⟩:=(af.out (1 - ix) ix aF _ aQ.out).get3;obtain⟨k,k1,k2,k3⟩:=bz.out;refine bodyPost_ret (adE (v := .bool true) rfl rfl rfl e0 e1 e2) rfl ?_;unfold acX;refine⟨_,_,_,by rw [k1];rfl,fun k' hk=>(by rw [k1] at hk;cases hk;exact⟨k2,k3⟩),?_⟩;have h:=aD.out;exact bE1 h
end
section
open Go.RowKit
def aaB(u:aax)(k b:Int):Int×Int×Int :=
 if adk u≠(0,0) then (0,(adk u).1,(adk u).2)
 else match aj4 u.funcs k with
  | none=>(0,3,-1)
  | some f=>if b<0∨(f.blocks.length:Int)<=b then (0,3,-1) else (unrF f.blocks b.toNat,0,0)
theorem agD {fn : Func} (ax : fn.results = #[.tmp 6, .cell 7 28]) {tmps : Array Value} {b : Nat} {v : Value} (hv : tmps.getD 6 undef = v) (ht : tmps.getD 7 undef = .pointer (some ⟨b, 0, none⟩)) {c a : Int} {W : World}
 (h0:W.cell? ⟨b,0,none⟩=some (.int .i64 c)) (h1:W.cell? ⟨b,1,none⟩=some (.int .i64 a)):(results fn tmps).run Tryd.prog W = .ok (.tuple #[v,.agg #[.int .i64 c,.int .i64 a]]) W:=by
 simp only [Abl] at ht hv;simp [results,ax,ht,hv,go_sem,h0,h1]
def ae8(u:aax)(k b:Int)(w:World)(e:Ending)(w':World):Prop:=∃n p q:Int,aaB u k b=(n,p,q)∧e = .returned (.tuple #[.int .i64 n,.agg #[.int .i64 p,.int .i64 q]])∧Below w.heap.size w w'
theorem afr {S : Nat -> Prop} (ga : Option Addr) (gc : Nat) (fa : Option Addr) (fc : Nat) (gs : List aat) (fs : List aal) (k b : Int) (w : World) (hk : I64 k) (hb : I64 b)
 (hg:SlAt S w 3 abd (.slice ga gs.length gc) gs) (hf:SlAt S w 4 abT (.slice fa fs.length fc) fs) (hw:ab5 w) (hS:∀b,S b->b<w.heap.size)
 (bm:gs.length<=1048576) (bk:fs.length<=1048576) (a7:∀(k:Nat) (f:aal),fs[k]?=some f->aa1 f.blocks<=1048576∧f.blocks.length<=1048576) :
 Calls Tryd.prog 6 #[.agg #[.slice ga gs.length gc,.slice fa fs.length fc],.int .i64 k,.int .i64 b] w fun e w'=>ae8 ⟨gs,fs⟩ k b w e w':=by
 obtain⟨cE,cF⟩:=hk;obtain⟨az,bD⟩:=hb;have Hg:=hid hg;have Hf:=hid hf;have Hw:=hid hw;have bg:=hid a7;have HS:=hid hS;clear hg hf hw a7 hS;go_enter Tryd.func6,Tryd.ntmps6;obtain⟨W,hW⟩:∃W,W=(w.alloc (.cells #[.slice ga gs.length gc,.slice fa fs.length fc] 25)).alloc (.cells #[.int .i64 0,.int .i64 0] 28):=⟨_,rfl⟩
 have ar:Below w.heap.size w W:=by rw [hW];exact bE
 have br:=hid ar;have W0:Hid (W.cell? ⟨w.heap.size,0,none⟩=some (.slice ga gs.length gc)):=by show _=_;rw [hW];simp
 have W1:Hid (W.cell? ⟨w.heap.size,1,none⟩=some (.slice fa fs.length fc)):=by show _=_;rw [hW];simp
 have R0:Hid (W.cell? ⟨w.heap.size+1,0,none⟩=some (.int .i64 0)):=by show _=_;rw [hW];simp
 have R1:Hid (W.cell? ⟨w.heap.size+1,1,none⟩=some (.int .i64 0)):=by show _=_;rw [hW];simp
 have F0:Hid (W.frozen? ⟨w.heap.size+1,0,none⟩=false):=by show _=_;rw [hW];simp
 have F1:Hid (W.frozen? ⟨w.heap.size+1,1,none⟩=false):=by show _=_;rw [hW];simp
 have b1:W.heap.size=w.heap.size+2:=by rw [hW];simp
 go_wp2_with fail;rw [<-hW];have bf:ab5 W:=ab5.below Hw.out ar;refine (agJ (S:=S) ga gc fa fc gs fs W (Hg.out.later aaC ar) (Hf.out.later aan ar) bf (fun b hb=>by have:=HS.out b hb;omega) bm bk bg.out).mono ?_;rintro e w1 ⟨rfl,ag⟩;have g0:=aab W0.out ag;have g1:=aab W1.out ag;have g2:=aab R0.out ag;have g3:=aab R1.out ag;have k2:=(ag.frozen (p:=⟨w.heap.size+1,0,none⟩) (by simp;omega)).trans F0.out;have k3:=(ag.frozen (p:=⟨w.heap.size+1,1,none⟩) (by simp;omega)).trans F1.out;have z1:w.heap.size+1<w1.heap.size:=aac g2;have z0:w.heap.size<w1.heap.size:=aac g0;obtain⟨c,hc⟩:∃c,c=(adk ⟨gs,fs⟩).1:=⟨_,rfl⟩
 obtain⟨d,hd⟩:∃d,d=(adk ⟨gs,fs⟩).2:=⟨_,rfl⟩
 have aU:Hid (adk ⟨gs,fs⟩=(c,d)):=by show _=_;rw [hc,hd]
 rw [<-hc,<-hd];have ak:Hid (Below w.heap.size w w1):=br.out.trans (ag.mono (by omega));clear ag hW ar hc hd bf W0 W1 R0 R1 F0 F1 b1
 by_cases hok:c=0∧d=0
 . obtain⟨rfl,rfl⟩:=hok
   have aZ:∀(n:Nat) (V:World) (e:Ending),aaB ⟨gs,fs⟩ k b=(0,3,-1)->e = .returned (.tuple #[.int .i64 0,.agg #[.int .i64 3,.int .i64 (-1)]])->Below w.heap.size w V->ae8 ⟨gs,fs⟩ k b w e V:=fun _ V e h1 h2 h3=>⟨0,3,-1,h1,h2,h3⟩
   have aG:=hid aZ;clear aZ;cases hfk:aj4 fs k with
   | none =>
     have Hr:Hid (aaB ⟨gs,fs⟩ k b=(0,3,-1)):=by
      show _=_;unfold aaB;rw [aU.out,if_neg (by simp)];dsimp only;rw [hfk]
     have aK:=aiO hfk;clear hfk
     by_cases hk0:k<0
     all_goals
      go_wp2_with fail;have q:=aaU (w:=w1) (u := .int .i64 3) (v := .int .i64 (-1)) g2 g3;obtain⟨V,hV⟩:∃V,V=(w1.setCell ⟨w.heap.size+1,0,none⟩ (.int .i64 3)).setCell ⟨w.heap.size+1,1,none⟩ (.int .i64 (-1)):=⟨_,rfl⟩
      have aq:Below w.heap.size w V:=by
       rw [hV];exact (ak.out.setCell (p:=⟨w.heap.size+1,0,none⟩) (by dsimp only;omega) _).setCell (p:=⟨w.heap.size+1,1,none⟩) (by dsimp only;omega) _
      rw [<-hV] at q ⊢;have ad:Below V.heap.size V (V.alloc (.cells #[.int .i64 0,.int .i64 0] 28)):=by exact bE
      exact bodyPost_ret (agD (v := .int .i64 0) rfl rfl rfl (c:=3) (a := -1) (aab q.1 ad) (aab q.2 ad)) rfl (aG.out 0 _ _ Hr.out rfl (aq.trans (ad.mono aq.size)))
   | some x =>
     obtain⟨kn,rfl,a6⟩:=agq hfk;have b6:kn<fs.length:=(Aae.1 a6).1;have ax:=ajs aU.out a6;obtain⟨fb,bA,xa,xc,rfl,al,aP,-,-⟩:=acM (Hf.out.later aan ak.out) b6;obtain⟨c0,c1,c2,c3⟩:=al.get4;have zf:fb<w1.heap.size:=aac c0;have bQ:fs[kn]=x:=(Aae.1 a6).2;have bT:=hid (fun (V:World) (hV:Below w.heap.size w V)=>afA (S:=S) ga gc (some ⟨fb,bA,none⟩) fc gs fs kn V (Hg.out.later aaC hV) (Hf.out.later aan hV) (ab5.below Hw.out hV) bm bk bg.out (acU aU.out).1 b6);rw [bQ] at c0 c1 c2 c3 aP bT;have hr:aaB ⟨gs,fs⟩ (kn:Int) b=if b<0∨(x.blocks.length:Int)<=b then (0,3,-1) else (unrF x.blocks b.toNat,0,0):=by
      unfold aaB;rw [aU.out,if_neg (by simp)];dsimp only;rw [hfk]
     have bP:=ax.1.len.2;obtain⟨bn,aA⟩:∃bn,bn=x.blocks.length:=⟨_,rfl⟩
     have bh:=hid aP;have bW:=hid ax;have aT:=hid aA;rw [<-aA] at c3 hr bP
     by_cases hbr:b<0∨(bn:Int)<=b
     . have Hr:Hid (aaB ⟨gs,fs⟩ (kn:Int) b=(0,3,-1)):=by show _=_;rw [hr,if_pos hbr]
       clear hr hfk a6 ax al aP bQ aA
       by_cases hb0:b<0
       all_goals
        go_wp2_with fail;have q:=aaU (w:=w1) (u := .int .i64 3) (v := .int .i64 (-1)) g2 g3;obtain⟨V,hV⟩:∃V,V=(w1.setCell ⟨w.heap.size+1,0,none⟩ (.int .i64 3)).setCell ⟨w.heap.size+1,1,none⟩ (.int .i64 (-1)):=⟨_,rfl⟩
        have aq:Below w.heap.size w V:=by
         rw [hV];exact (ak.out.setCell (p:=⟨w.heap.size+1,0,none⟩) (by dsimp only;omega) _).setCell (p:=⟨w.heap.size+1,1,none⟩) (by dsimp only;omega) _
        rw [<-hV] at q ⊢;have ad:Below V.heap.size V (V.alloc (.cells #[.int .i64 0,.int .i64 0] 28)):=by exact bE
        exact bodyPost_ret (agD (v := .int .i64 0) rfl rfl rfl (c:=3) (a := -1) (aab q.1 ad) (aab q.2 ad)) rfl (aG.out 0 _ _ Hr.out rfl (aq.trans (ad.mono aq.size)))
     . obtain⟨bb,cv⟩:=Aao (show 0<=b by omega)
       subst cv;have aw:bb<bn:=by omega
       have Hr:Hid (aaB ⟨gs,fs⟩ (kn:Int) (bb:Int)=(unrF x.blocks bb,0,0)):=by show _=_;rw [hr,if_neg hbr,Aag]
       clear hr hfk a6 ax al aP bQ aA hbr aG;obtain⟨W2,ay⟩:∃W2,W2=w1.alloc (.cells #[.int .i64 0,.int .i64 0] 28):=⟨_,rfl⟩
       have cl:=hid ay;have ad:Below w1.heap.size w1 W2:=by rw [ay];exact bE
       have aW:Hid (Below w.heap.size w W2):=ak.out.trans (ad.mono ak.out.size);have ct:=aab g0 ad;have cu:=aab g1 ad;have bU:=hid ad;clear ay ad;go_wp2_with fail;rw [<-cl.out];refine (bT.out W2 aW.out).mono ?_;rintro e w3 ⟨a3,cc,rfl,cg,bF⟩;have bX:Hid (Below w.heap.size w w3):=aW.out.trans (bF.mono aW.out.size);have ae:Below w1.heap.size w1 w3:=bU.out.trans (bF.mono bU.out.size);obtain⟨V,hV⟩:∃V,V=w3.alloc (.cells #[.int .i64 0,.int .i64 0] 28):=⟨_,rfl⟩
       have aq:Below w3.heap.size w3 V:=by rw [hV];exact bE
       have aX:Below w1.heap.size w1 V:=ae.trans (aq.mono ae.size);have bY:Hid (Below w.heap.size w V):=bX.out.trans (aq.mono bX.out.size);have au:=aj3 (S:=S) (S':=fun b=>W2.heap.size<=b) x.name xa xc x a3 cc bb V bW.out.1 (by rw [<-aT.out];exact aw) (bh.out.later aam aX) (cg.later aau aq);rw [<-aT.out] at au;rw [<-aT.out];have an:=hid au;have g1:=aab g1 ae;have g0:=aab g0 ae;have g2:=aab g2 ae;have g3:=aab g3 ae;have k2:=(ae.frozen (p:=⟨w.heap.size+1,0,none⟩) z1).trans k2;have k3:=(ae.frozen (p:=⟨w.heap.size+1,1,none⟩) z1).trans k3;have c0:=aab c0 ae;have c1:=aab c1 ae;have c2:=aab c2 ae;have c3:=aab c3 ae;have z1:w.heap.size+1<w3.heap.size:=aac g2;have z0:w.heap.size<w3.heap.size:=aac g0;have zf:fb<w3.heap.size:=aac c0;have HV:=hid hV;have av:=hid aq;clear cg bF ae hV aq aX au ct cu;simp only [];go_wp2_with fail;rw [<-HV.out];have g1:=aab g1 av.out;have g0:=aab g0 av.out;have g2:=aab g2 av.out;have g3:=aab g3 av.out;have k2:=(av.out.frozen (p:=⟨w.heap.size+1,0,none⟩) z1).trans k2;have k3:=(av.out.frozen (p:=⟨w.heap.size+1,1,none⟩) z1).trans k3;have c0:=aab c0 av.out;have c1:=aab c1 av.out;have c2:=aab c2 av.out;have c3:=aab c3 av.out;have zV:w.heap.size+1<V.heap.size:=aac g2;refine an.out.mono ?_;intro e w4 bH;obtain⟨lx,ly,lz,rfl,aN,aj⟩:=(show ∃lx ly lz:Int,e = .returned (.tuple #[.agg #[.int .i64 lx,.int .i64 ly,.int .i64 lz],.bool (acg x.blocks bb).isSome])∧(∀k,acg x.blocks bb=some k->lx=(k:Int)∧ly=((1 - k:Nat):Int))∧Below V.heap.size V w4 from bH)
       have bw:Hid (Below w.heap.size w w4):=bY.out.trans (aj.mono bY.out.size);have g1:=aab g1 aj;have g0:=aab g0 aj;have g2:=aab g2 aj;have g3:=aab g3 aj;have k2:=(aj.frozen (p:=⟨w.heap.size+1,0,none⟩) zV).trans k2;have k3:=(aj.frozen (p:=⟨w.heap.size+1,1,none⟩) zV).trans k3;have c0:=aab c0 aj;have c1:=aab c1 aj;have c2:=aab c2 aj;have c3:=aab c3 aj;have z1:w.heap.size+1<w4.heap.size:=aac g2;have z0:w.heap.size<w4.heap.size:=aac g0;have zf:fb<w4.heap.size:=aac c0;cases hs:acg x.blocks bb with
       | none =>
         have Hu:Hid (aaB ⟨gs,fs⟩ (kn:Int) (bb:Int)=(0,0,0)):=by
          show _=_;rw [Hr.out];unfold unrF;rw [hs];cases x.blocks[bb]? <;> rfl
         simp only [Option.isSome];clear hs aj bH aN an;go_wp2_with fail;have q:=aaU (w:=w4) (u := .int .i64 0) (v := .int .i64 0) g2 g3;obtain⟨V2,b0⟩:∃V2,V2=(w4.setCell ⟨w.heap.size+1,0,none⟩ (.int .i64 0)).setCell ⟨w.heap.size+1,1,none⟩ (.int .i64 0):=⟨_,rfl⟩
         have aY:Below w.heap.size w V2:=by
          rw [b0];exact (bw.out.setCell (p:=⟨w.heap.size+1,0,none⟩) (by dsimp only;omega) _).setCell (p:=⟨w.heap.size+1,1,none⟩) (by dsimp only;omega) _
         rw [<-b0] at q ⊢;have ad:Below V2.heap.size V2 (V2.alloc (.cells #[.int .i64 lx,.int .i64 ly,.int .i64 lz] 69)):=by exact bE
         exact bodyPost_ret (agD (v := .int .i64 0) rfl rfl rfl (c:=0) (a:=0) (aab q.1 ad) (aab q.2 ad)) rfl ⟨0,0,0,Hu.out,rfl,aY.trans (ad.mono aY.size)⟩
       | some kk =>
         obtain⟨rfl,rfl⟩:=aN kk hs;have cx:=akw hs;have ch:bb<x.blocks.length:=by rw [<-aT.out];exact aw
         have bq:x.blocks[bb]?=some x.blocks[bb]:=Aaa ch;have bK:x.blocks[bb].fin.kind=3∧(aag x.blocks 0 bb).length=2:=by
          have h:=hs;unfold acg at h;rw [bq] at h;dsimp only at h
          by_cases hc:x.blocks[bb].fin.kind=3∧(x.blocks[bb].fin.to.getD 0 0=(bb:Int)∨x.blocks[bb].fin.to.getD 1 0=(bb:Int))∧(aag x.blocks 0 bb).length=2
          . exact⟨hc.1,hc.2.2⟩
          . rw [if_neg hc] at h;cases h
         have cf:aa8 x.blocks[bb] (bb:Int) kk=unrF x.blocks bb:=by
          unfold unrF;rw [bq,hs]
         have HR:Hid (∀w',Below w.heap.size w w'->Calls Tryd.prog 18 #[.agg #[.string x.name,.int .i64 x.params,.int .i64 x.regs,.slice xa bn xc],.agg #[.int .i64 (kk:Int),.int .i64 ((1 - kk:Nat):Int),.int .i64 lz],.int .i64 (bb:Int)] w' fun e cC=>e = .returned (.int .i64 (unrF x.blocks bb))∧Below w'.heap.size w' cC):=fun w' hV=>by
          have h:=aih (S:=S) x.name xa xc x bb kk lz x.blocks[bb] w' bW.out.1 bq bK.2 bK.1 cx (bh.out.mono aam (fun _ h=>h) (adH fun b hb hl=>(hV.block b (HS.out b hb)).trans (ak.out.block b (HS.out b hb)).symm)) (fun b hb=>Aba (HS.out b hb) hV.size);rw [cf,<-aT.out] at h;exact h
         simp only [Option.isSome];clear aj bH aN an cf bK bq ch hs;go_wp2_with fail;obtain⟨W5,aR⟩:∃W5,W5=w4.alloc (.cells #[.int .i64 (kk:Int),.int .i64 ((1 - kk:Nat):Int),.int .i64 lz] 69):=⟨_,rfl⟩
         rw [<-aR];have ao:Below w4.heap.size w4 W5:=by rw [aR];exact bE
         have bx:Hid (Below w.heap.size w W5):=bw.out.trans (ao.mono bw.out.size);have l0:W5.cell? ⟨w4.heap.size,0,none⟩=some (.int .i64 (kk:Int)):=by rw [aR];simp
         have l1:W5.cell? ⟨w4.heap.size,1,none⟩=some (.int .i64 ((1 - kk:Nat):Int)):=by rw [aR];simp
         have l2:W5.cell? ⟨w4.heap.size,2,none⟩=some (.int .i64 lz):=by rw [aR];simp
         have g1:=aab g1 ao;have g2:=aab g2 ao;have g3:=aab g3 ao;have k2:=(ao.frozen (p:=⟨w.heap.size+1,0,none⟩) z1).trans k2;have k3:=(ao.frozen (p:=⟨w.heap.size+1,1,none⟩) z1).trans k3;have c0:=aab c0 ao;have c1:=aab c1 ao;have c2:=aab c2 ao;have c3:=aab c3 ao;have z5:w.heap.size+1<W5.heap.size:=aac g2;clear aR ao;go_region_with (first | (go_at_call 18;(with_reducible refine (HR.out _ ?_).mono ?_);exact bx.out.drew;rintro e w6 ⟨rfl,b2⟩;have aK:Below W5.heap.size W5 w6:=(Below.refl _ _).drew.trans b2;have g2:=aab g2 aK;have g3:=aab g3 aK;have k2:=(aK.frozen (p:=⟨w.heap.size+1,0,none⟩) z5).trans k2;have k3:=(aK.frozen (p:=⟨w.heap.size+1,1,none⟩) z5).trans k3;have z6:w.heap.size+1<w6.heap.size:=aac g2;have cq:=hid (bx.out.trans (aK.mono bx.out.size));clear b2 aK))
         all_goals
          go_wp2_with fail;have q:=aaU (w:=w6) (u := .int .i64 0) (v := .int .i64 0) g2 g3;exact bodyPost_ret (agD (v := .int .i64 (unrF x.blocks bb)) rfl rfl rfl (c:=0) (a:=0) q.1 q.2) rfl ⟨_,0,0,Hr.out,rfl,(cq.out.setCell (p:=⟨w.heap.size+1,0,none⟩) (by dsimp only;omega) _).setCell (p:=⟨w.heap.size+1,1,none⟩) (by dsimp only;omega) _⟩
 . have Hr:Hid (aaB ⟨gs,fs⟩ k b=(0,c,d)):=by
    show _=_;unfold aaB;rw [aU.out,if_pos (fun e=>hok (by simpa using e))]
   have hq:((decide (c<0)||decide (0<c))||(decide (d<0)||decide (0<d)))=true:=by rw [Aa1];simp;omega
   go_wp2_with fail;obtain⟨W2,ay⟩:∃W2,W2=w1.alloc (.cells #[.int .i64 c,.int .i64 d] 28):=⟨_,rfl⟩
   rw [<-ay];have ad:Below w1.heap.size w1 W2:=by rw [ay];exact bE
   have e0:W2.cell? ⟨w1.heap.size,0,none⟩=some (.int .i64 c):=by rw [ay];simp
   have e1:W2.cell? ⟨w1.heap.size,1,none⟩=some (.int .i64 d):=by rw [ay];simp
   have e2:=aab g2 ad;have e3:=aab g3 ad;have f2:=(ad.frozen (p:=⟨w.heap.size+1,0,none⟩) z1).trans k2;have f3:=(ad.frozen (p:=⟨w.heap.size+1,1,none⟩) z1).trans k3;have aW:Hid (Below w.heap.size w W2):=ak.out.trans (ad.mono ak.out.size);clear ay ad g0 g1 g2 g3 k2 k3;go_region_with (first | fail)
   all_goals go_wp2_with fail
   all_goals
    have q:=aaU (w:=W2.drew) (u := .int .i64 c) (v := .int .i64 d) e2 e3;refine bodyPost_ret (agD (v := .int .i64 0) rfl rfl rfl (c:=c) (a:=d) q.1 q.2) rfl ⟨0,c,d,Hr.out,rfl,?_⟩;have h:=aW.out;exact bE1 h
end
section
open Go.RowKit
theorem agG {u:aax}{b n p q:Int}(h:aaB u (-1) b=(n,p,q)):p≠0∧n=0:=by
 unfold aaB at h
 by_cases h1:adk u≠(0,0)
 . rw [if_pos h1] at h
   obtain⟨rfl,rfl,rfl⟩:0=n∧(adk u).1=p∧(adk u).2=q:=by simpa using h
   exact⟨fun e=>h1 (agK e),rfl⟩
 . rw [if_neg h1] at h
   have e:aj4 u.funcs (-1)=none:=rfl;rw [e] at h;obtain⟨rfl,rfl,rfl⟩:0=n∧3=p ∧ -1=q:=by simpa using h
   exact⟨by omega,rfl⟩
theorem agF {u:aax}{k b n p q:Int}(h:aaB u k b=(n,p,q))(hp:p≠0):n=0:=by
 unfold aaB at h
 by_cases h1:adk u≠(0,0)
 . rw [if_pos h1] at h
   exact (by simpa using h:0=n∧(adk u).1=p∧(adk u).2=q).1.symm
 . rw [if_neg h1] at h
   cases hf:aj4 u.funcs k with
   | none =>
     rw [hf] at h;exact (by simpa using h:0=n∧3=p ∧ -1=q).1.symm
   | some f =>
     rw [hf] at h;dsimp only at h
     by_cases hb:b<0∨(f.blocks.length:Int)<=b
     . rw [if_pos hb] at h
       exact (by simpa using h:0=n∧3=p ∧ -1=q).1.symm
     . rw [if_neg hb] at h
       exact absurd (by simpa using h:unrF f.blocks b.toNat=n∧0=p∧0=q).2.1.symm hp
theorem afX {u:aax}{k b n q:Int}(h:aaB u k b=(n,0,q)):adk u=(0,0)∧∃(kn bb:Nat) (f:aal),k=(kn:Int)∧b=(bb:Int)∧u.funcs[kn]?=some f∧bb<f.blocks.length∧n=unrF f.blocks bb∧q=0:=by
 unfold aaB at h
 by_cases h1:adk u≠(0,0)
 . rw [if_pos h1] at h
   exact absurd (agK (by simpa using h:0=n∧(adk u).1=0∧(adk u).2=q).2.1) h1
 . rw [if_neg h1] at h
   refine⟨Classical.not_not.1 h1,?_⟩;cases hf:aj4 u.funcs k with
   | none =>
     rw [hf] at h;simp at h
   | some f =>
     rw [hf] at h;dsimp only at h
     by_cases hb:b<0∨(f.blocks.length:Int)<=b
     . rw [if_pos hb] at h
       simp at h
     . rw [if_neg hb] at h
       obtain⟨kn,rfl,hk⟩:=agq hf;obtain⟨h2,h3⟩:unrF f.blocks b.toNat=n∧0=q:=by simpa using h
       exact⟨kn,b.toNat,f,rfl,by omega,hk,by omega,h2.symm,h3.symm⟩
end
end Go.Proofs.YtgekbfgplclmeaaDoor
