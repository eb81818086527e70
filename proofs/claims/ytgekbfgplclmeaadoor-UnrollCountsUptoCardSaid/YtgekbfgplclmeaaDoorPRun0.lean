import Derived.Test.YtgekbfgplclmeaaDoorPUses
import Derived.Test.YtgekbfgplclmeaaDoorPTreeW
import Derived.Deep.DeepCutAuto
import Derived.Test.YtgekbfgplclmeaaDoorPBits2
/- ssa.CheckOf. ssa.Check. Known bits in memory: numbers of 64 bits; bits.number, none, sure, meet. What an instruction makes of two numbers, in plain Lean. run.Counts, in plain Lean: a unit's run step by step, the frames from the top on. No program in sight. -/
set_option maxHeartbeats 8000000
set_option maxRecDepth 100000
namespace Go.Proofs.YtgekbfgplclmeaaDoor
section
open Go.RowKit
def alX(w:World)(nm:ByteArray)(ba:Option Addr)(bc:Nat)(f:aal)(n Rg:Nat)(v:Value)(wc:World):Prop :=
 ∃CB g RB,v = .pointer (some ⟨CB,0,none⟩)∧aaj wc CB 0 [.string nm,.int .i64 f.params,.int .i64 (Rg:Int),.slice ba n bc,.slice (some ⟨g,0,none⟩) n n,.slice (some ⟨RB,0,none⟩) Rg Rg] ∧
   wc.heap[RB]?=some (.cells (ahK (List.replicate Rg (-1,-1))) 137 (0,0))∧SlAt (fun b=>b=g) wc 1 abe (.slice (some ⟨g,0,none⟩) n n) (adZ f.blocks) ∧
   Below w.heap.size w wc∧w.heap.size<=g∧w.heap.size<=RB∧w.heap.size<=CB∧CB≠RB∧g≠RB
theorem alX.mk' {w : World} {nm : ByteArray} {ba : Option Addr} {bc : Nat} {f : aal} {wl : World} {g RB n Rg : Nat} (af : wl.heap[RB]? = some (.cells (pairs Rg (.int .i64 (-1)) (.int .i64 (-1))).toArray 137 (0, 0)))
 (ae:SlAt (fun b=>b=g) wl 1 abe (.slice (some ⟨g,0,none⟩) n n) (adZ f.blocks)) (hb:Below w.heap.size w wl) (hg:w.heap.size<=g) (hR:w.heap.size<=RB) (bu:g≠RB) :
 alX w nm ba bc f n Rg (.pointer (some ⟨wl.heap.size,0,none⟩)) (wl.alloc (.cells #[.string nm,.int .i64 f.params,.int .i64 (Rg:Int),.slice ba n bc,.slice (some ⟨g,0,none⟩) n n,.slice (some ⟨RB,0,none⟩) Rg Rg] 139)):=by
 have bX:=(Aan.1 af).1;have bq:Below wl.heap.size wl (wl.alloc (.cells #[.string nm,.int .i64 f.params,.int .i64 (Rg:Int),.slice ba n bc,.slice (some ⟨g,0,none⟩) n n,.slice (some ⟨RB,0,none⟩) Rg Rg] 139)):=by exact bE
 refine⟨wl.heap.size,g,RB,rfl,?_,by rw [bq.block RB bX,akr];exact af,ae.later aaf bq,hb.trans (bq.mono hb.size),hg,hR,hb.size,by omega,bu⟩;exact .cons (by simp) (.cons (by simp) (.cons (by simp) (.cons (by simp) (.cons (by simp) (.cons (by simp) (.nil _ _ _))))))
theorem agV {S:Nat->Prop}(nm:ByteArray)(ba:Option Addr)(bc:Nat)(f:aal)(w:World)(hf:agQ f)(hb:SlAt S w 6 aa2 (.slice ba f.blocks.length bc) f.blocks)(hS:∀b,S b->b<w.heap.size) :
 Calls Tryd.prog 32 #[.agg #[.string nm,.int .i64 f.params,.int .i64 f.regs,.slice ba f.blocks.length bc]] w fun e w'=>e = .returned (.int .i64 (acG f))∧Below w.heap.size w w':=by
 have Hf:=hid hf;have Hb:=hid hb;have HS:=hid hS;obtain⟨n,hn⟩:∃n,n=f.blocks.length:=⟨_,rfl⟩
 obtain⟨Rg,bK⟩:∃Rg,Rg=f.regs.toNat:=⟨_,rfl⟩
 have b3:=hf.pr;have bj:f.regs=(Rg:Int):=by omega
 have b9:Rg<=100:=by omega
 have ca:n<=40:=by rw [hn];exact hf.len.2
 have Hn:=hid hn;have bR:=hid bj;have bC:=hid bK;rw [<-hn] at Hb;rw [<-hn,bj];clear hf hb hS hn bK b3 bj;go_enter Tryd.func32,Tryd.ntmps32;go_wp2_with fail;obtain⟨W,hW⟩:∃W,W=w.alloc (.cells #[.string nm,.int .i64 f.params,.int .i64 (Rg:Int),.slice ba n bc] 40):=⟨_,rfl⟩
 rw [<-hW];have av:Below w.heap.size w W:=by rw [hW];exact bE
 have c0:W.cell? ⟨w.heap.size,0,none⟩=some (.string nm):=by rw [hW];simp
 have c1:W.cell? ⟨w.heap.size,1,none⟩=some (.int .i64 f.params):=by rw [hW];simp
 have c2:W.cell? ⟨w.heap.size,2,none⟩=some (.int .i64 (Rg:Int)):=by rw [hW];simp
 have c3:W.cell? ⟨w.heap.size,3,none⟩=some (.slice ba n bc):=by rw [hW];simp
 have ag:=hid av;have aB:=hid (Hb.out.later aam av);have zW:w.heap.size<W.heap.size:=aac c0;clear hW av;have hk:∀w',Below W.heap.size W w'->w'.cell? ⟨w.heap.size,0,none⟩=some (.string nm)∧w'.cell? ⟨w.heap.size,1,none⟩=some (.int .i64 f.params)∧w'.cell? ⟨w.heap.size,2,none⟩=some (.int .i64 (Rg:Int))∧w'.cell? ⟨w.heap.size,3,none⟩=some (.slice ba n bc):=fun w' h =>
  ⟨aab c0 h,aab c1 h,aab c2 h,aab c3 h⟩
 have Hk:=hid hk;have hT:∀w',Below W.heap.size W w'->Calls Tryd.prog 58 #[.agg #[.string nm,.int .i64 f.params,.int .i64 (Rg:Int),.slice ba n bc]] w' fun e ai=>∃g,e = .returned (.slice (some ⟨g,0,none⟩) n n)∧w'.heap.size<=g∧SlAt (fun b=>b=g) ai 1 abe (.slice (some ⟨g,0,none⟩) n n) (adZ f.blocks)∧Below w'.heap.size w' ai∧Below W.heap.size W ai∧g<ai.heap.size∧W.heap.size<=g:=fun w' h=>by
  refine (aim (S:=S) nm f.params (Rg:Int) ba n bc f.blocks w' (aB.out.later aam h) (fun b hb=>by have:=HS.out b hb;have:=h.size;omega) Hn.out.symm (by omega) Hf.out.toOk).mono ?_;rintro e ai ⟨g,rfl,h1,h2,h3⟩;obtain⟨b,off,e,hc⟩:=abq h2 (t:=0) (by rw [aeU];exact Hf.out.len.1);cases e;exact⟨g,rfl,h1,h2,h3,h.trans (h3.mono h.size),aac hc,Aaj h.size h1⟩
 have hR:∀(w':World) (ad:Addr),Below W.heap.size W w'->w'.cell? (ad.add 0)=some (.int .i64 (-1))->w'.cell? (ad.add 1)=some (.int .i64 (-1))->Calls Tryd.prog 59 #[.slice (some ad) 1 1,.int .i64 (Rg:Int)] w' fun e ai =>
  ∃g,e = .returned (.slice (some ⟨g,0,none⟩) Rg Rg)∧w'.heap.size<=g∧ai.heap[g]?=some (.cells (pairs Rg (.int .i64 (-1)) (.int .i64 (-1))).toArray 137 (0,0))∧Below w'.heap.size w' ai∧Below W.heap.size W ai∧W.heap.size<=g:=fun w' ad h h0 h1=>by
  refine (adV ad 1 (-1) (-1) Rg (by omega) w' h0 h1).mono ?_;rintro e ai ⟨g,rfl,h1,h2,h3⟩;exact⟨g,rfl,h1,h2,h3,h.trans (h3.mono h.size),Aaj h.size h1⟩
 have HT:=hid hT;have HR:=hid hR;clear hk hT hR;go_cut [3] (fun v3 wc=>alX W nm ba bc f n Rg v3 wc)
 case first =>
  go_region_held3 (fun w' => w'.cell? ⟨w.heap.size, 0, none⟩ = some (.string nm) ∧ w'.cell? ⟨w.heap.size, 1, none⟩ = some (.int .i64 f.params) ∧ w'.cell? ⟨w.heap.size, 2, none⟩ = some (.int .i64 (Rg : Int)) ∧ w'.cell? ⟨w.heap.size, 3, none⟩ = some (.slice ba n bc))
   (exact Hk.out _ (by first | exact (Below.refl _ _).drew | ((repeat (first | exact Below.refl _ _ | refine Below.alloc ?_ (by first|omega|(simp<;>omega)) _ | refine Below.setCell ?_ (by first|omega|(simp<;>omega)) _ | refine below_drewN ?_ _ | refine Below.drew ?_));done) | exact ao | exact ao.alloc ao.size _ | exact ak | exact ak.alloc ak.size _))
   ((first
     | (go_at_call 58; refine (HT.out _ ?_).mono ?_; exact (by first | exact (Below.refl _ _).drew | ((repeat (first | exact Below.refl _ _ | refine Below.alloc ?_ (by first|omega|(simp<;>omega)) _ | refine Below.setCell ?_ (by first|omega|(simp<;>omega)) _ | refine below_drewN ?_ _ | refine Below.drew ?_)); done) | exact ao | exact ao.alloc ao.size _ | exact ak | exact ak.alloc ak.size _); rintro e wT ⟨g, rfl, hg, ae, bo, ao, bN, bw⟩)
     | (go_at_call 59; refine (HR.out _ _ ?_ ?_ ?_).mono ?_
        . exact (by first | exact (Below.refl _ _).drew | ((repeat (first | exact Below.refl _ _ | refine Below.alloc ?_ (by first|omega|(simp<;>omega)) _ | refine Below.setCell ?_ (by first|omega|(simp<;>omega)) _ | refine below_drewN ?_ _ | refine Below.drew ?_)); done) | exact ao | exact ao.alloc ao.size _ | exact ak | exact ak.alloc ak.size _)
        . first | exact abO _ [.int .i64 (-1), .int .i64 (-1)] 137 (by simp) 0 _ rfl | exact abO W [.int .i64 (-1), .int .i64 (-1)] 137 rfl 0 _ rfl | exact aab (w := (W.alloc (.cells #[.int .i64 (-1), .int .i64 (-1)] 137)).drew) (abO W [.int .i64 (-1), .int .i64 (-1)] 137 rfl 0 _ rfl) bo
        . first | exact abO _ [.int .i64 (-1), .int .i64 (-1)] 137 (by simp) 1 _ rfl | exact abO W [.int .i64 (-1), .int .i64 (-1)] 137 rfl 1 _ rfl | exact aab (w := (W.alloc (.cells #[.int .i64 (-1), .int .i64 (-1)] 137)).drew) (abO W [.int .i64 (-1), .int .i64 (-1)] 137 rfl 1 _ rfl) bo
        rintro e wR ⟨RB, rfl, bW, af, bm, ak, aO⟩)))
  all_goals
   go_wp2_with fail;go_meet
   first
    | exact alX.mk' af (ae.later aaf (by first | exact bm | ((have b5:=(bm).size;have b4:=b5;(try simp at b4);repeat (first | exact Below.refl _ _ | refine Below.trans ?_ ((bm).mono (by first|omega|(simp<;>omega))) | refine Below.alloc ?_ (by first|omega|(simp<;>omega)) _ | refine Below.setCell ?_ (by first|omega|(simp<;>omega)) _ | refine below_drewN ?_ _ | refine Below.drew ?_));done))) ak bw aO (by have h:=bW;(try simp at h);omega)
    | exact alX.mk' ((bo.block RB (Aan.1 af).1).trans af) ae ao bw aO (by have h1:=(Aan.1 af).1;have h:=hg;(try simp at h);omega)
 case rest =>
  obtain⟨CB,g,RB,rfl,aT,af,ae,aI,bw,ak,b8,bI,bu⟩:=hcut;obtain⟨Wc,bZ⟩:∃Wc:World,Wc=wc:=⟨_,rfl⟩
  subst bZ;have bd:=hid aT;have aL:=hid af;have aM:=hid ae;have ax:=hid aI;have d0:=aab c0 aI;have d1:=aab c1 aI;have d2:=aab c2 aI;have d3:=aab c3 aI;have hP:∀w',Below W.heap.size W w'->Calls Tryd.prog 60 #[.agg #[.string nm,.int .i64 f.params,.int .i64 (Rg:Int),.slice ba n bc]] w' fun e ai=>∃v,e = .returned v∧aav w'.heap.size ai v (aaL f.blocks)∧Below W.heap.size W ai∧Below w'.heap.size w' ai:=fun w' h=>by
   refine (ahE (S:=S) nm f.params (Rg:Int) ba n bc f.blocks w' (aB.out.later aam h) (fun b hb=>by have:=HS.out b hb;have:=h.size;omega) Hn.out.symm (by omega) Hf.out.toOk).mono ?_;rintro e ai ⟨v,rfl,h1,h2⟩;exact⟨v,rfl,h1,h.trans (h2.mono h.size),h2⟩
  have HP:=hid hP;obtain⟨L,hL⟩:∃L,L=(aaL f.blocks).length:=⟨_,rfl⟩
  have HL:=hid hL;have zw:w.heap.size<Wc.heap.size:=aac d0;clear aT af ae aI hP hL c0 c1 c2 c3
  by_cases hq:L<n
  . have Hv:Hid (acG f=5):=by show _=_;unfold acG;rw [if_pos (by rw [<-HL.out,<-Hn.out];exact hq)]
    go_wp2_with fail
    go_region_held3 (fun w' => w'.cell? ⟨w.heap.size, 0, none⟩ = some (.string nm) ∧ w'.cell? ⟨w.heap.size, 1, none⟩ = some (.int .i64 f.params) ∧ w'.cell? ⟨w.heap.size, 2, none⟩ = some (.int .i64 (Rg : Int)) ∧ w'.cell? ⟨w.heap.size, 3, none⟩ = some (.slice ba n bc))
     (exact Hk.out _ (by first | exact ax.out | exact ax.out.drew | exact ar | exact ar.drew))
     ((first
       | (go_at_call 60; refine (HP.out _ ?_).mono ?_; first | exact ax.out | exact ax.out.drew; rintro e wP ⟨v, rfl, hv, ar, aY⟩
          obtain ⟨va, vc, bz⟩ := hv.shape
          subst bz
          rw [<- HL.out])))
    all_goals
     go_wp2_with fail;go_ret;exact⟨by rw [Hv.out];rfl,ag.out.trans (ar.mono ag.out.size)⟩
  . obtain⟨o,ho⟩:∃o,o=(aaW f).2:=⟨_,rfl⟩
    have Ho:=hid ho;clear ho;go_wp2_with fail
    go_region_held3 (fun w' => w'.cell? ⟨w.heap.size, 0, none⟩ = some (.string nm) ∧ w'.cell? ⟨w.heap.size, 1, none⟩ = some (.int .i64 f.params) ∧ w'.cell? ⟨w.heap.size, 2, none⟩ = some (.int .i64 (Rg : Int)) ∧ w'.cell? ⟨w.heap.size, 3, none⟩ = some (.slice ba n bc))
     (exact Hk.out _ (by first | exact ax.out | exact ax.out.drew | exact ar | exact ar.drew))
     ((first
       | (go_at_call 60; refine (HP.out _ ?_).mono ?_; first | exact ax.out | exact ax.out.drew; rintro e wP ⟨v, rfl, hv, ar, aY⟩
          obtain ⟨va, vc, bz⟩ := hv.shape
          subst bz
          rw [<- HL.out])))
    all_goals
     have a1:Below Wc.heap.size Wc wP:=by first | exact aY | exact (Below.refl Wc.heap.size Wc).drew.trans aY
     have al:=bd.out.later a1;have ay:=(a1.block RB (Aan.1 aL.out).1).trans aL.out;have an:=aM.out.later aaf a1;have aE:=aB.out.later aam ar;obtain⟨x0,x1,x2,x3,x4,x5⟩:=al.get6;have bk:∀b,S b->b≠RB:=fun b hb e=>by have:=HS.out b hb;omega
     have bA:=aiv (S:=S) CB RB Rg ba bc f wP Hf.out bk (by rw [<-Hn.out];exact aE) x1 (by rw [<-Hn.out];exact x3) (by rw [<-bC.out];exact x5) bI (by rw [<-bC.out];exact ay);rw [<-Ho.out] at bA;have bh:=hid bA;have aK:=hid al;have aC:=hid an;have be:=hid aE;have bS:=hid bk;have aw:=hid ar;have bY:W.heap.size<=RB:=ak;clear bA al ay an aE bk ar aY a1 x0 x1 x2 x3 x4 x5 hv;cases o with
     | false =>
       have Hv:Hid (acG f=7):=by show _=_;unfold acG;rw [if_neg (by rw [<-HL.out,<-Hn.out];exact hq),if_pos Ho.out.symm]
       go_wp2_with (first | (go_at_call 61;refine (bh.out).mono ?_;rintro e wQ ⟨rfl,aj⟩;have aq:=hid aj;clear aj));go_ret;exact⟨by rw [Hv.out];rfl,(ag.out.trans (aw.out.mono ag.out.size)).grown aq.out.grown (by have:=aw.out.size;omega) (fun r e=>by cases e;omega)⟩
     | true =>
       obtain⟨o2,bO⟩:∃o2,o2=af5 f (aaW f).1:=⟨_,rfl⟩
       have bg:=hid bO;clear bO;have aU:∀wQ,aec wP wQ RB (aaW f).1->Calls Tryd.prog 62 #[.pointer (some ⟨CB,0,none⟩)] wQ fun e w'=>e = .returned (.bool o2)∧Below wQ.heap.size wQ w':=fun wQ aj=>by
        have bx:alT CB RB Rg nm ba (some ⟨g,0,none⟩) bc n f (aaW f).1 wQ:=by
         refine⟨?_,aj.row,?_,?_,by unfold aaW;rw [abY,acj,Aar]⟩
         . intro j v hj
           have h:=aK.out j v;rw [<-Hn.out,bR.out] at hj;exact aj.cell (h hj) bI
         . rw [<-Hn.out]
           exact (aj.sl aaf (fun b hb=>by rw [hb];exact bu) aC.out).mono aaf (fun _ _=>trivial) (aaD.refl _ _)
         . rw [<-Hn.out]
           exact (aj.sl aam bS.out be.out).mono aam (fun _ _=>trivial) (aaD.refl _ _)
        rw [bg.out];exact akJ CB RB Rg nm ba (some ⟨g,0,none⟩) bc n f (aaW f).1 wQ Hf.out bx
       have aN:=hid aU;clear aU;cases o2 with
       | false =>
         have Hv:Hid (acG f=6):=by show _=_;unfold acG;rw [if_neg (by rw [<-HL.out,<-Hn.out];exact hq),if_neg (by rw [<-Ho.out];simp),if_pos bg.out.symm]
         go_wp2_with (first
          | (go_at_call 61; refine (bh.out).mono ?_; rintro e wQ ⟨rfl, aj⟩; have aq := hid aj; clear aj)
          | (go_at_call 62; refine (aN.out wQ aq.out).mono ?_; rintro e wU ⟨rfl, aS⟩; have a8 := hid aS; clear aS))
         go_ret;exact⟨by rw [Hv.out];rfl,((ag.out.trans (aw.out.mono ag.out.size)).grown aq.out.grown (by have:=ag.out.size;have:=aw.out.size;omega) (fun r e=>by cases e;have:=ag.out.size;omega)).trans (a8.out.mono (by have:=ag.out.size;have:=aw.out.size;have:=aq.out.grown.size;omega))⟩
       | true =>
         have Hv:Hid (acG f=0):=by show _=_;unfold acG;rw [if_neg (by rw [<-HL.out,<-Hn.out];exact hq),if_neg (by rw [<-Ho.out];simp),if_neg (by rw [<-bg.out];simp)]
         go_wp2_with (first
          | (go_at_call 61; refine (bh.out).mono ?_; rintro e wQ ⟨rfl, aj⟩; have aq := hid aj; clear aj)
          | (go_at_call 62; refine (aN.out wQ aq.out).mono ?_; rintro e wU ⟨rfl, aS⟩; have a8 := hid aS; clear aS))
         go_ret;exact⟨by rw [Hv.out];rfl,((ag.out.trans (aw.out.mono ag.out.size)).grown aq.out.grown (by have:=ag.out.size;have:=aw.out.size;omega) (fun r e=>by cases e;have:=ag.out.size;omega)).trans (a8.out.mono (by have:=ag.out.size;have:=aw.out.size;have:=aq.out.grown.size;omega))⟩
end
section
open Go.RowKit
theorem aeN {fn : Func} (b2 : fn.results = #[.cell 2 28]) {tmps : Array Value} {b : Nat} (ht : tmps.getD 2 undef = .pointer (some ⟨b, 0, none⟩)) {c a : Int} {W : World}
 (h0:W.cell? ⟨b,0,none⟩=some (.int .i64 c)) (h1:W.cell? ⟨b,1,none⟩=some (.int .i64 a)):(results fn tmps).run Tryd.prog W = .ok (.agg #[.int .i64 c,.int .i64 a]) W:=by
 simp only [Abl] at ht;simp [results,b2,ht,go_sem,h0,h1]
theorem agJ {S : Nat -> Prop} (ga : Option Addr) (gc : Nat) (fa : Option Addr) (fc : Nat) (gs : List aat) (fs : List aal) (w : World)
 (hg:SlAt S w 3 abd (.slice ga gs.length gc) gs) (hf:SlAt S w 4 abT (.slice fa fs.length fc) fs) (hw:ab5 w) (hS:∀b,S b->b<w.heap.size)
 (bN:gs.length<=1048576) (b1:fs.length<=1048576) (bP:∀(k:Nat) (f:aal),fs[k]?=some f->aa1 f.blocks<=1048576∧f.blocks.length<=1048576) :
 Calls Tryd.prog 16 #[.agg #[.slice ga gs.length gc,.slice fa fs.length fc]] w fun e w' =>
  e = .returned (.agg #[.int .i64 (adk ⟨gs,fs⟩).1,.int .i64 (adk ⟨gs,fs⟩).2])∧Below w.heap.size w w':=by
 have Hg:=hid hg;have Hf:=hid hf;have Hw:=hid hw;have bU:=hid bP;have HS:=hid hS;clear hg hf hw bP hS;go_enter Tryd.func16,Tryd.ntmps16;obtain⟨W,hW⟩:∃W,W=(w.alloc (.cells #[.slice ga gs.length gc,.slice fa fs.length fc] 25)).alloc (.cells #[.int .i64 0,.int .i64 0] 28):=⟨_,rfl⟩
 have av:Below w.heap.size w W:=by rw [hW];exact bE
 have ag:=hid av;have W0:Hid (W.cell? ⟨w.heap.size,0,none⟩=some (.slice ga gs.length gc)):=by show _=_;rw [hW];simp
 have W1:Hid (W.cell? ⟨w.heap.size,1,none⟩=some (.slice fa fs.length fc)):=by show _=_;rw [hW];simp
 have R0:Hid (W.cell? ⟨w.heap.size+1,0,none⟩=some (.int .i64 0)):=by show _=_;rw [hW];simp
 have R1:Hid (W.cell? ⟨w.heap.size+1,1,none⟩=some (.int .i64 0)):=by show _=_;rw [hW];simp
 have F0:Hid (W.frozen? ⟨w.heap.size+1,0,none⟩=false):=by show _=_;rw [hW];simp
 have F1:Hid (W.frozen? ⟨w.heap.size+1,1,none⟩=false):=by show _=_;rw [hW];simp
 have b0:W.heap.size=w.heap.size+2:=by rw [hW];simp
 go_wp2_with fail;rw [<-hW];have bQ:ab5 W:=ab5.below Hw.out av;refine (aeu (S:=S) ga gc fa fc gs fs W (Hg.out.later aaC av) (Hf.out.later aan av) bQ bN b1 bU.out).mono ?_;rintro e w1 ⟨rfl,au⟩;have b7:=hid au;have g0:=aab W0.out au;have g1:=aab W1.out au;have g2:=aab R0.out au;have g3:=aab R1.out au;have k2:=(au.frozen (p:=⟨w.heap.size+1,0,none⟩) (by simp;omega)).trans F0.out;have k3:=(au.frozen (p:=⟨w.heap.size+1,1,none⟩) (by simp;omega)).trans F1.out;have z1:w.heap.size+1<w1.heap.size:=aac g2;have z0:w.heap.size<w1.heap.size:=aac g0;obtain⟨c,hc⟩:∃c,c=(aak ⟨gs,fs⟩).1:=⟨_,rfl⟩
 obtain⟨d,hd⟩:∃d,d=(aak ⟨gs,fs⟩).2:=⟨_,rfl⟩
 have aW:Hid (aak ⟨gs,fs⟩=(c,d)):=by show _=_;rw [hc,hd]
 rw [<-hc,<-hd];have aX:Hid (Below w.heap.size w w1):=ag.out.trans (au.mono (by omega));clear au hW av hc hd bQ
 by_cases hok:c=0∧d=0
 . obtain⟨rfl,rfl⟩:=hok
   go_wp2_with fail;obtain⟨W2,bl⟩:∃W2,W2=w1.alloc (.cells #[.int .i64 0,.int .i64 0] 28):=⟨_,rfl⟩
   rw [<-bl];have aF:Below w1.heap.size w1 W2:=by rw [bl];exact bE
   have E2:=hid (aab g2 aF);have E3:=hid (aab g3 aF);have F2:=hid ((aF.frozen (p:=⟨w.heap.size+1,0,none⟩) z1).trans k2);have F3:=hid ((aF.frozen (p:=⟨w.heap.size+1,1,none⟩) z1).trans k3);have bH:Hid (Below w.heap.size w W2):=aX.out.trans (aF.mono aX.out.size);have z2:w.heap.size+1<W2.heap.size:=aac E2.out;clear bl aF g0 g1 g2 g3 k2 k3 b0;go_loopw [16] (fun s16 wr=>∃(k:Nat),k<=fs.length∧s16 = .int .i64 k∧(∀j,j<k->aiy fs j=0)∧Below W2.heap.size W2 wr) (fun s16 _=>fs.length - (intOf s16).toNat)
   case atStart=>exact⟨0,Aaf _,rfl,fun j hj=>by omega,Below.refl _ _⟩
   case round =>
    obtain⟨k,hk,rfl,aP,aD⟩:=hrel;have aA:=hid aP;have bD:=hid aD;have bL:Below w.heap.size w wr:=bH.out.trans (aD.mono bH.out.size);have aV:=hid bL;have e2:=aab E2.out aD;have e3:=aab E3.out aD;have f2:=(aD.frozen (p:=⟨w.heap.size+1,0,none⟩) z2).trans F2.out;have f3:=(aD.frozen (p:=⟨w.heap.size+1,1,none⟩) z2).trans F3.out;have z3:w.heap.size+1<wr.heap.size:=aac e2;clear aP aD bL
    by_cases hkl:k<fs.length
    . obtain⟨fb,bV,xa,xc,rfl,bM,bB,-,-⟩:=acM (Hf.out.later aan aV.out) hkl
      obtain⟨c0,c1,c2,c3⟩:=bM.get4;have zf:fb<wr.heap.size:=aac c0;obtain⟨x,hx⟩:∃x,x=fs[k]:=⟨_,rfl⟩
      rw [<-hx] at c0 c1 c2 c3 bB;have bt:fs[k]?=some x:=by rw [hx];exact Aaa hkl
      have bJ:agQ x:=afF (u:=⟨gs,fs⟩) aW.out bt;obtain⟨WB,aZ⟩:∃WB,WB=wr.alloc (.cells #[.string x.name,.int .i64 x.params,.int .i64 x.regs,.slice xa x.blocks.length xc] 40):=⟨_,rfl⟩
      have aR:Below wr.heap.size wr WB:=by rw [aZ];exact bE
      have a6:=agV (S:=S) x.name xa xc x WB bJ (bB.later aam aR) (fun b hb=>by have:=HS.out b hb;have:=aV.out.size;have:=aR.size;omega);rw [aZ] at a6;have He:Hid (aiy fs k=acG x):=by show _=_;unfold aiy;rw [bt]
      obtain⟨e9,br⟩:∃e9,e9=acG x:=⟨_,rfl⟩
      rw [<-br] at a6;have bG:=hid a6;have bf:=hid br;have bF:Hid (∀w',Below (wr.alloc (.cells #[.string x.name,.int .i64 x.params,.int .i64 x.regs,.slice xa x.blocks.length xc] 40)).heap.size (wr.alloc (.cells #[.string x.name,.int .i64 x.params,.int .i64 x.regs,.slice xa x.blocks.length xc] 40)) w'->Below wr.heap.size wr w'):=fun w' h=>by
       rw [<-aZ] at h;exact aR.trans (h.mono aR.size)
      clear a6 br aZ aR bB bM bJ hx bt
      by_cases hz:e9=0
      . have b6:(decide (e9<0)||decide (0<e9))=false:=aib hz
        have aJ:=hid (aa6 aA.out (by rw [He.out,<-bf.out];exact hz));clear hz
        go_wp2_with (first
         | (go_at_call 32; refine (bG.out).mono ?_; rintro e w5 ⟨rfl, aQ⟩
            have a7 := hid (bF.out _ aQ)
            clear aQ))
        go_roundw
        case rel=>exact⟨k+1,by omega,by go_num,aJ.out,bD.out.trans (a7.out.mono bD.out.size)⟩
        case measure=>simp [intOf];omega
      . have b6:(decide (e9<0)||decide (0<e9))=true:=abN hz
        have Hr:Hid (adk ⟨gs,fs⟩=(e9,(k:Int))):=by
         show _=_;have hp:acd (aiy fs) fs.length=k:=afS aA.out hkl (by rw [He.out,<-bf.out];exact hz);unfold adk;rw [aW.out,if_neg (by simp)];dsimp only;rw [hp,if_pos hkl,He.out,<-bf.out]
        clear hz
        go_wp2_with (first
         | (go_at_call 32; refine (bG.out).mono ?_; rintro e w5 ⟨rfl, aQ⟩
            have aG := bF.out _ aQ
            have e2 := aab e2 aG
            have e3 := aab e3 aG
            have f2 := (aG.frozen (p := ⟨w.heap.size + 1, 0, none⟩) z3).trans f2
            have f3 := (aG.frozen (p := ⟨w.heap.size + 1, 1, none⟩) z3).trans f3
            have z5 : w.heap.size + 1 < w5.heap.size := aac e2
            have a7 := hid aG
            clear aQ aG)
         | (go_at_call 21; refine (aaQ _ _ _).mono ?_; rintro e w6 ⟨rfl, aH⟩
            have e2 := aab e2 aH
            have e3 := aab e3 aH
            have f2 := (aH.frozen (p := ⟨w.heap.size + 1, 0, none⟩) z5).trans f2
            have f3 := (aH.frozen (p := ⟨w.heap.size + 1, 1, none⟩) z5).trans f3
            have z6 : w.heap.size + 1 < w6.heap.size := aac e2
            have bT := hid aH
            clear aH))
        have q:=aaU (w:=w6) (u := .int .i64 e9) (v := .int .i64 (k:Int)) e2 e3;refine bodyPost_ret (aeN rfl rfl (c:=e9) (a:=(k:Int)) q.1 q.2) rfl ⟨by rw [Hr.out],?_⟩;have h1:=aV.out;have h2:=a7.out;have h3:=bT.out;exact (((h1.trans (h2.mono h1.size)).trans (h3.mono (by have:=h1.size;have:=h2.size;omega))).setCell (p:=⟨w.heap.size+1,0,none⟩) (by dsimp only;omega) _).setCell (p:=⟨w.heap.size+1,1,none⟩) (by dsimp only;omega) _
    . have bx:k=fs.length:=by omega
      have Hr:Hid (adk ⟨gs,fs⟩=(0,0)):=by
       show _=_;have hp:acd (aiy fs) fs.length=fs.length:=adD (fun j hj=>aA.out j (by omega));unfold adk;rw [aW.out,if_neg (by simp)];dsimp only;rw [hp,if_neg (by omega)]
      clear bx;go_wp2_with fail;have q:=aaU (w:=wr) (u := .int .i64 0) (v := .int .i64 0) e2 e3;refine bodyPost_ret (aeN rfl rfl (c:=0) (a:=0) q.1 q.2) rfl ⟨by rw [Hr.out],?_⟩;exact (aV.out.setCell (p:=⟨w.heap.size+1,0,none⟩) (by dsimp only;omega) _).setCell (p:=⟨w.heap.size+1,1,none⟩) (by dsimp only;omega) _
 . have Hr:Hid (adk ⟨gs,fs⟩=(c,d)):=by
    show _=_;unfold adk;rw [aW.out,if_pos (fun e=>hok (by simpa using e))]
   have hq:((decide (c<0)||decide (0<c))||(decide (d<0)||decide (0<d)))=true:=by rw [Aa1];simp;omega
   go_wp2_with fail;have q:=aaU (w:=w1) (u := .int .i64 c) (v := .int .i64 d) g2 g3;have bp:∀o:Obj,Below ((w1.setCell ⟨w.heap.size+1,0,none⟩ (.int .i64 c)).setCell ⟨w.heap.size+1,1,none⟩ (.int .i64 d)).heap.size ((w1.setCell ⟨w.heap.size+1,0,none⟩ (.int .i64 c)).setCell ⟨w.heap.size+1,1,none⟩ (.int .i64 d)) (((w1.setCell ⟨w.heap.size+1,0,none⟩ (.int .i64 c)).setCell ⟨w.heap.size+1,1,none⟩ (.int .i64 d)).alloc o):=fun o=>(Below.refl _ _).alloc (Aad _) _;refine bodyPost_ret (aeN rfl rfl (c:=c) (a:=d) (aab q.1 (bp _)) (aab q.2 (bp _))) rfl ⟨by rw [Hr.out],?_⟩;exact ((aX.out.setCell (p:=⟨w.heap.size+1,0,none⟩) (by dsimp only;omega) _).setCell (p:=⟨w.heap.size+1,1,none⟩) (by dsimp only;omega) _).trans ((bp _).mono (by have:=aX.out.size;simpa [World.setCell] using this))
end
section
open Go.RowKit
theorem alP(n:Int):IntKind.i64.wrap n=(BitVec.ofInt 64 n).toInt:=by
 rw [BitVec.toInt_ofInt,IntKind.wrap_i64,Int.bmod];split <;> omega
theorem acR(x:BitVec 64):BitVec.ofInt 64 (x.toNat:Int)=x:=by
 apply BitVec.eq_of_toInt_eq;rw [BitVec.toInt_ofInt,BitVec.toInt_eq_toNat_bmod]
def bi(x:BitVec 64):Int:=x.toInt
theorem al5 {x y:BitVec 64}(h:bi x=bi y):x=y:=BitVec.eq_of_toInt_eq h
theorem aei(x:BitVec 64) : -9223372036854775808<=bi x∧bi x<=9223372036854775807:=by
 have h1:=BitVec.toInt_lt (x:=x);have h2:=BitVec.le_toInt (x:=x);unfold bi;omega
theorem al4(x:BitVec 64):I64 (bi x):=aei x
theorem aiH {n:Int}(h:I64 n):bi (af8 n)=n:=by
 unfold bi af8;rw [BitVec.toInt_ofInt,Int.bmod];unfold I64 at h;split <;> omega
theorem amk(x:BitVec 64):af8 (bi x)=x:=by unfold bi af8;rw [BitVec.ofInt_toInt]
theorem ae0(n:Int):IntKind.i64.wrap n=bi (BitVec.ofInt 64 n):=alP n
@[go_sem] theorem agR(x y:BitVec 64):bits .and .i64 (bi x) (bi y)=bi (x &&& y):=by
  show IntKind.i64.wrap ((BitVec.ofInt 64 x.toInt &&& BitVec.ofInt 64 y.toInt).toNat:Int)=_;rw [BitVec.ofInt_toInt,BitVec.ofInt_toInt,ae0,acR]
@[go_sem] theorem alU(x y:BitVec 64):bits .or .i64 (bi x) (bi y)=bi (x ||| y):=by
  show IntKind.i64.wrap ((BitVec.ofInt 64 x.toInt ||| BitVec.ofInt 64 y.toInt).toNat:Int)=_;rw [BitVec.ofInt_toInt,BitVec.ofInt_toInt,ae0,acR]
@[go_sem] theorem akU(x:BitVec 64):bits .xor .i64 (-1) (bi x)=bi (~~~x):=by
  show IntKind.i64.wrap ((BitVec.ofInt 64 (-1) ^^^ BitVec.ofInt 64 x.toInt).toNat:Int)=_;rw [BitVec.ofInt_toInt,ae0,acR]
  congr 1
@[go_sem] theorem alV:IntKind.i64.signed=true:=rfl
end
section
open Go.RowKit
def shX(x:BitVec 64):Nat:=x.toNat % 64
def aaV(op:Int)(x y:BitVec 64):Option (BitVec 64) :=
 if op=1 then some x
 else if op=2 then some (x+y)
 else if op=3 then some (x - y)
 else if op=4 then some (x * y)
 else if op=5 then if y=0#64 then none else some (af8 ((bi x).tdiv (bi y)))
 else if op=6 then if y=0#64 then none else some (af8 ((bi x).tmod (bi y)))
 else if op=7 then some (x &&& y)
 else if op=8 then some (x ||| y)
 else if op=9 then some (x ^^^ y)
 else if op=10 then some (x <<< shX y)
 else if op=11 then some (x.sshiftRight (shX y))
 else if op=12 then some (if bi x=bi y then 1#64 else 0#64)
 else if op=13 then some (if bi x=bi y then 0#64 else 1#64)
 else if op=14 then some (if bi x<bi y then 1#64 else 0#64)
 else if op=15 then some (if bi x<=bi y then 1#64 else 0#64)
 else if op=16 then some (-x)
 else some (~~~x)
end
section
def ajU(op a b:Int):Option Int:=(aaV op (af8 a) (af8 b)).map bi
structure RnF where
 fn:Nat
 blk:Nat
 pos:Nat
 regs:List Int
 dst:Int
structure RnS where
 mem:List Int
 inp:List Int
 out:List Int
 state:Int
 value:Int
 steps:Nat
 frs:List RnF
 cnt:List (List Int)
def RnF.none:RnF:=⟨0,0,0,[],0⟩
def RnS.top(s:RnS):RnF:=s.frs.headD RnF.none
def RnS.setTop(s:RnS)(t:RnF):RnS:={ s with frs:=t :: s.frs.tail }
def aaX(regs:List Int)(v:ab3):Int:=if v.reg=true then regs.getD v.n.toNat 0 else v.n
def ab7(c:List (List Int))(f b:Nat):List (List Int):=c.modify f fun r=>r.modify b (·+1)
def aez(u:aax)(f:Nat):aal:=u.funcs.getD f ⟨⟨#[]⟩,0,0,[]⟩
def aiI(u:aax)(f b:Nat):aad:=(aez u f).blocks.getD b ⟨[],[],⟨0,⟨false,0⟩,[]⟩⟩
def RnS.stop(s:RnS)(st:Int):RnS:={ s with state:=st }
def adG(regs:List Int)(dst n:Int):List Int:=if 0<=dst then regs.set dst.toNat n else regs
def RnS.set(s:RnS)(dst n:Int):RnS:=s.setTop { s.top with regs:=adG s.top.regs dst n }
def abf(u:aax)(fn:Nat)(args:List Int):List Int:=args++List.replicate ((aez u fn).regs.toNat - args.length) 0
def RnS.enter(u:aax)(fn:Nat)(dst:Int)(args:List Int)(s:RnS):RnS :=
 { s with frs:=⟨fn,0,0,abf u fn args,dst⟩ :: s.frs,cnt:=ab7 s.cnt fn 0 }
def whence(bs:List aad)(az b:Nat):Nat:=(aag bs 0 az).idxOf (b:Int)
def afT : List adO -> List Int -> List Int -> List Int
 | p :: ps,n :: ns,r=>afT ps ns (r.set p.dst.toNat n)
 | _,_,r=>r
def agB(ps:List adO)(k:Nat)(regs:List Int):List Int:=afT ps (ps.map fun p=>aaX regs (p.src.getD k ⟨false,0⟩)) regs
def ab9(u:aax)(az:Nat)(t:RnF):RnF :=
 { t with regs:=agB (aiI u t.fn az).phis (whence (aez u t.fn).blocks az t.blk) t.regs,blk:=az,pos:=0 }
def RnS.jump(u:aax)(az:Nat)(s:RnS):RnS:={ s.setTop (ab9 u az s.top) with cnt:=ab7 s.cnt s.top.fn az }
def RnS.end_(u:aax)(e:alR)(s:RnS):RnS×Bool :=
 if e.kind=2 then (s.jump u (e.to.getD 0 0).toNat,true)
 else if e.kind=3 then (s.jump u (e.to.getD (if aaX s.top.regs e.on≠0 then 0 else 1) 0).toNat,true)
 else if s.frs.tail=[] then ({ s with frs:=[],value:=aaX s.top.regs e.on,state:=0 },false)
 else ({ s with frs:=s.frs.tail }.set s.top.dst (aaX s.top.regs e.on),true)
def RnS.ins(u:aax)(x:abo)(s:RnS):RnS×Bool :=
 if x.op=18∨x.op=19 then
  if 0<=aaX s.top.regs x.a∧aaX s.top.regs x.a<=(s.mem.length:Int) - 1 then
   if x.op=19 then ({ s with mem:=s.mem.set (aaX s.top.regs x.a).toNat (aaX s.top.regs x.b) },true)
   else (s.set x.dst (s.mem.getD (aaX s.top.regs x.a).toNat 0),true)
  else (s.stop 3,false)
 else if x.op=20 then
  if s.frs.length=30 then (s.stop 4,false)
  else (s.enter u x.fn.toNat x.dst (x.args.map (aaX s.top.regs)),true)
 else if x.op=21 then ({ s with inp:=s.inp.tail }.set x.dst (s.inp.headD (-1)),true)
 else if x.op=22 then
  if s.out.length=200 then (s.stop 5,false) else ({ s with out:=s.out++[aaX s.top.regs x.a] },true)
 else match ajU x.op (aaX s.top.regs x.a) (aaX s.top.regs x.b) with
  | some n=>(s.set x.dst n,true)
  | none=>(s.stop 2,false)
def RnS.step(u:aax)(s:RnS):RnS×Bool :=
 if s.top.pos=(aiI u s.top.fn s.top.blk).list.length then { s with steps:=s.steps+1 }.end_ u (aiI u s.top.fn s.top.blk).fin
 else ({ s with steps:=s.steps+1 }.setTop { s.top with pos:=s.top.pos+1 }).ins u ((aiI u s.top.fn s.top.blk).list.getD s.top.pos ⟨0,0,⟨false,0⟩,⟨false,0⟩,0,[]⟩)
def RnS.go (u : aax) : Nat -> RnS -> RnS
 | 0,s=>s.stop 1
 | n+1,s=>if (s.step u).2=true then RnS.go u n (s.step u).1 else (s.step u).1
def akg(gs:List aat):List Int:=gs.flatMap fun g=>g.init++List.replicate (g.size.toNat - g.init.length) 0
def mainAt(fs:List aal):Nat:=fs.findIdx fun f=>f.name.toList == [109,97,105,110]
def RnS.start(u:aax)(inp:List Int):RnS :=
 RnS.enter u (mainAt u.funcs) (-1) [] ⟨akg u.globals,inp,[],0,0,0,[],u.funcs.map fun f=>List.replicate f.blocks.length 0⟩
def runR(u:aax)(inp:List Int)(fuel:Nat):RnS:=RnS.go u fuel (RnS.start u inp)
end
end Go.Proofs.YtgekbfgplclmeaaDoor
