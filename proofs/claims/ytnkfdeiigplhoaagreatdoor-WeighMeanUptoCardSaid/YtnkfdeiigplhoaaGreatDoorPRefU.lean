import Derived.Test.YtnkfdeiigplhoaaGreatDoorPBack
import Derived.Deep.RegionLaw
/- calls.CopyFunc: a function of the call's own memory. calls.Copy: a unit of the call's own memory. turneryref5.CloneBlock: a block of the call's own memory. turneryref5.Clone: a unit of the call's own memory. -/
set_option maxHeartbeats 4000000
set_option maxRecDepth 100000
namespace Go.Proofs.YtnkfdeiigplhoaaGreatDoor
section
open Go.RowKit
theorem alR:(Tryz.prog.info? 59).map (fun i=>(i.zero,i.size,i.bytes))=some (some (.agg #[.slice none 0 0,.slice none 0 0,.int .i64 0,.bool false,.int .i64 0,.slice none 0 0]),6,96):=by kernel_rfl
variable {w:World}{S:Nat->Prop}
theorem ad6.rd{lo hi:Nat}{pv lv tv:Value}{x:aad}(h:ad6 lo hi w pv lv tv x)(hS:∀b,lo<=b->b<hi->S b)(h1:I64 x.fin.kind)(h2:I64 x.fin.on.n) :
 aaJ S w [pv,lv,.int .i64 x.fin.kind,.bool x.fin.on.reg,.int .i64 x.fin.on.n,tv] x:=by
 obtain⟨a1,b1,a2,b2,a3,b3,k1,k2,k3,-,-,-,p,l,t⟩:=h
 exact ⟨pv, lv, _, rfl, (p.toSl aa0 (by decide)).mono aa0 (fun b hb => hS b (Aag k1.1 hb.1) (Aap hb.2 k1.2.2)) (aav.refl _ _),
  (l.toSl aa6 (by decide)).mono aa6 (fun b hb => hS b (Aag k2.1 hb.1) (Aap hb.2 k2.2.2)) (aav.refl _ _),
  tv, rfl, (t.toSl aae (by decide)).mono aae (fun b hb => hS b (Aag k3.1 hb.1) (Aap hb.2 k3.2.2)) (aav.refl _ _), h1, h2⟩
theorem ad6.shape{lo hi:Nat}{pv lv tv:Value}{x:aad}(h:ad6 lo hi w pv lv tv x):(∃a c,pv = .slice a x.phis.length c)∧(∃a c,lv = .slice a x.list.length c)∧∃a c,tv = .slice a x.fin.to.length c:=by
 obtain⟨a1,b1,a2,b2,a3,b3,k1,k2,k3,-,-,-,p,l,t⟩:=h;exact⟨p.shape,l.shape,t.shape⟩
structure agG (x:aad):Prop where
 phis:x.phis.length<=1048576
 list:x.list.length<=1048576
 to:x.fin.to.length<=1048576
 src:∀p∈x.phis,p.src.length<=1048576
 args:∀i∈x.list,i.args.length<=1048576
structure aom (w wr:World)(nm:ByteArray)(p r:Int)(v:Value)(l:List aad):Prop where
 own:Own (w.heap.size+2) wr 59 6 aaJ v l
 below:Below w.heap.size w wr
 box:aaj wr w.heap.size 0 [.string nm,.int .i64 p,.int .i64 r,v]
 free:∀j,wr.frozen? ⟨w.heap.size,j,none⟩=false
 out:aaj wr (w.heap.size+1) 0 [.string ⟨#[]⟩,.int .i64 0,.int .i64 0,.slice none 0 0]
 outFree:∀j,wr.frozen? ⟨w.heap.size+1,j,none⟩=false
theorem aom.next{wr w3:World} {nm : ByteArray} {p r : Int} {v v3 : Value} {l l3 : List aad} (h : aom w wr nm p r v l) (al : Own (w.heap.size + 2) w3 59 6 aaJ v3 l3) (hb : Below w.heap.size w w3)
 (hk:w3.heap[w.heap.size]?=wr.heap[w.heap.size]?) (bL:w3.heap[w.heap.size+1]?=wr.heap[w.heap.size+1]?):aom w (w3.setCell ⟨w.heap.size,3,none⟩ v3) nm p r v3 l3:=by
 have c:∀j,w3.cell? ⟨w.heap.size,j,none⟩=wr.cell? ⟨w.heap.size,j,none⟩:=fun j=>World.cell?_of_block (a:=⟨w.heap.size,j,none⟩) hk;have c':∀j,w3.cell? ⟨w.heap.size+1,j,none⟩=wr.cell? ⟨w.heap.size+1,j,none⟩:=fun j=>World.cell?_of_block (a:=⟨w.heap.size+1,j,none⟩) bL;obtain⟨b0,b1,b2,b3⟩:=h.box.get4;obtain⟨o0,o1,o2,o3⟩:=h.out.get4;simp only [Aab] at b0 b1 b2 b3 o0 o1 o2 o3;have aX:w.heap.size+1≠w.heap.size:=by omega
 have e3:w3.cell? ⟨w.heap.size,3,none⟩=some v:=(c 3).trans b3;refine⟨al.setLow aam (by dsimp only;omega) _,hb.setCell (Aad _) _,?_,fun j=>?_,?_,fun j=>?_⟩
 . refine .cons ?_ (.cons ?_ (.cons ?_ (.cons ?_ (aaj.nil _ _ _))))
   . rw [aap e3,if_neg (by decide)];exact (c 0).trans b0
   . rw [aap e3,if_neg (by decide)];exact (c 1).trans b1
   . rw [aap e3,if_neg (by decide)];exact (c 2).trans b2
   . rw [aap e3,if_pos rfl]
 . rw [show (w3.setCell ⟨w.heap.size,3,none⟩ v3).frozen? ⟨w.heap.size,j,none⟩=w3.frozen? ⟨w.heap.size,j,none⟩ by simp,World.frozen?_of_block (w:=wr) (a:=⟨w.heap.size,j,none⟩) hk];exact h.free j
 . refine .cons ?_ (.cons ?_ (.cons ?_ (.cons ?_ (aaj.nil _ _ _))))
   . rw [aaf _ aX];exact (c' 0).trans o0
   . rw [aaf _ aX];exact (c' 1).trans o1
   . rw [aaf _ aX];exact (c' 2).trans o2
   . rw [aaf _ aX];exact (c' 3).trans o3
 . rw [show (w3.setCell ⟨w.heap.size,3,none⟩ v3).frozen? ⟨w.heap.size+1,j,none⟩=w3.frozen? ⟨w.heap.size+1,j,none⟩ by simp,World.frozen?_of_block (w:=wr) (a:=⟨w.heap.size+1,j,none⟩) bL];exact h.outFree j
theorem afy{a:Option Addr}{n c:Nat}{l:List aad}(h:SlAt S w 6 aaJ (.slice a n c) l){k:Nat}(hk:k<l.length) :
 ∃b off pa pc la lc ta tc,a=some ⟨b,off,none⟩∧aaj w b (off+k * 6) [.slice pa l[k].phis.length pc,.slice la l[k].list.length lc,.int .i64 l[k].fin.kind,.bool l[k].fin.on.reg,.int .i64 l[k].fin.on.n,.slice ta l[k].fin.to.length tc] ∧
   SlAt S w 2 ag4 (.slice pa l[k].phis.length pc) l[k].phis∧SlAt S w 8 ajY (.slice la l[k].list.length lc) l[k].list∧SlAt S w 1 aaO (.slice ta l[k].fin.to.length tc) l[k].fin.to∧I64 l[k].fin.kind∧I64 l[k].fin.on.n:=by
 obtain⟨b,off,cs,ha,-,hr,-,aw⟩:=h.get hk;obtain⟨pa,pc,la,lc,ta,tc,rfl,h1,h2,h3,-,-,-,h4,h5⟩:=hr.opens;exact⟨b,off,pa,pc,la,lc,ta,tc,ha,aw,h1,h2,h3,h4,h5⟩
theorem afd(nm:ByteArray)(p r:Int)(ba:Option Addr)(bc:Nat)(bs:List aad)(w:World)(hb:SlAt S w 6 aaJ (.slice ba bs.length bc) bs)(hn:bs.length<=1048576)(bM:∀x∈bs,agG x) :
 Calls Tryz.prog 57 #[.agg #[.string nm,.int .i64 p,.int .i64 r,.slice ba bs.length bc]] w fun e w' =>
  ∃bv,e = .returned (.agg #[.string nm,.int .i64 p,.int .i64 r,bv])∧ab4 (w.heap.size+2) w'.heap.size w' 59 6 aaJ bv bs∧Below w.heap.size w w':=by
 have Hb:=hid hb;have bR:=hid bM;clear hb bM;obtain⟨ib,bX,bo,bp,bq⟩:=info_parts alR;go_enter Tryz.func57,Tryz.ntmps57;go_wp2_with fail;obtain⟨W0,an⟩:∃W0,W0=(w.alloc (.cells #[.string nm,.int .i64 p,.int .i64 r,.slice none 0 0] 50)).alloc (.cells #[.string ⟨#[]⟩,.int .i64 0,.int .i64 0,.slice none 0 0] 50):=⟨_,rfl⟩
 have aT:aom w W0 nm p r (.slice none 0 0) []:=by
  refine⟨Own.nil _ _ _ _ _,by rw [an];exact bE,?_,by intro j;rw [an];simp,?_,by intro j;rw [an];simp⟩
  . intro j u hj;rw [an,Aab,World.cell?_alloc2_first];simpa using hj
  . intro j u hj;rw [an,Aab,World.cell?_alloc2_new];simpa using hj
 have aZ:w.heap.size+2<=W0.heap.size:=by rw [an];simp
 rw [<-an];have bk:=hid aT;clear an aT;go_loopw [11] (fun i wr=>∃(k:Nat) (v:Value),k<=bs.length∧i = .int .i64 k∧w.heap.size+2<=wr.heap.size∧aom w wr nm p r v (bs.take k)) (fun i _=>bs.length - (intOf i).toNat)
 case atStart=>exact⟨0,_,Aah _,rfl,aZ,bk.out⟩
 case round =>
  obtain⟨k,v,hk,rfl,a6,hs⟩:=hrel;have Hs:=hid hs
  by_cases hkl:k<bs.length
  . obtain⟨b,off,pa,pc,la,lc,ta,tc,rfl,aw,hp,hl,ht,aI,aJ⟩:=afy (Hb.out.later aam hs.below) hkl
    obtain⟨d0,d1,d2,d3,d4,d5⟩:=aw.get6;have bI:b<wr.heap.size:=aac d0;obtain⟨y,hy⟩:∃y,y=bs[k]:=⟨_,rfl⟩
    rw [<-hy] at d0 d1 d2 d3 d4 d5 hp hl ht aI aJ;have Hy:=hid hy;have bN:agG y:=by rw [hy];exact bR.out _ (Aaf hkl)
    have aS:=hid bN;have Hp:=hid hp;have Hl:=hid hl;have Ht:=hid ht;have bf:=hid aI;have bg:=hid aJ;obtain⟨W1,aj⟩:∃W1,W1=wr.alloc (.cells #[.slice pa y.phis.length pc,.slice la y.list.length lc,.int .i64 y.fin.kind,.bool y.fin.on.reg,.int .i64 y.fin.on.n,.slice ta y.fin.to.length tc] 59):=⟨_,rfl⟩
    have kc:aaj W1 wr.heap.size 0 [.slice pa y.phis.length pc,.slice la y.list.length lc,.int .i64 y.fin.kind,.bool y.fin.on.reg,.int .i64 y.fin.on.n,.slice ta y.fin.to.length tc]:=by
     intro j u hj;rw [aj,Aab,World.cell?_alloc_new];simpa using hj
    have aM:W1.heap.size=wr.heap.size+1:=by rw [aj];simp
    have af:Below wr.heap.size wr W1:=by rw [aj];exact bE
    have ae:=hid af;obtain⟨m0,m1,m2,m3,m4,m5⟩:=kc.get6;simp only [Aab] at m1 m2 m3 m4 m5;have a7:w.heap.size<W1.heap.size:=by omega
    have g3:W1.cell? ⟨w.heap.size,3,none⟩=some v:=aab (hs.box.get4.2.2.2) af;have f3:W1.frozen? ⟨w.heap.size,3,none⟩=false:=(af.frozen (p:=⟨w.heap.size,3,none⟩) (by dsimp only;omega)).trans (hs.free 3);clear hs aw hy bN hp hl ht aI aJ kc af;go_wp2_with fail;clear d0 d1 d2 d3 d4 d5;rw [<-aj];have bP:=hid aj;clear aj
    go_region_law
     (first
       | (go_simp; go_at_call 58; refine (aeq (S := S) y pa la ta pc lc tc W1.drew (Hp.out.later aa0 ae.out.drew) (Hl.out.later aa6 ae.out.drew) (Ht.out.later aae ae.out.drew) aS.out.phis aS.out.list aS.out.to aS.out.src aS.out.args).mono ?_; rintro e w2 ⟨pv, lv, tv, rfl, aH, ay⟩; have ao : Below W1.heap.size W1 w2 := (Below.refl W1.heap.size W1).drew.trans ay; have aD := hid ao; have be := hid aH; have n3 := aab g3 ao; have n0 := aab m0 ao; have n1 := aab m1 ao; have n2 := aab m2 ao; have n4 := aab m3 ao; have n5 := aab m4 ao; have n6 := aab m5 ao; have a8 : w.heap.size < w2.heap.size := aac n3; have aO : wr.heap.size < w2.heap.size := aac n0; have ck : W1.heap.size <= w2.heap.size := ao.size; have bm : w2.frozen? ⟨w.heap.size, 3, none⟩ = false := (ao.frozen (p := ⟨w.heap.size, 3, none⟩) a7).trans f3; obtain ⟨⟨cc, aN, rfl⟩, ⟨ca, cb, rfl⟩, ⟨cf, cg, rfl⟩⟩ := aH.shape; clear aH ay ao)
       | (refine adC rfl _ _ 48 rfl (w.heap.size + 2) 59 ib _ 6 96 Tryz.underlying48 bX bo bp bq rfl (by decide) aam v (bs.take k) rfl ?_ ⟨w2.heap.size, 0, none⟩ 1 [.slice cc y.phis.length aN, .slice ca y.list.length cb, .int .i64 y.fin.kind, .bool y.fin.on.reg, .int .i64 y.fin.on.n, .slice cf y.fin.to.length cg] y rfl rfl ?_ ?_ ?_ ?_ (by decide) ?_ ?_
          . exact Hs.out.own.later aam (by have h := ae.out; have h2 := aD.out; exact bE2 h2 h)
          . exact abd w2 _ _ rfl
          . intro u hu; simp at hu; rcases hu with rfl | rfl | rfl | rfl | rfl | rfl <;> rfl
          . exact aam.out _ _ _ _ _ _ (fun _ h => h) (aav.below' bE) (be.out.rd (fun b h1 h2 => ⟨Aag (Aag a6 (Aag (Aa3 _) (Nat.le_of_eq aM.symm))) h1, Aap h2 (by simp), fun e => Abg _ (Aap (Hs.out.own.lt b e).2 (Aag (Aag (Aa3 _) (Nat.le_of_eq aM.symm)) h1))⟩) bf.out bg.out)
          . rw [Aar]; omega
          . simp; omega
          intro v3 w3 ag ad ⟨g9, bl, bD⟩
          have ar : ∀ B, B < w2.heap.size -> some B ≠ v.ownBlock -> w3.heap[B]? = w2.heap[B]? := fun B h1 h2 => (ad.block B (by simp; omega) h2).trans (Below.heap_alloc w2 _ _ h1)
          have na : some w.heap.size ≠ v.ownBlock := fun e => by have := (Hs.out.own.lt _ e.symm).1; omega
          have bO : some (w.heap.size + 1) ≠ v.ownBlock := fun e => by have := (Hs.out.own.lt _ e.symm).1; omega
          have nb : some wr.heap.size ≠ v.ownBlock := fun e => by have := (Hs.out.own.lt _ e.symm).2; omega
          have x3 := (World.cell?_of_block (w := w2) (a := ⟨w.heap.size, 3, none⟩) (ar _ a8 na)).trans n3
          have x0 := (World.cell?_of_block (w := w2) (a := ⟨wr.heap.size, 0, none⟩) (ar _ aO nb)).trans n0
          have x1 := (World.cell?_of_block (w := w2) (a := ⟨wr.heap.size, 1, none⟩) (ar _ aO nb)).trans n1
          have x2 := (World.cell?_of_block (w := w2) (a := ⟨wr.heap.size, 2, none⟩) (ar _ aO nb)).trans n2
          have x4 := (World.cell?_of_block (w := w2) (a := ⟨wr.heap.size, 3, none⟩) (ar _ aO nb)).trans n4
          have x5 := (World.cell?_of_block (w := w2) (a := ⟨wr.heap.size, 4, none⟩) (ar _ aO nb)).trans n5
          have x6 := (World.cell?_of_block (w := w2) (a := ⟨wr.heap.size, 5, none⟩) (ar _ aO nb)).trans n6
          have y3 : w3.frozen? ⟨w.heap.size, 3, none⟩ = false := (World.frozen?_of_block (w := w2) (a := ⟨w.heap.size, 3, none⟩) (ar _ a8 na)).trans bm
          have aE : Below w.heap.size w w3 := by
           refine Below.grown ?_ ad (by simp; omega) (fun g hg => by have := (Hs.out.own.lt g hg).1; omega)
           have h := Hs.out.below; have h1 := ae.out; have h2 := aD.out
           exact bE3 h2 h1 h
          have bJ : w3.heap[w.heap.size]? = wr.heap[w.heap.size]? := (ar _ a8 na).trans ((aD.out.block _ a7).trans (ae.out.block _ (by omega)))
          have bK : w3.heap[w.heap.size + 1]? = wr.heap[w.heap.size + 1]? := (ar _ (by omega) bO).trans ((aD.out.block _ (by omega)).trans (ae.out.block _ (by omega)))
          have aR : Hid (aom w (w3.setCell ⟨w.heap.size, 3, none⟩ v3) nm p r v3 (bs.take (k + 1))) := by have e : bs.take (k + 1) = bs.take k ++ [y] := (by rw [Aat hkl, Hy.out]); show aom _ _ _ _ _ _ _; rw [e]; exact Hs.out.next ag aE bJ bK
          have b7 : w2.heap.size <= w3.heap.size := Aag (by simp) ad.size
          subst bD
          clear ar na bO nb aE bJ bK ag ad n0 n1 n2 n3 n4 n5 n6))
    all_goals
     go_wp2_with fail;go_roundw
     case rel=>exact⟨k+1,_,by omega,by go_num,by simp [World.setCell];omega,by have h:=aR.out;(try simp only [Aar,Abr hk] at h);first | exact h | exact h.drew | exact h.drew.drew | exact h.drew.drew.drew⟩
     case measure=>simp [intOf];omega
  . obtain rfl:k=bs.length:=by omega
    rw [Aay] at hs Hs;obtain⟨po,aN,b4⟩:=hs.own.shape;subst b4;obtain⟨b0,b1,b2,b3⟩:=hs.box.get4;obtain⟨o0,o1,o2,o3⟩:=hs.out.get4;simp only [Aab] at b1 b2 b3 o1 o2 o3;have y0:=hs.outFree 0;have y1:=hs.outFree 1;have y2:=hs.outFree 2;have y3:=hs.outFree 3;have bF:w.heap.size+1<wr.heap.size:=aac o0;clear hs;go_wp2_with fail;have av:=ap4 (u0 := .string nm) (u1 := .int .i64 p) (u2 := .int .i64 r) (u3 := .slice po bs.length aN) Hs.out.out;obtain⟨h0,h1,h2,h3⟩:=av.get4;simp only [Aab] at h1 h2 h3;obtain⟨W5,aC⟩:∃W5,W5=((((wr.setCell ⟨w.heap.size+1,0,none⟩ (.string nm)).setCell ⟨w.heap.size+1,1,none⟩ (.int .i64 p)).setCell ⟨w.heap.size+1,2,none⟩ (.int .i64 r)).setCell ⟨w.heap.size+1,3,none⟩ (.slice po bs.length aN)):=⟨_,rfl⟩
    rw [<-aC] at h0 h1 h2 h3 ⊢;have hle:w.heap.size<=w.heap.size+1:=Aa3 _;have aL:w.heap.size+1<w.heap.size+2:=Abc _;have aG:Below w.heap.size w W5:=by
     rw [aC];exact (((Hs.out.below.setCell (p:=⟨w.heap.size+1,0,none⟩) hle _).setCell (p:=⟨w.heap.size+1,1,none⟩) hle _).setCell (p:=⟨w.heap.size+1,2,none⟩) hle _).setCell (p:=⟨w.heap.size+1,3,none⟩) hle _
    have aA:Own (w.heap.size+2) W5 59 6 aaJ (.slice po bs.length aN) bs:=by
     rw [aC];exact (((Hs.out.own.setLow aam (p:=⟨w.heap.size+1,0,none⟩) aL _).setLow aam (p:=⟨w.heap.size+1,1,none⟩) aL _).setLow aam (p:=⟨w.heap.size+1,2,none⟩) aL _).setLow aam (p:=⟨w.heap.size+1,3,none⟩) aL _
    refine bodyPost_ret (v := .agg #[.string nm,.int .i64 p,.int .i64 r,.slice po bs.length aN]) ?_ rfl ⟨_,rfl,aA.inn,aG⟩;simp [results,Tryz.results57,go_sem,h0,h1,h2,h3]
end
section
open Go.RowKit
theorem akE:(Tryz.prog.info? 68).map (fun i=>(i.zero,i.size,i.bytes))=some (some (.agg #[.string ⟨#[]⟩,.int .i64 0,.slice none 0 0]),3,48):=by kernel_rfl
theorem anf:(Tryz.prog.info? 50).map (fun i=>(i.zero,i.size,i.bytes))=some (some (.agg #[.string ⟨#[]⟩,.int .i64 0,.int .i64 0,.slice none 0 0]),4,56):=by kernel_rfl
structure afn (w wr:World)(g f gv fv:Value):Prop where
 below:Below w.heap.size w wr
 par:aaj wr w.heap.size 0 [g,f]
 res:aaj wr (w.heap.size+1) 0 [.slice none 0 0,.slice none 0 0]
 resFree:∀j,wr.frozen? ⟨w.heap.size+1,j,none⟩=false
 out:aaj wr (w.heap.size+2) 0 [gv,fv]
 outFree:∀j,wr.frozen? ⟨w.heap.size+2,j,none⟩=false
variable {w:World}
theorem abQ{w':World}{b o:Nat}{cs:List Value}(h:aaj w b o cs)(hk:w'.heap[b]?=w.heap[b]?):aaj w' b o cs:=fun j v hj=>by
 rw [World.cell?_of_block (w:=w) (a:=⟨b,o+j,none⟩) hk];exact h j v hj
variable {wr:World}{g f gv fv:Value}
theorem afn.keep{w3:World}(h:afn w wr g f gv fv)(hb:Below w.heap.size w w3)(hk:∀b,w.heap.size<=b->b<w.heap.size+3->w3.heap[b]?=wr.heap[b]?):afn w w3 g f gv fv :=
 ⟨hb, abQ h.par (hk _ (by omega) (by omega)), abQ h.res (hk _ (by omega) (by omega)), fun j => (World.frozen?_of_block (w := wr) (a := ⟨w.heap.size + 1, j, none⟩) (hk _ (by dsimp only; omega) (by dsimp only; omega))).trans (h.resFree j),
   abQ h.out (hk _ (by omega) (by omega)), fun j => (World.frozen?_of_block (w := wr) (a := ⟨w.heap.size + 2, j, none⟩) (hk _ (by dsimp only; omega) (by dsimp only; omega))).trans (h.outFree j)⟩
theorem afn.set0(h:afn w wr g f gv fv)(u:Value):afn w (wr.setCell ⟨w.heap.size+2,0,none⟩ u) g f u fv:=by
 obtain⟨o0,o1⟩:=h.out.get2;have hk:∀b,b≠w.heap.size+2->(wr.setCell ⟨w.heap.size+2,0,none⟩ u).heap[b]?=wr.heap[b]?:=fun b hb=>Below.heap_setCell _ _ _ _ hb;refine⟨h.below.setCell (by dsimp only;omega) _,abQ h.par (hk _ (by omega)),abQ h.res (hk _ (by omega)),fun j=>(World.frozen?_of_block (w:=wr) (a:=⟨w.heap.size+1,j,none⟩) (hk _ (by dsimp only;omega))).trans (h.resFree j),?_,fun j=>by simp;exact h.outFree j⟩;exact .cons (by rw [aap o0,if_pos rfl]) (.cons (by rw [Aab,aap o0,if_neg (by decide)];exact o1) (aaj.nil _ _ _))
theorem afn.set1(h:afn w wr g f gv fv)(u:Value):afn w (wr.setCell ⟨w.heap.size+2,1,none⟩ u) g f gv u:=by
 obtain⟨o0,o1⟩:=h.out.get2;rw [Aab] at o1;have hk:∀b,b≠w.heap.size+2->(wr.setCell ⟨w.heap.size+2,1,none⟩ u).heap[b]?=wr.heap[b]?:=fun b hb=>Below.heap_setCell _ _ _ _ hb;refine⟨h.below.setCell (by dsimp only;omega) _,abQ h.par (hk _ (by omega)),abQ h.res (hk _ (by omega)),fun j=>(World.frozen?_of_block (w:=wr) (a:=⟨w.heap.size+1,j,none⟩) (hk _ (by dsimp only;omega))).trans (h.resFree j),?_,fun j=>by simp;exact h.outFree j⟩;exact .cons (by rw [aap o1,if_neg (by decide)];exact o0) (.cons (by rw [Aab,aap o1,if_pos rfl]) (aaj.nil _ _ _))
theorem aid{S:Nat->Prop}{a:Option Addr}{n c:Nat}{l:List aas}(h:SlAt S w 3 aaE (.slice a n c) l){k:Nat}(hk:k<l.length) :
 ∃b off ia ic,a=some ⟨b,off,none⟩∧aaj w b (off+k * 3) [.string l[k].name,.int .i64 l[k].size,.slice ia l[k].init.length ic]∧SlAt S w 1 aaO (.slice ia l[k].init.length ic) l[k].init∧I64 l[k].size:=by
 obtain⟨b,off,cs,ha,-,hr,-,aw⟩:=h.get hk;obtain⟨ia,ic,rfl,h1,-,h2⟩:=hr.opens;exact⟨b,off,ia,ic,ha,aw,h1,h2⟩
theorem acF{S:Nat->Prop}{a:Option Addr}{n c:Nat}{l:List aao}(h:SlAt S w 4 aaZ (.slice a n c) l){k:Nat}(hk:k<l.length) :
 ∃b off xa xc,a=some ⟨b,off,none⟩∧aaj w b (off+k * 4) [.string l[k].name,.int .i64 l[k].params,.int .i64 l[k].regs,.slice xa l[k].blocks.length xc]∧SlAt S w 6 aaJ (.slice xa l[k].blocks.length xc) l[k].blocks∧I64 l[k].params∧I64 l[k].regs:=by
 obtain⟨b,off,cs,ha,-,hr,-,aw⟩:=h.get hk;obtain⟨xa,xc,rfl,h1,-,h2,h3⟩:=hr.opens;exact⟨b,off,xa,xc,ha,aw,h1,h2,h3⟩
structure ajw (f:aao):Prop where
 blocks:f.blocks.length<=1048576
 each:∀x∈f.blocks,agG x
theorem am3 {S : Nat -> Prop} (ga fa : Option Addr) (gc fc : Nat) (gs : List aas) (fs : List aao) (w : World) (hg : SlAt S w 3 aaE (.slice ga gs.length gc) gs) (hf : SlAt S w 4 aaZ (.slice fa fs.length fc) fs)
 (ng:gs.length<=1048576) (nf:fs.length<=1048576) (sg:∀g∈gs,g.init.length<=1048576) (sf:∀f∈fs,ajw f) :
 Calls Tryz.prog 32 #[.agg #[.slice ga gs.length gc,.slice fa fs.length fc]] w fun e w' =>
  ∃gv fv A,e = .returned (.agg #[gv,fv])∧w.heap.size+3<=A∧A<=w'.heap.size∧ab4 (w.heap.size+3) A w' 68 3 aaE gv gs∧ab4 A w'.heap.size w' 50 4 aaZ fv fs∧Below w.heap.size w w':=by
 have Hg:=hid hg;have Hf:=hid hf;have Sg:=hid sg;have Sf:=hid sf;clear hg hf sg sf;obtain⟨ig,bZ,bx,bz,bA⟩:=info_parts akE;obtain⟨b9,bY,br,bt,bu⟩:=info_parts anf;go_enter Tryz.func32,Tryz.ntmps32;go_wp2_with fail;obtain⟨W0,an⟩:∃W0,W0=((w.alloc (.cells #[.slice ga gs.length gc,.slice fa fs.length fc] 25)).alloc (.cells #[.slice none 0 0,.slice none 0 0] 25)).alloc (.cells #[.slice none 0 0,.slice none 0 0] 25):=⟨_,rfl⟩
 have aZ:W0.heap.size=w.heap.size+3:=by rw [an];simp
 have aT:afn w W0 (.slice ga gs.length gc) (.slice fa fs.length fc) (.slice none 0 0) (.slice none 0 0):=by
  refine⟨by rw [an];exact bE,?_,?_,by intro j;rw [an,World.frozen?_alloc_old _ _ _ (by simp),World.frozen?_alloc_at _ _ _ _ (by simp)],?_,by intro j;rw [an,World.frozen?_alloc_at _ _ _ _ (by simp)]⟩
  . intro j u hj;rw [an,Aab,World.cell?_alloc_past _ _ _ (by simp;omega),World.cell?_alloc2_first];simpa using hj
  . intro j u hj;rw [an,Aab,World.cell?_alloc_past _ _ _ (by simp),World.cell?_alloc2_new];simpa using hj
  . intro j u hj;rw [an,Aab,World.cell?_alloc_at _ _ _ _ (by simp)];simpa using hj
 rw [<-an];have bk:=hid aT;have bQ:=hid aZ;clear an aT aZ;go_loopw [12] (fun i wr=>∃(k:Nat) (v:Value),k<=gs.length∧i = .int .i64 k∧w.heap.size+3<=wr.heap.size∧afn w wr (.slice ga gs.length gc) (.slice fa fs.length fc) v (.slice none 0 0)∧Own (w.heap.size+3) wr 68 3 aaE v (gs.take k)) (fun i _=>gs.length - (intOf i).toNat)
 case atStart=>exact⟨0,_,Aah _,rfl,Nat.le_of_eq bQ.out.symm,bk.out,Own.nil _ _ _ _ _⟩
 case round =>
  obtain⟨k,v,hk,rfl,a6,aq,al⟩:=hrel;have aP:=hid aq;have au:=hid al
  by_cases hkl:k<gs.length
  . obtain⟨b,off,ia,ic,rfl,aw,aK,hd⟩:=aid (Hg.out.later aan aq.below) hkl
    obtain⟨d0,d1,d2⟩:=aw.get3;have bI:b<wr.heap.size:=aac d0;obtain⟨y,hy⟩:∃y,y=gs[k]:=⟨_,rfl⟩
    rw [<-hy] at d0 d1 d2 aK hd;have Hy:=hid hy;have aY:y.init.length<=1048576:=by rw [hy];exact Sg.out _ (Aaf hkl)
    have bj:=hid aK;have Hd:=hid hd;obtain⟨W1,aj⟩:∃W1,W1=wr.alloc (.cells #[.string y.name,.int .i64 y.size,.slice ia y.init.length ic] 68):=⟨_,rfl⟩
    have kc:aaj W1 wr.heap.size 0 [.string y.name,.int .i64 y.size,.slice ia y.init.length ic]:=by
     intro j u hj;rw [aj,Aab,World.cell?_alloc_new];simpa using hj
    have kf:W1.frozen? ⟨wr.heap.size,2,none⟩=false:=by rw [aj];simp
    have aM:W1.heap.size=wr.heap.size+1:=by rw [aj];simp
    have af:Below wr.heap.size wr W1:=by rw [aj];exact bE
    have ae:=hid af;have g3:W1.cell? ⟨w.heap.size+2,0,none⟩=some v:=aab aq.out.get2.1 af;have f3:W1.frozen? ⟨w.heap.size+2,0,none⟩=false:=(af.frozen (p:=⟨w.heap.size+2,0,none⟩) (by dsimp only;omega)).trans (aq.outFree 0);clear aq al aw hy aK hd;go_wp2_with fail;rw [<-aj];refine (aeo (S:=S) ia ic y.init W1 (bj.out.later aae af) aY).mono ?_;rintro e w2 ⟨v',rfl,bC,ay⟩;obtain⟨a',c',rfl⟩:=bC.shape;have bS:=hid bC;have bd:=hid ay;obtain⟨m0,m1,m2⟩:=(kc.later ay).get3;simp only [Aab] at m1 m2;have mf:w2.frozen? ⟨wr.heap.size,2,none⟩=false:=(ay.frozen (p:=⟨wr.heap.size,2,none⟩) (by dsimp only;omega)).trans kf;have n3:=aab g3 ay;have bm:w2.frozen? ⟨w.heap.size+2,0,none⟩=false:=(ay.frozen (p:=⟨w.heap.size+2,0,none⟩) (by dsimp only;omega)).trans f3;have cl:wr.heap.size<w2.heap.size:=aac m0;have b7:w.heap.size+2<wr.heap.size:=by omega
    clear kc kf af bC ay aj d0 d1 d2 g3 f3;go_wp2_with (at_builtin;refine abo rfl _ _ 22 rfl (w.heap.size+3) 68 ig _ 3 48 Tryz.underlying22 bZ bx bz bA rfl (by decide) aan v (gs.take k) rfl ?_ ⟨w2.heap.size,0,none⟩ 1 [.string y.name,.int .i64 y.size,.slice a' y.init.length c'] y rfl rfl ?_ ?_ ?_ ?_ (by decide) ?_ ?_)
    . exact au.out.later aan (by have h:=ae.out;have h2:=bd.out;exact bE2 h2 h)
    . exact abd _ _ _ (by simp)
    . intro u hu;simp at hu;rcases hu with rfl | rfl | rfl <;> rfl
    . refine⟨_,rfl,bS.out.sub aae (by decide) (by omega) (fun g hg=>by have:=au.out.lt g hg;omega) (fun b hb hl=>abT _ _ _ _ hl (by dsimp only;omega)) (by simp),Hd.out⟩
    . rw [Aar];omega
    . simp;omega
    . intro v2 w3 ag ad g2 bT b6
      have ar:∀B,B<wr.heap.size->some B≠v.ownBlock->w3.heap[B]?=wr.heap[B]?:=fun B h1 h2=>by
       rw [ad.block B (by simp;omega) h2,abT _ _ _ _ (by omega) (by dsimp only;omega),bd.out.block B (by omega),ae.out.block B h1]
      have ax:∀B,w.heap.size<=B->B<w.heap.size+3->w3.heap[B]?=wr.heap[B]?:=fun B h1 h2=>ar B (by omega) (fun e=>by have:=(au.out.lt B e.symm).1;omega);have aE:Below w.heap.size w w3:=by
       refine Below.grown ?_ ad (by simp;omega) (fun g hg=>by have:=(au.out.lt g hg).1;omega);have h:=aP.out.below;have h1:=ae.out;have h2:=bd.out;exact bE3 h2 h1 h
      have ak:=aP.out.keep aE ax;have n4:w3.cell? ⟨w.heap.size+2,0,none⟩=some v:=ak.out.get2.1;have bU:w3.frozen? ⟨w.heap.size+2,0,none⟩=false:=ak.outFree 0;have aF:=hid (ak.set0 v2);have az:Hid (Own (w.heap.size+3) (w3.setCell ⟨w.heap.size+2,0,none⟩ v2) 68 3 aaE v2 (gs.take (k+1))):=by
       have e:gs.take (k+1)=gs.take k++[y]:=by rw [Aat hkl,Hy.out]
       show Own _ _ _ _ _ _ _;rw [e];exact ag.setLow aan (by dsimp only;omega) _
      have b8:w2.heap.size<=w3.heap.size:=Aag (by simp) ad.size;subst b6;clear ag ad ar ax aE ak;go_wp2_with fail;go_roundw
      case rel=>exact⟨k+1,_,by omega,by go_num,by simp [World.setCell];omega,by have h:=aF.out;(try simp only [Aar,Abr hk] at h);exact h,by have h:=az.out;(try simp only [Aar,Abr hk] at h);exact h⟩
      case measure=>simp [intOf];omega
  . obtain rfl:k=gs.length:=by omega
    rw [Aay] at au;obtain⟨WA,bH⟩:∃WA,WA=wr:=⟨_,rfl⟩
    rw [<-bH] at aP au a6 ⊢;have q1:WA.cell? ⟨w.heap.size,1,none⟩=some (.slice fa fs.length fc):=aP.out.par.get2.2;clear bH aq al;go_wp2_with fail;clear q1
    go_loopw [30] (fun i wr => ∃ (k : Nat) (v2 : Value), k <= fs.length ∧ i = .int .i64 k ∧ WA.heap.size <= wr.heap.size ∧ afn w wr (.slice ga gs.length gc) (.slice fa fs.length fc) v v2 ∧ Own WA.heap.size wr 50 4 aaZ v2 (fs.take k) ∧
     ab4 (w.heap.size + 3) WA.heap.size wr 68 3 aaE v gs) (fun i _ => fs.length - (intOf i).toNat)
    case atStart=>exact⟨0,_,Aah _,rfl,Aad _,aP.out,Own.nil _ _ _ _ _,au.out.inn⟩
    case round =>
     obtain⟨k,v2,hk,rfl,bB,aq,al,aW⟩:=hrel;have aB:=hid aq;have ai:=hid al;have aQ:=hid aW
     by_cases hkl:k<fs.length
     . obtain⟨b,off,xa,xc,rfl,aw,aK,aI,aJ⟩:=acF (Hf.out.later aak aq.below) hkl
       obtain⟨d0,d1,d2,d3⟩:=aw.get4;have bI:b<wr.heap.size:=aac d0;obtain⟨y,hy⟩:∃y,y=fs[k]:=⟨_,rfl⟩
       rw [<-hy] at d0 d1 d2 d3 aK aI aJ;have Hy:=hid hy;have aY:ajw y:=by rw [hy];exact Sf.out _ (Aaf hkl)
       have bG:=hid aY;have bj:=hid aK;have bf:=hid aI;have bg:=hid aJ;obtain⟨W1,aj⟩:∃W1,W1=wr.alloc (.cells #[.string y.name,.int .i64 y.params,.int .i64 y.regs,.slice xa y.blocks.length xc] 50):=⟨_,rfl⟩
       have kc:aaj W1 wr.heap.size 0 [.string y.name,.int .i64 y.params,.int .i64 y.regs,.slice xa y.blocks.length xc]:=by
        intro j u hj;rw [aj,Aab,World.cell?_alloc_new];simpa using hj
       have aM:W1.heap.size=wr.heap.size+1:=by rw [aj];simp
       have af:Below wr.heap.size wr W1:=by rw [aj];exact bE
       have ae:=hid af;obtain⟨m0,m1,m2,m3⟩:=kc.get4;simp only [Aab] at m1 m2 m3;have g3:W1.cell? ⟨w.heap.size+2,1,none⟩=some v2:=aab (by have h:=aq.out.get2.2;rw [Aab] at h;exact h) af;have f3:W1.frozen? ⟨w.heap.size+2,1,none⟩=false:=(af.frozen (p:=⟨w.heap.size+2,1,none⟩) (by dsimp only;omega)).trans (aq.outFree 1);have a7:w.heap.size+2<W1.heap.size:=by omega
       clear aq al aW aw hy aK aI aJ aY kc af;go_wp2_with fail;clear d0 d1 d2 d3;rw [<-aj];have bP:=hid aj;clear aj
       go_region_law
        (first
          | (refine adC rfl _ _ 23 rfl WA.heap.size 50 b9 _ 4 56 Tryz.underlying23 bY br bt bu rfl (by decide) aak v2 (fs.take k) rfl ?_ ⟨w2.heap.size, 0, none⟩ 1 [.string y.name, .int .i64 y.params, .int .i64 y.regs, .slice ch y.blocks.length cj] y rfl rfl ?_ ?_ ?_ ?_ (by decide) ?_ ?_
             . exact ai.out.later aak (by have h := ae.out; have h2 := aD.out; exact bE2 h2 h)
             . exact abd w2 _ _ rfl
             . intro u hu; simp at hu; rcases hu with rfl | rfl | rfl | rfl <;> rfl
             . exact aak.out _ _ _ _ _ _ (fun _ h => h) (aav.below' bE) ⟨_, rfl, (be.out.toSl aam (by decide)).mono aam (fun b h => ⟨Aag (Aag bB (Aag (Aa3 _) (Nat.le_of_eq aM.symm))) (Aag (Nat.le_add_right _ 2) h.1), Aap h.2 (by simp), fun e => Abg _ (Aap (ai.out.lt b e).2 (Aag (Aag (Aa3 _) (Nat.le_of_eq aM.symm)) (Aag (Nat.le_add_right _ 2) h.1)))⟩) (aav.refl _ _), bf.out, bg.out⟩
             . rw [Aar]; omega
             . simp; omega
             intro v3 w3 ag ad ⟨g9, bl, bD⟩
             have ar : ∀ B, B < wr.heap.size -> some B ≠ v2.ownBlock -> w3.heap[B]? = wr.heap[B]? := fun B h1 h2 => (ad.block B (by simp; omega) h2).trans ((Below.heap_alloc w2 _ _ (by omega)).trans ((aD.out.block _ (by omega)).trans (ae.out.block _ h1)))
             have ax : ∀ B, w.heap.size <= B -> B < WA.heap.size -> w3.heap[B]? = wr.heap[B]? := fun B h1 h2 => ar B (by omega) (fun e => by have := (ai.out.lt B e.symm).1; omega)
             have aE : Below w.heap.size w w3 := by
              refine Below.grown ?_ ad (by simp; omega) (fun g hg => by have := (ai.out.lt g hg).1; omega)
              have h := aB.out.below; have h1 := ae.out; have h2 := aD.out
              exact bE3 h2 h1 h
             have ak := aB.out.keep aE (fun b h1 h2 => ax b h1 (by omega))
             have n4 : w3.cell? ⟨w.heap.size + 2, 1, none⟩ = some v2 := (by have h := ak.out.get2.2; rw [Aab] at h; exact h)
             have bU : w3.frozen? ⟨w.heap.size + 2, 1, none⟩ = false := ak.outFree 1
             have aF := hid (ak.set1 v3)
             have bh : Hid (ab4 (w.heap.size + 3) WA.heap.size (w3.setCell ⟨w.heap.size + 2, 1, none⟩ v3) 68 3 aaE v gs) := aQ.out.kept aan (fun b h1 h2 => (Below.heap_setCell w3 ⟨w.heap.size + 2, 1, none⟩ v3 b (by dsimp only; omega)).trans (ax b (by omega) h2))
             have az : Hid (Own WA.heap.size (w3.setCell ⟨w.heap.size + 2, 1, none⟩ v3) 50 4 aaZ v3 (fs.take (k + 1))) := by
              have e : fs.take (k + 1) = fs.take k ++ [y] := (by rw [Aat hkl, Hy.out])
              show Own _ _ _ _ _ _ _
              rw [e]; exact ag.setLow aak (by dsimp only; omega) _
             have b8 : w2.heap.size <= w3.heap.size := Aag (by simp) ad.size
             have cm : WA.heap.size <= w3.heap.size := by omega
             subst bD
             clear ag ad ar ax aE ak)
          | (go_simp; go_at_call 57; refine (afd (S := S) y.name y.params y.regs xa xc y.blocks W1.drew (bj.out.later aam ae.out.drew) bG.out.blocks bG.out.each).mono ?_; rintro e w2 ⟨bv, rfl, aH, ay⟩; have ao : Below W1.heap.size W1 w2 := (Below.refl W1.heap.size W1).drew.trans ay; have aD := hid ao; have be := hid aH; have n3 := aab g3 ao; have a8 : w.heap.size + 2 < w2.heap.size := aac n3; have ck : W1.heap.size <= w2.heap.size := ao.size; have bm : w2.frozen? ⟨w.heap.size + 2, 1, none⟩ = false := (ao.frozen (p := ⟨w.heap.size + 2, 1, none⟩) a7).trans f3; obtain ⟨ch, cj, rfl⟩ := aH.shape; clear aH ay ao))
       all_goals
        go_wp2_with fail;go_roundw
        case rel=>exact⟨k+1,_,by omega,by go_num,by simp [World.setCell];omega,by have h:=aF.out;(try simp only [Aar,Abr hk] at h);first | exact h | exact h.drew,by have h:=az.out;(try simp only [Aar,Abr hk] at h);first | exact h | exact h.later aak (Below.refl _ _).drew,by have h:=bh.out;(try simp only [Aar,Abr hk] at h);exact h⟩
        case measure=>simp [intOf];omega
     . obtain rfl:k=fs.length:=by omega
       rw [Aay] at ai;obtain⟨go,aV,bW⟩:=aW.shape;obtain⟨fo,aU,bV⟩:=ai.out.shape;subst bW bV;obtain⟨b0,b1⟩:=aq.out.get2;obtain⟨o0,o1⟩:=aq.res.get2;rw [Aab] at b1 o1;have y0:=aq.resFree 0;have y1:=aq.resFree 1;have bF:w.heap.size+2<wr.heap.size:=aac b0;clear aq al aW;go_wp2_with fail;have av:=apX (u0 := .slice go gs.length aV) (u1 := .slice fo fs.length aU) aB.out.res;obtain⟨h0,h1⟩:=av.get2;rw [Aab] at h1;obtain⟨W5,aC⟩:∃W5,W5=((wr.setCell ⟨w.heap.size+1,0,none⟩ (.slice go gs.length aV)).setCell ⟨w.heap.size+1,1,none⟩ (.slice fo fs.length aU)):=⟨_,rfl⟩
       rw [<-aC] at h0 h1 ⊢;have hle:w.heap.size<=w.heap.size+1:=Aa3 _;have aL:w.heap.size+1<WA.heap.size:=by omega
       have aG:Below w.heap.size w W5:=by
        rw [aC];exact (aB.out.below.setCell (p:=⟨w.heap.size+1,0,none⟩) hle _).setCell (p:=⟨w.heap.size+1,1,none⟩) hle _
       have aA:Own WA.heap.size W5 50 4 aaZ (.slice fo fs.length aU) fs:=by
        rw [aC];exact (ai.out.setLow aak (p:=⟨w.heap.size+1,0,none⟩) aL _).setLow aak (p:=⟨w.heap.size+1,1,none⟩) aL _
       have bw:ab4 (w.heap.size+3) WA.heap.size W5 68 3 aaE (.slice go gs.length aV) gs:=by
        refine aQ.out.kept aan (fun b h1 h2=>?_);rw [aC,Below.heap_setCell _ _ _ _ (by dsimp only;omega),Below.heap_setCell _ _ _ _ (by dsimp only;omega)]
       have b5:W5.heap.size=wr.heap.size:=by rw [aC];simp [World.setCell]
       refine bodyPost_ret (v := .agg #[.slice go gs.length aV,.slice fo fs.length aU]) ?_ rfl ⟨_,_,WA.heap.size,rfl,a6,by omega,bw,aA.inn,aG⟩;simp [results,Tryz.results32,go_sem,h0,h1]
end
section
open Go.RowKit
end
section
open Go.RowKit
end
end Go.Proofs.YtnkfdeiigplhoaaGreatDoor
