import Derived.Test.YtgekbfgplclmeaaDoorPBits0
import Derived.Test.YtgekbfgplclmeaaDoorPRepW
/- ssa.checker.write: a register is written, for the first time or not. ssa.checker.writes: all registers that a function writes. -/
set_option maxHeartbeats 4000000
set_option maxRecDepth 100000
namespace Go.Proofs.YtgekbfgplclmeaaDoor
section
open Go.RowKit
theorem ajP (CB RB n cap r : Nat) (b a x y : Int) (w : World) (hc : w.cell? ⟨CB, 5, none⟩ = some (.slice (some ⟨RB, 0, none⟩) n cap)) (c0 : w.cell? ⟨RB, r * 2, none⟩ = some (.int .i64 x)) (c1 : w.cell? ⟨RB, r * 2 + 1, none⟩ = some (.int .i64 y))
 (f0:w.frozen? ⟨RB,r * 2,none⟩=false) (f1:w.frozen? ⟨RB,r * 2+1,none⟩=false) (hr:r<n) (_hn:n<=1048576) :
 Calls Tryd.prog 85 #[.pointer (some ⟨CB,0,none⟩),.int .i64 (r:Int),.int .i64 b,.int .i64 a] w fun e w' =>
  e = .returned (.bool (!decide (0<=x)))∧w'=if 0<=x then w else (w.setCell ⟨RB,r * 2,none⟩ (.int .i64 b)).setCell ⟨RB,r * 2+1,none⟩ (.int .i64 a):=by
 by_cases hx:0<=x
 . have q:decide (0<=x)=true:=decide_eq_true hx
   have Hv:Hid ((!decide (0<=x))=false):=by show _=_;rw [q];rfl
   rw [Hv.out,if_pos hx];go_enter Tryd.func85,Tryd.ntmps85;go_wp2_with fail;go_ret;exact⟨rfl,rfl⟩
 . have q:decide (0<=x)=false:=decide_eq_false hx
   have Hv:Hid ((!decide (0<=x))=true):=by show _=_;rw [q];rfl
   rw [Hv.out,if_neg hx];go_enter Tryd.func85,Tryd.ntmps85;go_wp2_with fail;go_ret;exact⟨rfl,rfl⟩
end
section
open Go.RowKit
def ahK(t:List (Int×Int)):Array Value:=(t.flatMap fun p=>[Value.int .i64 p.1,Value.int .i64 p.2]).toArray
theorem agp : ∀ (t : List (Int × Int)) (i : Nat), (t.flatMap fun p => [Value.int .i64 p.1, Value.int .i64 p.2])[i]? = (t[i / 2]?).map fun p => if i % 2 = 0 then Value.int .i64 p.1 else Value.int .i64 p.2
 | [],i=>by simp
 | p :: t,0=>rfl
 | p :: t,1=>rfl
 | p :: t,i+2=>by
   have h:=agp t i;rw [List.flatMap_cons,show (i+2) / 2=i / 2+1 by omega,Abc,show (i+2) % 2=i % 2 by omega,<-h];rfl
theorem aeo(t:List (Int×Int))(i:Nat):(ahK t)[i]?=(t[i / 2]?).map fun p=>if i % 2=0 then Value.int .i64 p.1 else Value.int .i64 p.2:=by
 unfold ahK;rw [List.getElem?_toArray,agp]
theorem afY {t:List (Int×Int)}{r:Nat}(hr:r<t.length):(ahK t)[r * 2]?=some (.int .i64 t[r].1)∧(ahK t)[r * 2+1]?=some (.int .i64 t[r].2):=by
 rw [aeo,aeo,show r * 2 / 2=r by omega,show (r * 2+1) / 2=r by omega,Aaa hr];refine⟨?_,?_⟩
 . rw [show r * 2 % 2=0 by omega];rfl
 . rw [show (r * 2+1) % 2=1 by omega];rfl
theorem ajp(t:List (Int×Int)):(ahK t).size=t.length * 2:=by
 unfold ahK;rw [List.size_toArray]
 induction t with
 | nil=>rfl
 | cons p t ih=>rw [List.flatMap_cons,Aak,ih,Aaq];simp;omega
theorem aks {t:List (Int×Int)}{r:Nat}(hr:r<t.length)(b a:Int):((ahK t).setIfInBounds (r * 2) (.int .i64 b)).setIfInBounds (r * 2+1) (.int .i64 a)=ahK (t.set r (b,a)):=by
 apply Array.ext_getElem?;intro i;have hz:=ajp t;rw [Abn,Abn,aeo,aeo,Abe]
 by_cases h1:r * 2+1=i
 . subst h1
   rw [if_pos rfl,if_pos (by simp [hz];omega),if_pos (by omega),if_pos hr];rw [show (r * 2+1) % 2=1 by omega];rfl
 . rw [if_neg h1]
   by_cases h2:r * 2=i
   . subst h2
     rw [if_pos rfl,if_pos (by omega),if_pos (by omega),if_pos hr];rw [show r * 2 % 2=0 by omega];rfl
   . rw [if_neg h2,if_neg (by omega)]
theorem akr(n:Nat)(x y:Int):ahK (List.replicate n (x,y))=(pairs n (.int .i64 x) (.int .i64 y)).toArray:=by
 unfold ahK pairs
 congr 1
 induction n with
 | zero=>rfl
 | succ n ih=>rw [List.replicate_succ,List.replicate_succ,List.flatMap_cons,Abb,ih]
structure aec (w W:World)(RB:Nat)(t:List (Int×Int)):Prop where
 grown:w.grownBy W (some RB)
 row:W.heap[RB]?=some (.cells (ahK t) 137 (0,0))
section
variable {w W W' : World} {RB : Nat} {t : List (Int × Int)}
theorem aec.cell(h:aec w W RB t){b o:Nat}{v:Value}(hc:w.cell? ⟨b,o,none⟩=some v)(hb:b≠RB):W.cell? ⟨b,o,none⟩=some v:=h.grown.cell (a:=⟨b,o,none⟩) hc (fun e=>hb (Option.some.inj e))
theorem aec.sl {α:Type}{r:Rp α}(hr:r.Mono){S:Nat->Prop}{sz:Nat}{v:Value}{l:List α}(h:aec w W RB t)(hS:∀b,S b->b≠RB)(hs:SlAt S w sz r v l):SlAt S W sz r v l :=
 hs.mono hr (fun _ h=>h) (adH fun b hb hl=>h.grown.block b hl (fun e=>hS b hb (Option.some.inj e)))
theorem aec.grow(h:aec w W RB t)(hb:Below W.heap.size W W'):aec w W' RB t:=by
 have hR:=(Aan.1 h.row).1;exact⟨h.grown.trans ⟨hb.os,hb.tape,hb.output,hb.size,fun b h1 _=>hb.block b h1⟩,(hb.block RB hR).trans h.row⟩
theorem aec.at0(h:aec w W RB t){r:Nat}(hr:r<t.length):W.cell? ⟨RB,r * 2,none⟩=some (.int .i64 t[r].1):=by rw [aaH h.row];exact (afY hr).1
theorem aec.at1(h:aec w W RB t){r:Nat}(hr:r<t.length):W.cell? ⟨RB,r * 2+1,none⟩=some (.int .i64 t[r].2):=by rw [aaH h.row];exact (afY hr).2
theorem aec.fz(h:aec w W RB t)(o:Nat):W.frozen? ⟨RB,o,none⟩=false:=by simp [World.frozen?,h.row]
theorem aeB(W:World)(b o:Nat)(v:Value):W.grownBy (W.setCell ⟨b,o,none⟩ v) (some b) :=
 ⟨rfl,rfl,rfl,by simp [World.setCell],fun k _ hk=>Below.heap_setCell _ _ _ _ (fun e=>hk (by rw [e]))⟩
end
theorem aeA {t:List (Int×Int)}{r:Nat}(hr:r<t.length):t.getD r (-1,-1)=t[r]:=by rw [Aab,Aaa hr];rfl
theorem af7 {w W:World}{CB RB n cap:Nat}{s:WSt}(h:aec w W RB s.1)(hc:w.cell? ⟨CB,5,none⟩=some (.slice (some ⟨RB,0,none⟩) n cap))(aA:CB≠RB)(hl:s.1.length=n)(hn:n<=1048576){r:Nat}(hr:r<n)(b a:Int) :
 Calls Tryd.prog 85 #[.pointer (some ⟨CB,0,none⟩),.int .i64 (r:Int),.int .i64 b,.int .i64 a] W fun e W' =>
  e = .returned (.bool (!decide (0<=(s.1.getD r (-1,-1)).1)))∧aec w W' RB (wrF s (r:Int) b a).1∧W.grownBy W' (some RB):=by
 have aM:r<s.1.length:=by omega
 refine (ajP CB RB n cap r b a _ _ W (h.cell hc aA) (h.at0 aM) (h.at1 aM) (h.fz _) (h.fz _) hr hn).mono ?_;rintro e W' ⟨rfl,rfl⟩;rw [aeA aM];refine⟨rfl,?_⟩;unfold wrF;rw [Aag,aeA aM]
 by_cases hx:0<=s.1[r].1
 . rw [if_pos hx,if_pos hx]
   exact⟨h,World.grownBy.refl _ _⟩
 . rw [if_neg hx,if_neg hx]
   have hg:=(aeB W RB (r * 2) (.int .i64 b)).trans (aeB _ RB (r * 2+1) (.int .i64 a));exact⟨⟨h.grown.trans hg,by rw [aaK (aaK h.row _) _,aks aM]⟩,hg⟩
theorem alO(s:WSt)(r:Nat)(b a:Int):(wrF s (r:Int) b a).2=((!decide (0<=(s.1.getD r (-1,-1)).1))&&s.2):=by
 unfold wrF;rw [Aag]
 by_cases hx:0<=(s.1.getD r (-1,-1)).1
 . rw [if_pos hx,decide_eq_true hx];rfl
 . rw [if_neg hx,decide_eq_false hx];simp
theorem aiv {S : Nat -> Prop} (CB RB cap : Nat) (ba : Option Addr) (bc : Nat) (f : aal) (w : World) (hf : agQ f) (hS : ∀ b, S b -> b ≠ RB) (hb : SlAt S w 6 aa2 (.slice ba f.blocks.length bc) f.blocks)
 (c1:w.cell? ⟨CB,1,none⟩=some (.int .i64 f.params)) (c3:w.cell? ⟨CB,3,none⟩=some (.slice ba f.blocks.length bc)) (c5:w.cell? ⟨CB,5,none⟩=some (.slice (some ⟨RB,0,none⟩) f.regs.toNat cap)) (aA:CB≠RB)
 (ax:w.heap[RB]?=some (.cells (ahK (List.replicate f.regs.toNat (-1,-1))) 137 (0,0))) :
 Calls Tryd.prog 61 #[.pointer (some ⟨CB,0,none⟩)] w fun e w'=>e = .returned (.bool (aaW f).2)∧aec w w' RB (aaW f).1:=by
 have Hf:=hid hf;have HS:=hid hS;have Hb:=hid hb;have C3:=hid c3;have C5:=hid c5;have zC:CB<w.heap.size:=aac c1;obtain⟨n,hn⟩:∃n,n=f.regs.toNat:=⟨_,rfl⟩
 rw [<-hn] at C5 ax;have bf:=hf.pr;obtain⟨P,hP⟩:=Aao bf.1;have bw:n<=100:=by omega
 have br:P<=n:=by omega
 rw [hP] at c1;have Hn:=hid hn;have HP:=hid hP;have h0:aec w w RB (List.replicate n (-1,-1)):=⟨World.grownBy.refl _ _,ax⟩
 have H0:=hid h0;clear hf hS hb c3 c5 hn bf hP ax h0;go_enter Tryd.func61,Tryd.ntmps61;go_wp2_with fail;go_loopw [3,16] (fun s3 s16 wr=>∃(k:Nat) (s:WSt),k<=P∧s3 = .bool s.2∧s16 = .int .i64 k∧s=adN k (List.replicate n (-1,-1),true)∧aec w wr RB s.1) (fun _ s16 _=>P - (intOf s16).toNat)
 case atStart=>exact⟨0,(List.replicate n (-1,-1),true),Aaf _,rfl,rfl,rfl,H0.out⟩
 case round =>
  obtain⟨k,s,hk,rfl,rfl,hs,ae⟩:=hrel;have an:=hid ae;have ak:s.1.length=n:=by rw [hs,acj,Aar]
  by_cases hkP:k<P
  . have ag:=af7 ae C5.out aA ak (by omega) (r:=k) (by omega) 0 (-1)
    have af:=hid ag;obtain⟨q,hq⟩:∃q,q=(!decide (0<=(s.1.getD k (-1,-1)).1)):=⟨_,rfl⟩
    have aw:Hid ((wrF s (k:Int) 0 (-1)).2=(q&&s.2)):=by show _=_;rw [alO,hq]
    have Hs:Hid (adN (k+1) (List.replicate n (-1,-1),true)=wrF s (k:Int) 0 (-1)):=by show _=_;rw [adN,hs]
    rw [<-hq] at af;obtain⟨s1,s2⟩:=s;clear ae hs ak ag hq;cases q with
    | true =>
      go_wp2_with (first | (go_at_call 85;refine (af.out).mono ?_;rintro e w3 ⟨rfl,ad,-⟩;have ai:=hid ad;clear ad));go_roundw
      case rel=>exact⟨k+1,wrF (s1,s2) (k:Int) 0 (-1),by omega,by rw [aw.out];rfl,by go_num,Hs.out.symm,ai.out⟩
      case measure=>simp [intOf];omega
    | false =>
      go_wp2_with (first | (go_at_call 85;refine (af.out).mono ?_;rintro e w3 ⟨rfl,ad,-⟩;have ai:=hid ad;clear ad));go_roundw
      case rel=>exact⟨k+1,wrF (s1,s2) (k:Int) 0 (-1),by omega,by rw [aw.out];rfl,by go_num,Hs.out.symm,ai.out⟩
      case measure=>simp [intOf];omega
  . have aL:k=P:=by omega
    have Hs:Hid (aaO f.blocks f.blocks.length s=aaW f):=by
     show _=_;unfold aaW;rw [hs,aL,HP.out,Aag,Hn.out]
    have c3:=an.out.cell C3.out aA;have bx:CB<wr.heap.size:=aac c3;have aq:=hid ak;obtain⟨bs,aO⟩:∃bs,bs=f.blocks:=⟨_,rfl⟩
    rw [<-aO] at Hs Hb c3;have bt:bs.length<=40:=by rw [aO];exact Hf.out.len.2
    have bh:=hid aO;obtain⟨S0,aS⟩:∃S0,S0=s:=⟨_,rfl⟩
    rw [<-aS] at Hs;have a1:=hid aS;clear ae hs ak aL aS aO C3;go_wp2_with fail;clear c3;go_loopw [3,32] (fun s3 s32 wr=>∃(i:Nat) (s:WSt),i<=bs.length∧s3 = .bool s.2∧s32 = .int .i64 i∧s=aaO bs i S0∧aec w wr RB s.1∧s.1.length=n) (fun _ s32 _=>bs.length - (intOf s32).toNat)
    case atStart=>exact⟨0,s,Aaf _,rfl,rfl,a1.out.symm,an.out,aq.out⟩
    case round =>
     clear an aq a1;obtain⟨i,s,hi,rfl,rfl,hs,ae,ak⟩:=hrel;have an:=hid ae;have aq:=hid ak
     by_cases hib:i<bs.length
     . obtain⟨xb,bp,cs,rfl,aB,hx,-,av⟩:=Hb.out.get hib
       obtain⟨pa,pc,la,lc,ta,tc,rfl,aV,aU,-,bo,bm,-,-,-⟩:=hx.opens;obtain⟨d0,d1,d2,d3,d4,d5⟩:=av.get6;have d0:=ae.cell d0 (HS.out _ aB);have d1:=ae.cell d1 (HS.out _ aB);have d2:=ae.cell d2 (HS.out _ aB);have d3:=ae.cell d3 (HS.out _ aB);have d4:=ae.cell d4 (HS.out _ aB);have d5:=ae.cell d5 (HS.out _ aB);have zx:xb<wr.heap.size:=aac d0;obtain⟨x,aP⟩:∃x,x=bs[i]:=⟨_,rfl⟩
       rw [<-aP] at aV aU bo bm d0 d1 d2 d3 d4 d5;have bk:=hid aV;have bj:=hid aU;have bg:f.blocks[i]?=some x:=by rw [<-bh.out,aP,Aaa hib]
       have a8:=hid bg;have Hs:Hid (aaO bs (i+1) S0=aa4 i x.list x.list.length (abh i x.phis x.phis.length s)):=by
        show _=_;rw [aaO,<-hs,Aab,Aaa hib,<-aP];rfl
       have aY:aec w (wr.alloc (.cells #[.slice pa x.phis.length pc,.slice la x.list.length lc,.int .i64 x.fin.kind,.bool x.fin.on.reg,.int .i64 x.fin.on.n,.slice ta x.fin.to.length tc] 48)) RB s.1:=ae.grow bE;clear ae hs ak av hx aV aU aP bg;go_wp2_with fail;clear d0 d1 d2 d3 d4 d5;obtain⟨W1,aT⟩:∃W1,W1=wr.alloc (.cells #[.slice pa x.phis.length pc,.slice la x.list.length lc,.int .i64 x.fin.kind,.bool x.fin.on.reg,.int .i64 x.fin.on.n,.slice ta x.fin.to.length tc] 48):=⟨_,rfl⟩
       rw [<-aT] at aY ⊢;have e1:W1.cell? ⟨wr.heap.size,1,none⟩=some (.slice la x.list.length lc):=by rw [aT];simp
       have bd:wr.heap.size≠RB:=fun e=>by
        have:=(Aan.1 an.out.row).1;omega
       obtain⟨BX,be⟩:∃BX,BX=wr.heap.size:=⟨_,rfl⟩
       rw [<-be] at e1 bd ⊢;have E1:=hid e1;have a7:=hid aY;obtain⟨s0,aX⟩:∃s0,s0=s:=⟨_,rfl⟩
       rw [<-aX] at Hs;have a6:=hid aX;clear aT e1 aY aX be;go_loopw [3,40] (fun s3 s40 wi=>∃(j:Nat) (s':WSt),j<=x.phis.length∧s3 = .bool s'.2∧s40 = .int .i64 j∧s'=abh i x.phis j s0∧aec w wi RB s'.1∧s'.1.length=n∧W1.grownBy wi (some RB)) (fun _ s40 _=>x.phis.length - (intOf s40).toNat)
       case atStart=>exact⟨0,s,Aaf _,rfl,rfl,a6.out.symm,a7.out,aq.out,World.grownBy.refl _ _⟩
       case round =>
        clear an aq a7 a6;obtain⟨j,s,hj,rfl,rfl,hs,ae,ak,aG⟩:=hrel;have an:=hid ae;have aq:=hid ak;have bq:=hid aG
        by_cases hjp:j<x.phis.length
        . obtain⟨pb,aZ,cs,rfl,ar,hp,-,av⟩:=bk.out.get hjp
          obtain⟨fa,fc,rfl,-,-,-⟩:=hp.opens;obtain⟨d0,d1⟩:=av.get2;have d0:=ae.cell d0 (HS.out _ ar);have d1:=ae.cell d1 (HS.out _ ar);have zp:pb<wr.heap.size:=aac d0;obtain⟨y,hy⟩:∃y,y=x.phis[j]:=⟨_,rfl⟩
          rw [<-hy] at d0 d1;have aN:=(Hf.out.phi i x a8.out y (by rw [hy];exact Aai _)).1;obtain⟨q,hq⟩:=Aao aN.1;rw [hq] at d0;have aW:q<n:=by rw [Hn.out];omega
          have al:aec w (wr.alloc (.cells #[.int .i64 (q:Int),.slice fa y.src.length fc] 93)) RB s.1:=ae.grow bE;have aH:W1.grownBy (wr.alloc (.cells #[.int .i64 (q:Int),.slice fa y.src.length fc] 93)) (some RB):=aG.trans (World.grownBy_alloc _ _ _);have aC:=hid aH;have ag:=af7 al C5.out aA ak (by omega) aW (i:Int) (-1);have af:=hid ag;obtain⟨o,ho⟩:∃o,o=(!decide (0<=(s.1.getD q (-1,-1)).1)):=⟨_,rfl⟩
          have aw:Hid ((wrF s (q:Int) i (-1)).2=(o&&s.2)):=by show _=_;rw [alO,ho]
          have au:Hid (abh i x.phis (j+1) s0=wrF s (q:Int) i (-1)):=by
           show _=_;rw [abh,<-hs,Aab,Aaa hjp,<-hy,<-hq];rfl
          have aD:Hid ((wrF s (q:Int) i (-1)).1.length=n):=by show _=_;rw [ad1,ak]
          rw [<-ho] at af;obtain⟨s1,s2⟩:=s;clear ae hs ak aG ag ho al aH hq hy aN av hp;cases o with
          | true =>
            go_wp2_with (first | (go_at_call 85;refine (af.out).mono ?_;rintro e w3 ⟨rfl,ad,aj⟩;have ai:=hid ad;have ao:=hid aj;clear ad aj));go_roundw
            case rel=>exact⟨j+1,wrF (s1,s2) (q:Int) i (-1),by omega,by rw [aw.out];rfl,by go_num,au.out.symm,ai.out,aD.out,aC.out.trans ao.out⟩
            case measure=>simp [intOf];omega
          | false =>
            go_wp2_with (first | (go_at_call 85;refine (af.out).mono ?_;rintro e w3 ⟨rfl,ad,aj⟩;have ai:=hid ad;have ao:=hid aj;clear ad aj));go_roundw
            case rel=>exact⟨j+1,wrF (s1,s2) (q:Int) i (-1),by omega,by rw [aw.out];rfl,by go_num,au.out.symm,ai.out,aD.out,aC.out.trans ao.out⟩
            case measure=>simp [intOf];omega
        . have aK:j=x.phis.length:=by omega
          have e1:=aG.cell (a:=⟨BX,1,none⟩) E1.out (fun e=>bd (Option.some.inj e));have zB:BX<wr.heap.size:=aac e1;have au:Hid (aaO bs (i+1) S0=aa4 i x.list x.list.length s):=by show _=_;rw [Hs.out,hs,aK]
          obtain⟨aQ,ay⟩:∃aQ,aQ=s:=⟨_,rfl⟩
          rw [<-ay] at au;have aE:=hid ay;clear ae hs ak aG aK ay;go_wp2_with fail;clear e1;go_loopw [3,56] (fun s3 s56 wi=>∃(j:Nat) (s':WSt),j<=x.list.length∧s3 = .bool s'.2∧s56 = .int .i64 j∧s'=aa4 i x.list j aQ∧aec w wi RB s'.1∧s'.1.length=n) (fun _ s56 _=>x.list.length - (intOf s56).toNat)
          case atStart=>exact⟨0,s,Aaf _,rfl,rfl,aE.out.symm,an.out,aq.out⟩
          case round =>
           clear an aq aE;obtain⟨j',s,bu,rfl,rfl,hs,ae,ak⟩:=hrel;have an:=hid ae;have aq:=hid ak
           by_cases hjl:j'<x.list.length
           . obtain⟨pb,aZ,cs,rfl,ar,hp,-,av⟩:=bj.out.get hjl
             obtain⟨fa,fc,rfl,-,-,-⟩:=hp.opens;obtain⟨d0,d1,d2,d3,d4,d5,d6,d7⟩:=av.get8;have d0:=ae.cell d0 (HS.out _ ar);have d1:=ae.cell d1 (HS.out _ ar);have d2:=ae.cell d2 (HS.out _ ar);have d3:=ae.cell d3 (HS.out _ ar);have d4:=ae.cell d4 (HS.out _ ar);have d5:=ae.cell d5 (HS.out _ ar);have d6:=ae.cell d6 (HS.out _ ar);have d7:=ae.cell d7 (HS.out _ ar);have zp:pb<wr.heap.size:=aac d0;obtain⟨y,hy⟩:∃y,y=x.list[j']:=⟨_,rfl⟩
             rw [<-hy] at d0 d1 d2 d3 d4 d5 d6 d7;have aN:=(Hf.out.ins i x a8.out y (by rw [hy];exact Aai _)).dst;obtain⟨W2,aF⟩:∃W2,W2=wr.alloc (.cells #[.int .i64 y.op,.int .i64 y.dst,.bool y.a.reg,.int .i64 y.a.n,.bool y.b.reg,.int .i64 y.b.n,.int .i64 y.fn,.slice fa y.args.length fc] 63):=⟨_,rfl⟩
             have al:aec w W2 RB s.1:=by rw [aF];exact ae.grow bE
             have bl:=hid al;have au:Hid (aa4 i x.list (j'+1) aQ=adM i j' y s):=by
              show _=_;rw [aa4,<-hs,Aab,Aaa hjl,<-hy];rfl
             by_cases hd0:y.dst<0
             . have q1:decide (y.dst<0)=true:=decide_eq_true hd0
               have az:Hid (adM i j' y s=s):=by show _=_;unfold adM;rw [if_pos hd0]
               have ad:=al;rw [aF] at ad;have ai:=hid ad;obtain⟨s1,s2⟩:=s;clear ae hs ak al ad hy av hp aF aN;go_wp2_with fail;go_roundw
               case rel=>exact⟨j'+1,(s1,s2),by omega,rfl,by go_num,(au.out.trans az.out).symm,ai.out,aq.out⟩
               case measure=>simp [intOf];omega
             . have q1:decide (y.dst<0)=false:=decide_eq_false hd0
               obtain⟨q,hq⟩:=Aao (by omega:0<=y.dst);have aW:q<n:=by rw [Hn.out];omega
               have ag:=af7 al C5.out aA ak (by omega) aW (i:Int) (j':Int);rw [aF,hq] at ag;have af:=hid ag;obtain⟨o,ho⟩:∃o,o=(!decide (0<=(s.1.getD q (-1,-1)).1)):=⟨_,rfl⟩
               have aw:Hid ((wrF s (q:Int) i j').2=(o&&s.2)):=by show _=_;rw [alO,ho]
               have az:Hid (adM i j' y s=wrF s (q:Int) i j'):=by show _=_;unfold adM;rw [if_neg hd0,hq]
               have aD:Hid ((wrF s (q:Int) i j').1.length=n):=by show _=_;rw [ad1,ak]
               rw [<-ho] at af;rw [hq] at d1 q1;obtain⟨s1,s2⟩:=s;clear ae hs ak ag ho al hq hy aN av hp aF hd0;cases o with
               | true =>
                 go_wp2_with (first | (go_at_call 85;refine (af.out).mono ?_;rintro e w3 ⟨rfl,ad,aj⟩;have ai:=hid ad;have ao:=hid aj;clear ad aj));go_roundw
                 case rel=>exact⟨j'+1,wrF (s1,s2) (q:Int) i j',by omega,by rw [aw.out];rfl,by go_num,(au.out.trans az.out).symm,ai.out,aD.out⟩
                 case measure=>simp [intOf];omega
               | false =>
                 go_wp2_with (first | (go_at_call 85;refine (af.out).mono ?_;rintro e w3 ⟨rfl,ad,aj⟩;have ai:=hid ad;have ao:=hid aj;clear ad aj));go_roundw
                 case rel=>exact⟨j'+1,wrF (s1,s2) (q:Int) i j',by omega,by rw [aw.out];rfl,by go_num,(au.out.trans az.out).symm,ai.out,aD.out⟩
                 case measure=>simp [intOf];omega
           . have aJ:j'=x.list.length:=by omega
             have az:Hid (aaO bs (i+1) S0=s):=by show _=_;rw [au.out,hs,aJ]
             clear ae hs ak aJ;go_wp2_with fail;go_roundw
             case rel=>exact⟨i+1,s,by omega,rfl,by go_num,az.out.symm,an.out,aq.out⟩
             case measure=>simp [intOf];omega
     . have aI:i=bs.length:=by omega
       have aR:Hid (aaW f=s):=by show _=_;rw [<-Hs.out,hs,aI]
       clear ae hs ak aI;go_wp2_with fail;go_ret;rw [aR.out];exact⟨rfl,an.out⟩
end
end Go.Proofs.YtgekbfgplclmeaaDoor
