import Derived.Test.YtpeejlpcikefcaaGreatDoorPMem2
/- slices.IndexFunc and slices.DeleteFunc of mem.word, with mem.known's closures. mem: apart, the closures, pure.May. slices.Index and slices.Contains of values. -/
set_option maxHeartbeats 4000000
set_option maxRecDepth 100000
namespace Go.Proofs.YtpeejlpcikefcaaGreatDoor
section
open Go.RowKit
theorem art {l:List Value}(h:l.length=4):∃a0 a1 a2 a3,l=[a0,a1,a2,a3]:=by
 match l,h with
 | [a0,a1,a2,a3],_=>exact⟨a0,a1,a2,a3,rfl⟩
def aua(P:List Value->Bool)(c1:Value)(E:List (List Value))(w:World):Prop :=
 ∀a0 a1 a2 a3,[a0,a1,a2,a3]∈E->Calls Tryz.prog 36 #[.agg #[a0,a1,a2,a3],c1] w fun e w'=>e = .returned (.bool (P [a0,a1,a2,a3]))∧Below w.heap.size w w'
def aud(P:List Value->Bool)(c1:Value)(E:List (List Value))(w:World):Prop :=
 ∀a0 a1 a2 a3,[a0,a1,a2,a3]∈E->Calls Tryz.prog 38 #[.agg #[a0,a1,a2,a3],c1] w fun e w'=>e = .returned (.bool (P [a0,a1,a2,a3]))∧Below w.heap.size w w'
theorem aiC(base:Nat)(a:Option Addr)(n c:Nat)(E:List (List Value))(w:World)(hr:ac7 w base 74 4 (.slice a n c) E)(hE:E.length=n)(hn:n<=1048576)(P:List Value->Bool)(c1:Value)(HC:∀w',Below w.heap.size w w'->aua P c1 E w') :
 Calls Tryz.prog 35 #[.slice a n c,.func (.func 36) #[] #[c1]] w fun e w'=>e = .returned (.int .i64 (aj5 E P))∧Below w.heap.size w w':=by
 have Hr:=hid hr;have HC:=hid HC;have HE:=hid hE;clear hr hE;go_enter Tryz.func35,Tryz.ntmps35;go_wp2_with fail;go_loopw [8] (fun s8 wr=>∃k:Nat,k<=n∧s8 = .int .i64 (k:Int)∧(∀(j:Nat) x,j<k->E[j]?=some x->P x=false)∧Below w.heap.size w wr) (fun s8 _=>n - (intOf s8).toNat)
 case atStart=>exact⟨0,Aaj _,rfl,fun j x hj=>by omega,Below.refl _ _⟩
 case round =>
  obtain⟨k,hk,rfl,ag,hb⟩:=hrel;have ae:=hid ag;have Hb:=hid hb;clear ag hb
  by_cases aC:k<n
  . have al:k<E.length:=by rw [HE.out];exact aC
    obtain⟨cs,ai⟩:∃cs,E[k]?=some cs:=⟨_,Aaa al⟩
    have af:=Aae ai;obtain⟨a0,a1,a2,a3,rfl⟩:=art (Hr.out.wid cs af);obtain⟨g,c',hv,-,-,-,ax,-⟩:=(Hr.out.off (Kp.of Hb.out)).at ai (by decide);have ha:a=some ⟨g,0,none⟩:=by injection hv
    subst ha;obtain⟨d0,d1,d2,d3⟩:=ax.get4;have zg:=aac d0;have ad:=hid (HC.out wr Hb.out a0 a1 a2 a3 af);have av:=hid ai;clear al ai af hv ax
    by_cases hP:P [a0,a1,a2,a3]=true
    . have hi:aj5 E P=(k:Int):=by
       unfold aj5;rw [ad3 av.out hP fun j hj x hx=>ae.out j x hj hx]
      have Hi:=hid hi;have HP:=hid hP;clear hi hP;go_wp2_with (go_at_call 36;refine ad.out.mono ?_;rintro e w2 ⟨rfl,ah⟩;rw [HP.out]);go_ret;exact⟨aaK Hi.out.symm,Hb.out.trans (ah.mono Hb.out.size)⟩
    . have ao:P [a0,a1,a2,a3]=false:=by simpa using hP
      have HP:=hid ao;clear hP ao;go_wp2_with (go_at_call 36;refine ad.out.mono ?_;rintro e w2 ⟨rfl,ah⟩;rw [HP.out]);go_roundw
      case rel =>
       refine⟨k+1,by omega,by go_num,fun j x hj hx=>?_,Hb.out.trans (ah.mono Hb.out.size)⟩;rcases Abk.1 hj with h | h
       . exact ae.out j x h hx
       . subst h;rw [av.out] at hx;cases hx;exact HP.out
      case measure=>simp [intOf];omega
  . have hi:aj5 E P = -1:=by
     unfold aj5;rw [ad2 fun j x hx=>ae.out j x (by have h1:=(Aad.1 hx).1;have:=HE.out;omega) hx]
    have Hi:=hid hi;clear hi;go_wp2_with fail;go_ret;exact⟨aaK Hi.out.symm,Hb.out⟩
theorem aiD(base:Nat)(a:Option Addr)(n c:Nat)(E:List (List Value))(w:World)(hr:ac7 w base 74 4 (.slice a n c) E)(hE:E.length=n)(hn:n<=1048576)(P:List Value->Bool)(c1:Value)(HC:∀w',Below w.heap.size w w'->aud P c1 E w') :
 Calls Tryz.prog 35 #[.slice a n c,.func (.func 38) #[] #[c1]] w fun e w'=>e = .returned (.int .i64 (aj5 E P))∧Below w.heap.size w w':=by
 have Hr:=hid hr;have HC:=hid HC;have HE:=hid hE;clear hr hE;go_enter Tryz.func35,Tryz.ntmps35;go_wp2_with fail;go_loopw [8] (fun s8 wr=>∃k:Nat,k<=n∧s8 = .int .i64 (k:Int)∧(∀(j:Nat) x,j<k->E[j]?=some x->P x=false)∧Below w.heap.size w wr) (fun s8 _=>n - (intOf s8).toNat)
 case atStart=>exact⟨0,Aaj _,rfl,fun j x hj=>by omega,Below.refl _ _⟩
 case round =>
  obtain⟨k,hk,rfl,ag,hb⟩:=hrel;have ae:=hid ag;have Hb:=hid hb;clear ag hb
  by_cases aC:k<n
  . have al:k<E.length:=by rw [HE.out];exact aC
    obtain⟨cs,ai⟩:∃cs,E[k]?=some cs:=⟨_,Aaa al⟩
    have af:=Aae ai;obtain⟨a0,a1,a2,a3,rfl⟩:=art (Hr.out.wid cs af);obtain⟨g,c',hv,-,-,-,ax,-⟩:=(Hr.out.off (Kp.of Hb.out)).at ai (by decide);have ha:a=some ⟨g,0,none⟩:=by injection hv
    subst ha;obtain⟨d0,d1,d2,d3⟩:=ax.get4;have zg:=aac d0;have ad:=hid (HC.out wr Hb.out a0 a1 a2 a3 af);have av:=hid ai;clear al ai af hv ax
    by_cases hP:P [a0,a1,a2,a3]=true
    . have hi:aj5 E P=(k:Int):=by
       unfold aj5;rw [ad3 av.out hP fun j hj x hx=>ae.out j x hj hx]
      have Hi:=hid hi;have HP:=hid hP;clear hi hP;go_wp2_with (go_at_call 38;refine ad.out.mono ?_;rintro e w2 ⟨rfl,ah⟩;rw [HP.out]);go_ret;exact⟨aaK Hi.out.symm,Hb.out.trans (ah.mono Hb.out.size)⟩
    . have ao:P [a0,a1,a2,a3]=false:=by simpa using hP
      have HP:=hid ao;clear hP ao;go_wp2_with (go_at_call 38;refine ad.out.mono ?_;rintro e w2 ⟨rfl,ah⟩;rw [HP.out]);go_roundw
      case rel =>
       refine⟨k+1,by omega,by go_num,fun j x hj hx=>?_,Hb.out.trans (ah.mono Hb.out.size)⟩;rcases Abk.1 hj with h | h
       . exact ae.out j x h hx
       . subst h;rw [av.out] at hx;cases hx;exact HP.out
      case measure=>simp [intOf];omega
  . have hi:aj5 E P = -1:=by
     unfold aj5;rw [ad2 fun j x hx=>ae.out j x (by have h1:=(Aad.1 hx).1;have:=HE.out;omega) hx]
    have Hi:=hid hi;clear hi;go_wp2_with fail;go_ret;exact⟨aaK Hi.out.symm,Hb.out⟩
theorem ac7.set4w {W:World}{base:Nat}{e:TypeId}{v:Value}{xss:List (List Value)}(h:ac7 W base e 4 v xss){g n c i:Nat}(hv:v = .slice (some ⟨g,0,none⟩) n c)(hi:i<xss.length)(u0 u1 u2 u3:Value) :
 ac7 ((((W.setCell ⟨g,i * 4,none⟩ u0).setCell ⟨g,i * 4+1,none⟩ u1).setCell ⟨g,i * 4+2,none⟩ u2).setCell ⟨g,i * 4+3,none⟩ u3) base e 4 v (xss.set i [u0,u1,u2,u3]):=by
 have hx:=Aaa hi;obtain⟨a0,a1,a2,a3,hh⟩:=art (h.wid _ (Aae hx));rw [hh] at hx;have s:∀cs:List Value,(xss.set i cs)[i]?=some cs:=fun cs=>Aa6 hi;have r0:=h.set (j:=0) hv hx (by decide) u0;have r1:=r0.set (j:=1) hv (s _) (by decide) u1;rw [Aaz] at r1;have r2:=r1.set (j:=2) hv (s _) (by decide) u2;rw [Aaz] at r2;have r3:=r2.set (j:=3) hv (s _) (by decide) u3;rw [Aaz] at r3;exact r3
theorem anV {W:World}{base n c i g:Nat}{xss:List (List Value)}(h:ac7 W base 74 4 (.slice (some ⟨g,0,none⟩) n c) xss)(hn:xss.length=n)(hi:i<=n) :
 ∃c2:Array Value,(∀ty cc,(Builtin.clear_ #[71] ty #[.slice (some ⟨g,i * 4,none⟩) (n - i) cc]).run Tryz.prog W = .ok (.tuple #[]) (W.setRow g c2))∧(W.setRow g c2).ownsRow base 74 4 (.slice (some ⟨g,0,none⟩) i c) i (xss.take i).flatten:=by
 subst hn;rcases h.own.2 with⟨e,-⟩ | ⟨g',cap,cur,e,h3,h4,h5,h6,h7,h8⟩
 . cases e
 . cases e
   have hr:adM W g 74 cur.toList:=by unfold adM;simpa using h4
   have aY:cur.toList.length=c * 4:=by simpa using h7
   have key:∀ty cc,_:=fun ty cc =>
    aiu (Q := Tryz.prog) (w := W) 71 74 ty (.agg #[.bool false, .int .i64 0, .bool false, .int .i64 0]) [.bool false, .int .i64 0, .bool false, .int .i64 0] Tryz.underlying71 Tryz.zeroValue74 rfl (fun u hu => by
     simp only [Aam, Aao, or_false] at hu
     rcases hu with rfl | rfl | rfl | rfl <;> rfl) (by decide) g (i * 4) cc (xss.length - i) hr (by rw [aY]; show i * 4 + (xss.length - i) * 4 <= c * 4; omega)
   have hz:=(key 0 0).1;have aQ:(Builtin.zeroCells [Value.bool false,.int .i64 0,.bool false,.int .i64 0].toArray (xss.length - i)).toList.length=(xss.length - i) * 4:=hz;refine⟨_,fun ty cc=>(key ty cc).2,?_⟩;have aM:(xss.take i).flatten.length=i * 4:=by
    rw [abl (sz:=4) (xss.take i) (fun j cs hj=>h.wid cs (List.mem_of_mem_take (Aae hj))),Aar,Abt hi]
   refine⟨aM,.inr ⟨g,c,_,rfl,h3,setRow_heap W g _ _ _ _ h4,by omega,h6,?_,?_⟩⟩
   . simp only [Abn,abb,Aau,Aar,List.length_drop,aQ,aY]
     omega
   . rw [abb]
     have bD:cur.toList.take (xss.length * 4)=(xss.take i).flatten++(xss.drop i).flatten:=by
      rw [h8,<-Abs,List.take_append_drop]
     have bw:cur.toList.take (i * 4)=(xss.take i).flatten:=by
      have h9:=congrArg (List.take (i * 4)) bD;rw [List.take_take,Abt (show i * 4<=xss.length * 4 by omega),Acm (Nat.le_of_eq aM.symm),<-aM,Aa1] at h9;rw [<-aM];exact h9
     simp only [Abo];rw [Acm (by rw [Aar,aY];omega),List.take_take,Nat.min_self];exact bw
def atO(cs:List Value):Prop:=∃(ar:Bool) (an:Int) (br:Bool) (bn:Int),cs=[.bool ar,.int .i64 an,.bool br,.int .i64 bn]
theorem acN(base:Nat)(a:Option Addr)(n c:Nat)(E:List (List Value))(w:World)(hr:ac7 w base 74 4 (.slice a n c) E)(hE:E.length=n)(hn:n<=1048576)(hS:∀cs∈E,atO cs)(P:List Value->Bool)(c1:Value)(HC:∀w',Kp (fun b=>(Value.slice a n c).ownBlock≠some b) w w'->aud P c1 E w') :
 Calls Tryz.prog 37 #[.slice a n c,.func (.func 38) #[] #[c1]] w fun e w'=>∃m,m=(afF P E).length∧e = .returned (.slice a m c) ∧
  ac7 w' base 74 4 (.slice a m c) (afF P E)∧Kp (fun b=>(Value.slice a n c).ownBlock≠some b) w w':=by
 have aU:=aiD base a n c E w hr hE hn P c1 (fun w' h=>HC w' (Kp.of h));have Hr:=hid hr;have HC:=hid HC;have HE:=hid hE;have HS:=hid hS;obtain⟨ix,aA⟩:∃ix,ix=aj5 E P:=⟨_,rfl⟩
 rw [<-aA] at aU;have bp:=hid aU;have aF:=hid aA;clear hr hE hS aU aA;go_enter Tryz.func37,Tryz.ntmps37;cases hf:E.findIdx? P with
 | none =>
   have hi:ix = -1:=by rw [aF.out];unfold aj5;rw [hf]
   subst hi;have aw:afF P E=E:=by
    unfold afF;rw [List.findIdx?_eq_none_iff] at hf;exact List.filter_eq_self.2 fun x hx=>by rw [hf x hx];rfl
   have aq:=hid aw;clear hf aw;go_wp2_with (go_at_call 35;refine bp.out.mono ?_;rintro e w2 ⟨rfl,ah⟩;have aB:=hid ah;clear ah);go_ret;refine⟨n,?_,rfl,?_,Kp.of aB.out⟩
   . rw [aq.out];exact HE.out.symm
   . rw [aq.out];exact Hr.out.off (Kp.of aB.out)
 | some k =>
   have hi:ix=(k:Int):=by rw [aF.out];unfold aj5;rw [hf]
   subst hi;have aJ:=afG.start hf;have aC:k<n:=by
    rw [Aco] at hf;rw [<-HE.out];exact hf.1
   have bd:=hid aJ;obtain⟨g,hg⟩:∃g,a=some ⟨g,0,none⟩:=by
    obtain⟨g,c',hv,-⟩:=Hr.out.at (i:=0) (Aaa (by rw [HE.out];omega)) (by decide)
    exact⟨g,by injection hv⟩
   subst hg;have bK:n<=c:=by
    rcases Hr.out.own.2 with⟨e,-⟩ | ⟨g',cap,cur,e,-,-,h5,-⟩
    . cases e
    . cases e;rw [HE.out] at h5;exact h5
   have bL:c<=9223372036854775807:=by
    rcases Hr.out.own.2 with⟨e,-⟩ | ⟨g',cap,cur,e,-,-,-,h6,-⟩
    . cases e
    . cases e;unfold maxLen at h6;omega
   clear hf aJ;go_wp2_with (go_at_call 35;refine bp.out.mono ?_;rintro e w2 ⟨rfl,ah⟩;have aB:=hid ah;clear ah);go_loopw [5,6] (fun s5 s6 wr=>∃(i j:Nat) (xss:List (List Value)),s5 = .int .i64 (i:Int)∧s6 = .int .i64 (j:Int)∧j<=n∧i<j∧afG E xss P i j∧ac7 wr base 74 4 (.slice (some ⟨g,0,none⟩) n c) xss∧Kp (fun b=>(Value.slice (some ⟨g,0,none⟩) n c).ownBlock≠some b) w wr) (fun _ s6 _=>n - (intOf s6).toNat)
   case atStart=>exact⟨k,k+1,E,rfl,by go_num,by omega,by omega,bd.out,Hr.out.off (Kp.of aB.out),Kp.of aB.out⟩
   case round =>
    obtain⟨wo,bC⟩:∃wo:World,wo=wr:=⟨_,rfl⟩
    subst bC;obtain⟨i,j,xss,rfl,rfl,bI,bJ,bk,aH,bl⟩:=hrel;have az:=hid bk;have aj:=hid aH;have aN:=hid bl;clear bk aH bl
    by_cases hjl:j<n
    . have aO:j<E.length:=by rw [HE.out];exact hjl
      obtain⟨cs,ai⟩:∃cs,E[j]?=some cs:=⟨_,Aaa aO⟩
      have af:=Aae ai;obtain⟨v0,v1,v2,v3,rfl⟩:=HS.out cs af;have bj:xss[j]?=some [.bool v0,.int .i64 v1,.bool v2,.int .i64 v3]:=(az.out.at aO).trans ai;obtain⟨g',c',hv,-,-,-,ax,-⟩:=aj.out.at bj (by decide);have bz:g=g':=by injection hv with e1;injection e1 with e2;injection e2
      subst bz;obtain⟨d0,d1,d2,d3⟩:=ax.get4;have zg:=aac d0;have av:=hid ai;have be:=hid af;have bg:=hid aO;clear aO ai af bj hv ax;go_upto_region 8 with (fail)
      obtain⟨BB,aV⟩:∃BB,BB=wo.heap.size:=⟨_,rfl⟩
      obtain⟨W4,aP⟩:∃W4,W4=wo.alloc (.cells #[.bool v0,.int .i64 v1,.bool v2,.int .i64 v3] 74):=⟨_,rfl⟩
      have bf:W4.heap[BB]?=some (.cells #[.bool v0,.int .i64 v1,.bool v2,.int .i64 v3] 74 (0,0)):=by rw [aP,aV];exact heap_alloc_new _ _
      have aW:Below wo.heap.size wo W4:=by rw [aP];exact bE
      rw [<-aP,<-aV];obtain⟨b0,b1,b2,b3⟩:=(aad (cs:=[_,_,_,_]) bf).get4;rw [Aab] at b1 b2 b3;have zB:=aac b0;have aD:=hid aW;have ad:=hid (HC.out W4 (aN.out.trans (Kp.of aW)) (.bool v0) (.int .i64 v1) (.bool v2) (.int .i64 v3) be.out);clear aV aP bf aW d0 d1 d2 d3 zg
      by_cases hP:P [.bool v0,.int .i64 v1,.bool v2,.int .i64 v3]=true
      . have HP:=hid hP
        clear hP;go_wp2_with (go_at_call 38;refine ad.out.mono ?_;rintro e w5 ⟨rfl,ak⟩;rw [HP.out];have aI:=hid ak;clear ak);go_roundw
        case rel=>exact⟨i,j+1,xss,rfl,by go_num,by omega,by omega,az.out.skip bg.out av.out HP.out,(aj.out.off (Kp.of aD.out)).off (Kp.of aI.out),(aN.out.trans (Kp.of aD.out)).trans (Kp.of aI.out)⟩
        case measure=>simp [intOf];omega
      . have ao:P [.bool v0,.int .i64 v1,.bool v2,.int .i64 v3]=false:=by simpa using hP
        have HP:=hid ao;clear hP ao;have aL:i<xss.length:=by rw [az.out.len,HE.out];omega
        obtain⟨g2,bM,bq,-,-,-,ay,aQ⟩:=aj.out.at (Aaa aL) (by decide)
        have bu:g=g2:=by injection bq with e1;injection e1 with e2;injection e2
        subst bu;obtain⟨x0,x1,x2,x3,bh⟩:=art (aj.out.wid _ (Aaq aL));rw [bh] at ay;obtain⟨q0,q1,q2,q3⟩:=ay.get4;have zg:=aac q0;have bA:=hid aQ;have bH:=hid aL;have HQ:Hid (∀V,Below wo.heap.size wo V->(V.cell? ⟨g,i * 4,none⟩=some x0∧V.cell? ⟨g,i * 4+1,none⟩=some x1∧V.cell? ⟨g,i * 4+2,none⟩=some x2∧V.cell? ⟨g,i * 4+3,none⟩=some x3)∧∀o,V.frozen? ⟨g,o,none⟩=false):=fun V hV =>
         ⟨⟨aab q0 hV,aab q1 hV,aab q2 hV,aab q3 hV⟩,fun o=>(hV.frozen (p:=⟨g,o,none⟩) zg).trans (bA.out o)⟩
        clear aL bq ay aQ bh q0 q1 q2 q3 zg
        go_wp2_with (go_at_call 38; refine ad.out.mono ?_; rintro e w5 ⟨rfl, ak⟩; rw [HP.out]; have aI := hid ak
                     have b0 := aab b0 ak; have b1 := aab b1 ak; have b2 := aab b2 ak; have b3 := aab b3 ak
                     have zB := aac b0
                     obtain ⟨⟨q0, q1, q2, q3⟩, hz⟩ := HQ.out w5 (aD.out.trans (ak.mono aD.out.size))
                     have z0 := hz (i * 4); have z1 := hz (i * 4 + 1); have z2 := hz (i * 4 + 2); have z3 := hz (i * 4 + 3)
                     have zg := aac q0
                     clear ak hz)
        go_roundw
        case rel =>
         have r5:=(aj.out.off (Kp.of aD.out)).off (Kp.of aI.out);have r9:=r5.set4w rfl bH.out (.bool v0) (.int .i64 v1) (.bool v2) (.int .i64 v3);exact⟨i+1,j+1,_,by go_num,by go_num,by omega,by omega,az.out.keep bg.out av.out HP.out,r9,((aN.out.trans (Kp.of aD.out)).trans (Kp.of aI.out)).trans ((aaD (aaD (aaD (aaQ _ g _ _) _ _) _ _) _ _).less fun b h e=>h (by rw [e];rfl))⟩
        case measure=>simp [intOf];omega
    . have a7:n=j:=by omega
      subst a7;have au:E.take n=E:=Abq (by rw [HE.out];exact Aac _);have aR:=az.out.front;have a8:=az.out.cnt;rw [au] at aR a8;obtain⟨aX,aG,aK⟩:=anV (i:=i) aj.out (by rw [az.out.len,HE.out]) (by omega);have aZ:=hid aG;have aT:=hid aK;have bx:=hid aR;have bm:=hid a8;clear aG aK aR a8 au hjl bI;go_wp2_with fail;rw [aZ.out];go_wp2_with fail;go_ret;refine⟨i,bm.out.symm,rfl,⟨?_,fun cs ai=>Hr.out.wid cs (List.mem_filter.1 (show cs∈E.filter fun x=>!P x from ai)).1⟩,aN.out.trans (atd wo g aX)⟩;have h1:=aT.out;rw [bx.out] at h1;rw [bm.out];exact h1
end
section
open Go.RowKit
theorem apW(ar br:Bool)(an bn:Int)(w:World):Calls Tryz.prog 39 #[.agg #[.bool ar,.int .i64 an],.agg #[.bool br,.int .i64 bn]] w fun e w'=>e = .returned (.bool (abX ⟨ar,an⟩ ⟨br,bn⟩))∧Below w.heap.size w w':=by
 cases ar with
 | true =>
   go_enter Tryz.func39,Tryz.ntmps39;go_wp2_with fail;go_ret;exact⟨rfl,bE⟩
 | false =>
   cases br with
   | true =>
     go_enter Tryz.func39,Tryz.ntmps39;go_wp2_with fail;go_ret;exact⟨rfl,bE⟩
   | false =>
     by_cases h:an=bn
     . have Hr:Hid (abX ⟨false,an⟩ ⟨false,bn⟩=false):=by show _=_;unfold abX;simp [h]
       have q0:(decide (an<bn)||decide (bn<an))=false:=aon h;clear h;go_enter Tryz.func39,Tryz.ntmps39;go_wp2_with fail;go_ret;exact⟨aaP Hr.out.symm,bE⟩
     . have Hr:Hid (abX ⟨false,an⟩ ⟨false,bn⟩=true):=by show _=_;unfold abX;simp [h]
       have q0:(decide (an<bn)||decide (bn<an))=true:=aex h;clear h;go_enter Tryz.func39,Tryz.ntmps39;go_wp2_with fail;go_ret;exact⟨aaP Hr.out.symm,bE⟩
def acY(words op:Int)(ar:Bool)(an:Int)(br:Bool)(bn:Int):Bool:=if op=5∨op=6 then br||decide (bn=0) else if op=18∨op=19 then ar||(decide (an<0)||decide (words<=an)) else false
theorem aim(words:Int)(y:aaJ):ag2 words y=acY words y.op y.a.reg y.a.n y.b.reg y.b.n:=rfl
theorem ajT(op dst an bn fn:Int)(ar br:Bool)(sa:Option Addr)(sl sc:Nat)(words:Int)(w:World) :
 Calls Tryz.prog 32 #[.agg #[.int .i64 op,.int .i64 dst,.bool ar,.int .i64 an,.bool br,.int .i64 bn,.int .i64 fn,.slice sa sl sc],.int .i64 words] w fun e w'=>e = .returned (.bool (acY words op ar an br bn))∧Below w.heap.size w w':=by
 by_cases h5:op=5
 . subst h5
   cases br with
   | true =>
     have Hr:Hid (acY words 5 ar an true bn=true):=by show _=_;unfold acY;simp
     go_enter Tryz.func32,Tryz.ntmps32;go_wp2_with fail;go_ret;exact⟨aaP Hr.out.symm,bE⟩
   | false =>
     by_cases hb:bn=0
     . subst hb
       have Hr:Hid (acY words 5 ar an false 0=true):=by show _=_;unfold acY;simp
       go_enter Tryz.func32,Tryz.ntmps32;go_wp2_with fail;go_ret;exact⟨aaP Hr.out.symm,bE⟩
     . have Hr:Hid (acY words 5 ar an false bn=false):=by show _=_;unfold acY;simp [hb]
       have q0:(decide (bn<=0)&&decide (0<=bn))=false:=abI hb;clear hb;go_enter Tryz.func32,Tryz.ntmps32;go_wp2_with fail;go_ret;exact⟨aaP Hr.out.symm,bE⟩
 . by_cases h6:op=6
   . subst h6
     cases br with
     | true =>
       have Hr:Hid (acY words 6 ar an true bn=true):=by show _=_;unfold acY;simp
       clear h5;go_enter Tryz.func32,Tryz.ntmps32;go_wp2_with fail;go_ret;exact⟨aaP Hr.out.symm,bE⟩
     | false =>
       by_cases hb:bn=0
       . subst hb
         have Hr:Hid (acY words 6 ar an false 0=true):=by show _=_;unfold acY;simp
         clear h5;go_enter Tryz.func32,Tryz.ntmps32;go_wp2_with fail;go_ret;exact⟨aaP Hr.out.symm,bE⟩
       . have Hr:Hid (acY words 6 ar an false bn=false):=by show _=_;unfold acY;simp [hb]
         have q0:(decide (bn<=0)&&decide (0<=bn))=false:=abI hb;clear hb h5;go_enter Tryz.func32,Tryz.ntmps32;go_wp2_with fail;go_ret;exact⟨aaP Hr.out.symm,bE⟩
   . have q5:(decide (op<=5)&&decide (5<=op))=false:=abI h5
     have q6:(decide (op<=6)&&decide (6<=op))=false:=abI h6
     by_cases h89:op=18∨op=19
     . have hm:acY words op ar an br bn=(ar||(decide (an<0)||decide (words<=an))):=by unfold acY;rw [if_neg (by omega),if_pos h89]
       cases ar with
       | true =>
         have Hr:Hid (acY words op true an br bn=true):=by show _=_;rw [hm];rfl
         clear h5 h6 hm;rcases h89 with rfl | rfl
         all_goals
          go_enter Tryz.func32,Tryz.ntmps32;go_wp2_with fail;go_ret;exact⟨aaP Hr.out.symm,bE⟩
       | false =>
         by_cases ha:an<0
         . have Hr:Hid (acY words op false an br bn=true):=by show _=_;rw [hm];simp [ha]
           have qa:decide (an<0)=true:=decide_eq_true ha;clear h5 h6 hm ha;rcases h89 with rfl | rfl
           all_goals
            go_enter Tryz.func32,Tryz.ntmps32;go_wp2_with fail;go_ret;exact⟨aaP Hr.out.symm,bE⟩
         . have qa:decide (an<0)=false:=decide_eq_false ha
           by_cases hw:words<=an
           . have Hr:Hid (acY words op false an br bn=true):=by show _=_;rw [hm];simp [hw]
             have qw:decide (words<=an)=true:=decide_eq_true hw;clear h5 h6 hm ha hw;rcases h89 with rfl | rfl
             all_goals
              go_enter Tryz.func32,Tryz.ntmps32;go_wp2_with fail;go_ret;exact⟨aaP Hr.out.symm,bE⟩
           . have Hr:Hid (acY words op false an br bn=false):=by show _=_;rw [hm,qa];simp;omega
             have qw:decide (words<=an)=false:=decide_eq_false hw;clear h5 h6 hm ha hw;rcases h89 with rfl | rfl
             all_goals
              go_enter Tryz.func32,Tryz.ntmps32;go_wp2_with fail;go_ret;exact⟨aaP Hr.out.symm,bE⟩
     . have h8:op≠18:=fun e=>h89 (.inl e)
       have h9:op≠19:=fun e=>h89 (.inr e);have q8:(decide (op<=18)&&decide (18<=op))=false:=abI h8;have q9:(decide (op<=19)&&decide (19<=op))=false:=abI h9;have Hr:Hid (acY words op ar an br bn=false):=by show _=_;unfold acY;rw [if_neg (by omega),if_neg h89]
       clear h5 h6 h89 h8 h9;go_enter Tryz.func32,Tryz.ntmps32;go_wp2_with fail;go_ret;exact⟨aaP Hr.out.symm,bE⟩
def atP (a : aay) : List Value -> Bool
 | .bool r :: .int .i64 n :: _=>eqV ⟨r,n⟩ a
 | _=>false
def asO (a : aay) : List Value -> Bool
 | .bool r :: .int .i64 n :: _=>!abX ⟨r,n⟩ a
 | _=>false
def abg(x:aay×aay):List Value:=[.bool x.1.reg,.int .i64 x.1.n,.bool x.2.reg,.int .i64 x.2.n]
end
section
open Go.RowKit
def arV(l:List aay)(a:aay):Int:=match l.findIdx? (fun x=>eqV x a) with | some k=>k | none => -1
theorem aru(l:List aay)(a:aay):air l a=decide (0<=arV l a):=by
 unfold arV air;cases h:l.findIdx? (fun x=>eqV x a) with
 | none =>
   rw [List.findIdx?_eq_none_iff] at h;have:l.any (fun v=>eqV v a)=false:=List.any_eq_false.2 fun x hx=>by rw [h x hx];decide
   rw [this];rfl
 | some k =>
   rw [Aco] at h;obtain⟨hk,h1,-⟩:=h;have:l.any (fun v=>eqV v a)=true:=List.any_eq_true.2 ⟨_,Aaq hk,h1⟩;rw [this];exact (decide_eq_true (show (0:Int)<=(k:Int) by omega)).symm
theorem alb {S:Nat->Prop}(a:Option Addr)(n c:Nat)(l:List aay)(r:Bool)(m:Int)(w:World)(h:SlAt S w 2 agd (.slice a n c) l)(hn:l.length=n)(aS:n<=1048576) :
 Calls Tryz.prog 67 #[.slice a n c,.agg #[.bool r,.int .i64 m]] w fun e w'=>e = .returned (.int .i64 (arV l ⟨r,m⟩))∧Below w.heap.size w w':=by
 subst hn;have Hh:=hid h;obtain⟨n,hn⟩:∃n,n=l.length:=⟨_,rfl⟩
 have Hn:=hid hn;rw [<-hn] at aS ⊢;obtain⟨W,hW⟩:∃W,W=w.alloc (.cells #[.bool r,.int .i64 m] 41):=⟨_,rfl⟩
 have a6:Below w.heap.size w W:=by rw [hW];exact bE
 have h0:W.heap[w.heap.size]?=some (.cells #[.bool r,.int .i64 m] 41 (0,0)):=by rw [hW];exact heap_alloc_new _ _
 have bt:W.heap.size=w.heap.size+1:=by rw [hW];simp
 have HA:Hid (∀V,Below W.heap.size W V->Below w.heap.size w V∧V.cell? ⟨w.heap.size,0,none⟩=some (.bool r)∧V.cell? ⟨w.heap.size,1,none⟩=some (.int .i64 m)):=fun V hV=>by
  have h:=(aad (cs:=[_,_]) ((hV.block w.heap.size (by omega)).trans h0)).get2;rw [Aab] at h;exact⟨a6.trans (hV.mono a6.size),h⟩
 have HW:=hid hW;clear h hn hW a6 h0 bt;go_enter Tryz.func67,Tryz.ntmps67;go_upto_region 1 with (fail)
 rw [<-HW.out];go_wp2_with fail;go_loopw [8] (fun s8 wr=>∃k:Nat,k<=n∧s8 = .int .i64 (k:Int)∧(∀(j:Nat) x,j<k->l[j]?=some x->eqV x ⟨r,m⟩=false)∧Below W.heap.size W wr) (fun s8 _=>n - (intOf s8).toNat)
 case atStart=>exact⟨0,Aaj _,rfl,fun j x hj=>by omega,Below.refl _ _⟩
 case round =>
  obtain⟨k,hk,rfl,ag,hb⟩:=hrel;have ae:=hid ag;have Hb:=hid hb;obtain⟨hw,a0,a1⟩:=HA.out wr hb;have zA:=aac a0;have Hw:=hid hw;clear ag hb hw
  by_cases aC:k<n
  . have al:k<l.length:=by rw [<-Hn.out];exact aC
    have hl:=Hh.out.later aaN Hw.out;obtain⟨b,off,bB,c0,c1⟩:=arQ hl al;subst bB;obtain⟨x,hx⟩:∃x,x=l[k]:=⟨_,rfl⟩
    rw [<-hx] at c0 c1;have Hx:Hid (l[k]?=some x):=by show _=_;rw [Aaa al,hx]
    have zb:=aac c0;obtain⟨xr,xn⟩:=x;dsimp only at c0 c1;clear hl hx al
    by_cases hva:xr=r∧xn=m
    . obtain⟨rfl,rfl⟩:=hva
      have hi:arV l ⟨xr,xn⟩=(k:Int):=by
       unfold arV;rw [ad3 (p:=fun y=>eqV y ⟨xr,xn⟩) Hx.out (amE _) fun j hj x hx=>ae.out j x hj hx]
      have Hi:=hid hi;clear hi;go_wp2_with fail;go_region;go_wp2_with fail;go_ret;exact⟨aaK Hi.out.symm,by have h:=Hw.out;exact bE1 h⟩
    . have bo:eqV ⟨xr,xn⟩ ⟨r,m⟩=false:=by
       by_cases e:eqV ⟨xr,xn⟩ ⟨r,m⟩=true
       . exact absurd (by have:=afm.1 e;injection this with e1 e2;exact⟨e1,e2⟩) hva
       . simpa using e
      have bG:=hid bo;have aE:(xr=r∧(decide (m<=xn)&&decide (xn<=m))=false)∨(xr=true∧r=false)∨(xr=false∧r=true):=by
       cases xr <;> cases r
       . exact .inl ⟨rfl,abI fun e=>hva ⟨rfl,e.symm⟩⟩
       . exact .inr (.inr ⟨rfl,rfl⟩)
       . exact .inr (.inl ⟨rfl,rfl⟩)
       . exact .inl ⟨rfl,abI fun e=>hva ⟨rfl,e.symm⟩⟩
      clear hva bo;rcases aE with⟨rfl,q0⟩ | ⟨rfl,rfl⟩ | ⟨rfl,rfl⟩
      all_goals
       go_wp2_with fail;go_region;go_wp2_with fail;go_roundw
       case rel =>
        refine⟨k+1,by omega,by go_num,fun j x hj hx=>?_,by have h:=Hb.out;exact bE1 h⟩;rcases Abk.1 hj with h | h
        . exact ae.out j x h hx
        . subst h;rw [Hx.out] at hx;cases hx;exact bG.out
       case measure=>simp [intOf];omega
  . have hi:arV l ⟨r,m⟩ = -1:=by
     unfold arV;rw [ad2 fun j x hx=>ae.out j x (by have h1:=(Aad.1 hx).1;have:=Hn.out;omega) hx]
    have Hi:=hid hi;clear hi;go_wp2_with fail;go_ret;exact⟨aaK Hi.out.symm,Hw.out⟩
theorem aeN {S:Nat->Prop}(a:Option Addr)(n c:Nat)(l:List aay)(r:Bool)(m:Int)(w:World)(h:SlAt S w 2 agd (.slice a n c) l)(hn:l.length=n)(aS:n<=1048576) :
 Calls Tryz.prog 31 #[.slice a n c,.agg #[.bool r,.int .i64 m]] w fun e w'=>e = .returned (.bool (air l ⟨r,m⟩))∧Below w.heap.size w w':=by
 have H:=hid h;have Hn:=hid hn;obtain⟨i,hi⟩:∃i,i=arV l ⟨r,m⟩:=⟨_,rfl⟩
 have Hi:Hid (air l ⟨r,m⟩=decide (0<=i)):=by show _=_;rw [aru,hi]
 have bF:=hid hi;clear h hn hi;go_enter Tryz.func31,Tryz.ntmps31;go_wp2_with (go_at_call 67;refine (alb a n c l r m _ (H.out.later aaN bE) Hn.out aS).mono ?_;rintro e w2 ⟨rfl,ah⟩;rw [<-bF.out];have aB:=hid ah;clear ah);go_ret;exact⟨aaP Hi.out.symm,Below.trans bE (aB.out.mono (by simp))⟩
end
end Go.Proofs.YtpeejlpcikefcaaGreatDoor
