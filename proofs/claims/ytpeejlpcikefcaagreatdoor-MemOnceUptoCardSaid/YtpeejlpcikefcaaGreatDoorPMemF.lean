import Derived.Test.YtpeejlpcikefcaaGreatDoorPValIx
/- mem.known's closures: find, and what they ask of a word. -/
set_option maxHeartbeats 2000000
namespace Go.Proofs.YtpeejlpcikefcaaGreatDoor
open Go.RowKit
def ao9 : Option aay -> Value
 | some v => .tuple #[.agg #[.bool v.reg,.int .i64 v.n],.bool true]
 | none => .tuple #[.agg #[.bool false,.int .i64 0],.bool false]
theorem anz {T:List (aay×aay)}{a:aay}(h:(T.map abg).findIdx? (atP a)=none):abK T a=none:=by
 rw [List.findIdx?_eq_none_iff] at h
 induction T with
 | nil=>rfl
 | cons w T ih =>
   rw [acA];have h1:=h (abg w) (Aal.2 ⟨w,Aa2 ..,rfl⟩);have h2:eqV w.1 a=false:=h1;rw [if_neg (by rw [h2];decide)]
   exact ih fun x hx => h x (by
    obtain ⟨y, hy, rfl⟩ := Aal.1 hx
    exact Aal.2 ⟨y, Aa0 _ hy, rfl⟩)
theorem ai3 {a : aay} : ∀ {T : List (aay × aay)} {k : Nat}, (T.map abg).findIdx? (atP a) = some k -> ∃ w, T[k]? = some w ∧ abK T a = some w.2
 | [],k,h=>by simp at h
 | w :: T,k,h=>by
   rw [Aa3,List.findIdx?_cons] at h;rw [acA];have h1:atP a (abg w)=eqV w.1 a:=rfl;rw [h1] at h
   by_cases e:eqV w.1 a=true
   . rw [if_pos e] at h ⊢
     injection h with h;subst h;exact⟨w,rfl,rfl⟩
   . rw [if_neg e] at h ⊢
     cases hf:(T.map abg).findIdx? (atP a) with
     | none=>rw [hf] at h;cases h
     | some j =>
       rw [hf] at h;injection h with h;subst h;obtain⟨w',h2,h3⟩:=ai3 hf;exact⟨w',h2,h3⟩
theorem arM {fn:Func}(aH:fn.results=#[.cell 3 41,.tmp 4]){tmps:Array Value}{W:World}{RB:Nat}{u0 u1 v:Value}(h3:tmps.getD 3 undef = .pointer (some ⟨RB,0,none⟩))(h4:tmps.getD 4 undef=v)(c0:W.cell? ⟨RB,0,none⟩=some u0)(c1:W.cell? ⟨RB,1,none⟩=some u1) :
 (results fn tmps).run Tryz.prog W = .ok (.tuple #[.agg #[u0,u1],v]) W:=by
 simp only [Acl] at h3 h4;simp [results,aH,h3,h4,go_sem,c0,c1]
theorem asA(AB:Nat)(r:Bool)(n:Int)(w:World)(h0:w.cell? ⟨AB,0,none⟩=some (.bool r))(h1:w.cell? ⟨AB,1,none⟩=some (.int .i64 n))(ar:Bool)(an:Int)(br:Bool)(bn:Int) :
 Calls Tryz.prog 36 #[.agg #[.bool ar,.int .i64 an,.bool br,.int .i64 bn],.pointer (some ⟨AB,0,none⟩)] w fun e w'=>e = .returned (.bool (atP ⟨r,n⟩ [.bool ar,.int .i64 an,.bool br,.int .i64 bn]))∧Below w.heap.size w w':=by
 have zA:=aac h0;show Calls _ _ _ _ fun e w'=>e = .returned (.bool (eqV ⟨ar,an⟩ ⟨r,n⟩))∧_
 by_cases hr:ar=r
 . subst hr
   by_cases hn:an=n
   . have Hr:Hid (eqV ⟨ar,an⟩ ⟨ar,n⟩=true):=by show _=_;rw [hn];exact amE _
     have q0:(decide (an<=n)&&decide (n<=an))=true:=amn hn;clear hn;go_enter Tryz.func36,Tryz.ntmps36;go_wp2_with fail;go_ret;exact⟨aaP Hr.out.symm,bE⟩
   . have Hr:Hid (eqV ⟨ar,an⟩ ⟨ar,n⟩=false):=by show _=_;unfold eqV;simp [hn]
     have q0:(decide (an<=n)&&decide (n<=an))=false:=abI hn;clear hn;go_enter Tryz.func36,Tryz.ntmps36;go_wp2_with fail;go_ret;exact⟨aaP Hr.out.symm,bE⟩
 . have Hr:Hid (eqV ⟨ar,an⟩ ⟨r,n⟩=false):=by show _=_;unfold eqV;simp [hr]
   cases ar <;> cases r <;> first | exact absurd rfl hr | skip
   all_goals
    clear hr;go_enter Tryz.func36,Tryz.ntmps36;go_wp2_with fail;go_ret;exact⟨aaP Hr.out.symm,bE⟩
theorem ag5(IB:Nat)(r:Bool)(n:Int)(w:World)(h0:w.cell? ⟨IB,2,none⟩=some (.bool r))(h1:w.cell? ⟨IB,3,none⟩=some (.int .i64 n))(ar:Bool)(an:Int)(br:Bool)(bn:Int) :
 Calls Tryz.prog 38 #[.agg #[.bool ar,.int .i64 an,.bool br,.int .i64 bn],.pointer (some ⟨IB,0,none⟩)] w fun e w'=>e = .returned (.bool (asO ⟨r,n⟩ [.bool ar,.int .i64 an,.bool br,.int .i64 bn]))∧Below w.heap.size w w':=by
 have zI:=aac h0;show Calls _ _ _ _ fun e w'=>e = .returned (.bool (!abX ⟨ar,an⟩ ⟨r,n⟩))∧_;obtain⟨b,hb⟩:∃b,b=abX ⟨ar,an⟩ ⟨r,n⟩:=⟨_,rfl⟩
 have Hb:=hid hb;rw [<-hb];clear hb;go_enter Tryz.func38,Tryz.ntmps38;go_wp2_with (go_at_call 39;refine (apW ar r an n _).mono ?_;rintro e w2 ⟨rfl,ad⟩;rw [<-Hb.out];have ah:=hid ad;clear ad);go_ret;exact⟨rfl,Below.trans bE (ah.out.mono (by simp))⟩
set_option maxRecDepth 100000 in
theorem ahW(base WB:Nat)(vw:Value)(T:List (aay×aay))(r:Bool)(n:Int)(w:World)(hc:w.cell? ⟨WB,0,none⟩=some vw)(hr:ac7 w base 74 4 vw (T.map abg))(hT:T.length<=1048576) :
 Calls Tryz.prog 34 #[.agg #[.bool r,.int .i64 n],.pointer (some ⟨WB,0,none⟩)] w fun e w'=>e = .returned (ao9 (abK T ⟨r,n⟩))∧Below w.heap.size w w':=by
 obtain⟨wa,wc,rfl⟩:∃a c,vw = .slice a T.length c:=by
  rcases hr.own.2 with⟨h1,h2⟩ | ⟨g,cap,cur,e,-⟩
  . exact⟨none,0,by rw [h1,<-Aah (f:=abg),h2]⟩
  . exact⟨_,_,by rw [e,Aah]⟩
 obtain⟨tn,al⟩:∃tn,tn=T.length:=⟨_,rfl⟩
 have aA:=hid al;rw [<-al] at hc hr;obtain⟨W,hW⟩:∃W,W=(w.alloc (.cells #[.bool r,.int .i64 n] 41)).alloc (.cells #[.bool false,.int .i64 0] 41):=⟨_,rfl⟩
 obtain⟨az,av,af⟩:=abE w (.cells #[.bool r,.int .i64 n] 41) (.cells #[.bool false,.int .i64 0] 41);rw [<-hW] at az av af;have ao:Below w.heap.size w W:=by rw [hW];exact bE
 have HA:Hid (∀V,Below W.heap.size W V->V.cell? ⟨w.heap.size,0,none⟩=some (.bool r)∧V.cell? ⟨w.heap.size,1,none⟩=some (.int .i64 n)):=fun V hV=>by
  have h:=(aad (cs:=[_,_]) ((hV.block w.heap.size (by omega)).trans av)).get2;rw [Aab] at h;exact h
 have aB := aiC base wa tn wc (T.map abg) W (hr.off (Kp.of ao)) (by rw [Aah]; exact al.symm) (by omega) (atP ⟨r, n⟩) (.pointer (some ⟨w.heap.size, 0, none⟩)) (fun V hV a0 a1 a2 a3 hm => by
  obtain ⟨x, hx, e⟩ := Aal.1 hm
  injection e with e0 e; injection e with e1 e; injection e with e2 e; injection e with e3 e
  subst e0 e1 e2 e3
  obtain ⟨k0, k1⟩ := HA.out V hV
  exact asA w.heap.size r n V k0 k1 x.1.reg x.1.n x.2.reg x.2.n)
 have aC:=hid aB;have ak:=aab hc ao;have zW:=aac ak;have f0:=aaq af 0;have f1:=aaq af 1;obtain⟨b0,b1⟩:=(aad (cs:=[_,_]) af).get2;rw [Aab] at b1;have Hr:=hid hr;have aj:=hid ao;have aq:=hid af;have HW:=hid hW;obtain⟨RB,au⟩:∃RB,RB=w.heap.size+1:=⟨_,rfl⟩
 have ax:=hid au;have zR:RB<W.heap.size:=by omega
 rw [<-au] at f0 f1 b0 b1 af;have aq:=hid af;clear hW az av af ao aB hr hc al;go_enter Tryz.func34,Tryz.ntmps34;go_upto_region 1 with (fail)
 rw [<-HW.out,<-ax.out];clear au;cases hf:(T.map abg).findIdx? (atP ⟨r,n⟩) with
 | none =>
   have hi:aj5 (T.map abg) (atP ⟨r,n⟩) = -1:=by unfold aj5;rw [hf]
   have Hi:=hid hi;have ae:=hid (anz hf);clear hi hf;go_upto_region 2 with (go_at_call 35;refine aC.out.mono ?_;rintro e w2 ⟨rfl,ad⟩;rw [Hi.out];have f0:=(ad.frozen (p:=⟨RB,0,none⟩) zR).trans f0;have f1:=(ad.frozen (p:=⟨RB,1,none⟩) zR).trans f1;have b0:=aab b0 ad;have b1:=aab b1 ad;have aF:=aac b0;have aw:=hid ((ad.block RB zR).trans aq.out);have ah:=hid ad;clear ad)
   go_wp2_with fail;obtain⟨W9,ag⟩:∃W9,W9=(w2.setCell ⟨RB,0,none⟩ (.bool false)).setCell ⟨RB,1,none⟩ (.int .i64 0):=⟨_,rfl⟩
   rw [<-ag];have h9:W9.heap[RB]?=some (.cells #[.bool false,.int .i64 0] 41 (0,0)):=by rw [ag];exact aak (aak aw.out _) _
   obtain⟨r0,r1⟩:=(aad (cs:=[_,_]) h9).get2;rw [Aab] at r1;have ay:Below w.heap.size w W9:=by
    have hk:Kp (fun c=>c≠RB) w2 W9:=by rw [ag];exact (aaQ w2 RB 0 _).trans (aaQ _ RB 1 _)
    have h1:Below w.heap.size w w2:=aj.out.trans (ah.out.mono aj.out.size);exact h1.trans (hk.below fun b hb=>⟨Aay hb h1.size,by have:=ax.out;omega⟩)
   refine bodyPost_ret (arM rfl rfl rfl r0 r1) rfl ⟨by rw [ae.out];rfl,ay⟩
 | some k =>
   have hi:aj5 (T.map abg) (atP ⟨r,n⟩)=(k:Int):=by unfold aj5;rw [hf]
   have Hi:=hid hi;obtain⟨x,hx,ai⟩:=ai3 hf;have ae:=hid ai;have aE:=(Aad.1 hx).1;have aK:k<tn:=by have:=aA.out;omega
   have aI:tn<=1048576:=by have:=aA.out;omega
   obtain⟨g,c',hv,-,-,-,aD,-⟩:=(Hr.out.off (Kp.of aj.out)).at (i:=k) (cs:=abg x) (by rw [Aak,hx];rfl) (by decide)
   have aG:wa=some ⟨g,0,none⟩:=by injection hv
   subst aG;obtain⟨-,-,d2,d3⟩:=aD.get4;have Hd:Hid (∀V,Below W.heap.size W V->V.cell? ⟨g,k * 4+2,none⟩=some (.bool x.2.reg)∧V.cell? ⟨g,k * 4+3,none⟩=some (.int .i64 x.2.n)):=fun V hV=>⟨aab d2 hV,aab d3 hV⟩
   obtain⟨⟨xr,xn⟩,⟨yr,yn⟩⟩:=x;dsimp only at ae Hd;clear hi hf hx ai hv aD d2 d3 aE;go_upto_region 2 with (go_at_call 35;refine aC.out.mono ?_;rintro e w2 ⟨rfl,ad⟩;rw [Hi.out];have f0:=(ad.frozen (p:=⟨RB,0,none⟩) zR).trans f0;have f1:=(ad.frozen (p:=⟨RB,1,none⟩) zR).trans f1;have b0:=aab b0 ad;have b1:=aab b1 ad;have ak:=aab ak ad;have aJ:=aac ak;have aF:=aac b0;have aw:=hid ((ad.block RB zR).trans aq.out);have ah:=hid ad;clear ad)
   obtain⟨d2,d3⟩:=Hd.out w2 ah.out;have zg:=aac d2;go_wp2_with fail;obtain⟨W9,ag⟩:∃W9,W9=(w2.setCell ⟨RB,0,none⟩ (.bool yr)).setCell ⟨RB,1,none⟩ (.int .i64 yn):=⟨_,rfl⟩
   rw [<-ag];have h9:W9.heap[RB]?=some (.cells #[.bool yr,.int .i64 yn] 41 (0,0)):=by rw [ag];exact aak (aak aw.out _) _
   obtain⟨r0,r1⟩:=(aad (cs:=[_,_]) h9).get2;rw [Aab] at r1;have ay:Below w.heap.size w W9:=by
    have hk:Kp (fun c=>c≠RB) w2 W9:=by rw [ag];exact (aaQ w2 RB 0 _).trans (aaQ _ RB 1 _)
    have h1:Below w.heap.size w w2:=aj.out.trans (ah.out.mono aj.out.size);exact h1.trans (hk.below fun b hb=>⟨Aay hb h1.size,by have:=ax.out;omega⟩)
   refine bodyPost_ret (arM rfl rfl rfl r0 r1) rfl ⟨by rw [ae.out];rfl,ay⟩
end Go.Proofs.YtpeejlpcikefcaaGreatDoor
