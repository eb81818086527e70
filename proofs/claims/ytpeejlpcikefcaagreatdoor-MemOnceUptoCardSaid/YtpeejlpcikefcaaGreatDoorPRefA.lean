import Derived.Deep.OwnRows
import Derived.Test.YtpeejlpcikefcaaGreatDoorPCloneR
/- Contracts of the three closures of the checker's ins, and of code.first over them. The contract of the checker's phi. Whence one comes: plain lists; and a family of rows that the call itself owns. turneryref6.unrollAhead: the blocks that lead to a block. -/
set_option maxHeartbeats 1000000
namespace Go.Proofs.YtpeejlpcikefcaaGreatDoor
section
open Go.RowKit
theorem aq3 (cb xb : Nat) (g f nm ps : Value) (regs : Int) (ba : Option Addr) (bn bc : Nat) (aa : Option Addr) (an ac : Nat) (v : aay) (w : World) (h0 : 0 <= regs) (h1 : regs <= 100)
 (ga:Option Addr) (gn gc:Nat) (fa:Option Addr) (fn fc:Nat) (s:ByteArray) (p:Int) (hg:g = .slice ga gn gc) (hf:f = .slice fa fn fc) (ar:nm = .string s) (ax:ps = .int .i64 p)
 (hc:aal w cb 0 [g,f,nm,ps,.int .i64 regs,.slice ba bn bc,.slice aa an ac]) (hr:w.cell? ⟨xb,2,none⟩=some (.bool v.reg)) (hn:w.cell? ⟨xb,3,none⟩=some (.int .i64 v.n)) :
 Calls Tryz.prog 101 #[.pointer (some ⟨cb,0,none⟩),.pointer (some ⟨xb,0,none⟩)] w fun e w'=>e = .returned (.int .i64 (aco regs v))∧Below w.heap.size w w':=by
 subst hg hf ar ax;obtain⟨c0,c1,c2,c3,c4,c5,c6⟩:=hc.get7;simp only [Aab] at c1 c2 c3 c4 c5 c6;clear hc;go_enter Tryz.func101,Tryz.ntmps101;go_wp2_with (go_at_call 97;((with_reducible refine (acZ _ _ _ _ _ _ _ _ _ _ h0 h1).mono ?_);rintro e w1 ⟨rfl,ad⟩));go_ret;exact⟨rfl,bE1 ad⟩
theorem aq4 (cb xb : Nat) (g f nm ps : Value) (regs : Int) (ba : Option Addr) (bn bc : Nat) (aa : Option Addr) (an ac : Nat) (v : aay) (w : World) (h0 : 0 <= regs) (h1 : regs <= 100)
 (ga:Option Addr) (gn gc:Nat) (fa:Option Addr) (fn fc:Nat) (s:ByteArray) (p:Int) (hg:g = .slice ga gn gc) (hf:f = .slice fa fn fc) (ar:nm = .string s) (ax:ps = .int .i64 p)
 (hc:aal w cb 0 [g,f,nm,ps,.int .i64 regs,.slice ba bn bc,.slice aa an ac]) (hr:w.cell? ⟨xb,4,none⟩=some (.bool v.reg)) (hn:w.cell? ⟨xb,5,none⟩=some (.int .i64 v.n)) :
 Calls Tryz.prog 102 #[.pointer (some ⟨cb,0,none⟩),.pointer (some ⟨xb,0,none⟩)] w fun e w'=>e = .returned (.int .i64 (aco regs v))∧Below w.heap.size w w':=by
 subst hg hf ar ax;obtain⟨c0,c1,c2,c3,c4,c5,c6⟩:=hc.get7;simp only [Aab] at c1 c2 c3 c4 c5 c6;clear hc;go_enter Tryz.func102,Tryz.ntmps102;go_wp2_with (go_at_call 97;((with_reducible refine (acZ _ _ _ _ _ _ _ _ _ _ h0 h1).mono ?_);rintro e w1 ⟨rfl,ad⟩));go_ret;exact⟨rfl,bE1 ad⟩
theorem alQ(regs:Int)(v:aay):aco regs v=0∨aco regs v=3:=by unfold aco;split <;> simp
def ah4(regs:Int)(l:List aay):Int:=if l.any (fun v=>decide (aco regs v≠0)) then 3 else 0
theorem ai6 {regs:Int}{l:List aay}(h:∀j:Nat,∀x,l[j]?=some x->aco regs x=0):ah4 regs l=0:=by
 unfold ah4;rw [if_neg];intro h';obtain⟨x,hx,hv⟩:=List.any_eq_true.1 h';obtain⟨j,hj⟩:=List.getElem?_of_mem hx;exact of_decide_eq_true hv (h j x hj)
theorem akK {regs:Int}{l:List aay}{j:Nat}{x:aay}(h:l[j]?=some x)(hv:aco regs x≠0):ah4 regs l=aco regs x:=by
 unfold ah4;rw [if_pos (List.any_eq_true.2 ⟨x,Aae h,decide_eq_true hv⟩)];rcases alQ regs x with h | h
 . exact absurd h hv
 . exact h.symm
def adl(fs:List aaz)(regs:Int)(x:aaJ):Int :=
 if x.op≠20 then 0
 else if ¬(0<=x.fn∧x.fn<=(fs.length:Int) - 1) then 3
 else if (x.args.length:Int)≠(fs.getD x.fn.toNat ⟨ByteArray.empty,0,0,[]⟩).params then 9
 else ah4 regs x.args
theorem aq5 {S S' : Nat -> Prop} (cb xb kb : Nat) (g nm ps : Value) (fs : List aaz) (regs : Int) (ba : Option Addr) (bn bc : Nat) (aa : Option Addr) (an ac : Nat) (x : aaJ) (w : World) (h0 : 0 <= regs) (h1 : regs <= 100)
 (ga:Option Addr) (gn gc:Nat) (fa:Option Addr) (fc:Nat) (ra:Option Addr) (rc:Nat) (s:ByteArray) (p:Int) (hg:g = .slice ga gn gc) (ar:nm = .string s) (ax:ps = .int .i64 p)
 (hc:aal w cb 0 [g,.slice fa fs.length fc,nm,ps,.int .i64 regs,.slice ba bn bc,.slice aa an ac])
 (hk:w.cell? ⟨kb,0,none⟩=some (.bool (decide (x.op=20))))
 (aU:w.cell? ⟨xb,6,none⟩=some (.int .i64 x.fn)) (a1:w.cell? ⟨xb,7,none⟩=some (.slice ra x.args.length rc))
 (aJ:SlAt S w 4 abD (.slice fa fs.length fc) fs) (has:SlAt S' w 2 agd (.slice ra x.args.length rc) x.args) (be:fs.length<=1048576) :
 Calls Tryz.prog 103 #[.pointer (some ⟨kb,0,none⟩),.pointer (some ⟨xb,0,none⟩),.pointer (some ⟨cb,0,none⟩)] w fun e w' =>
  e = .returned (.int .i64 (adl fs regs x))∧Below w.heap.size w w':=by
 subst hg ar ax;have Hc:=hid hc;obtain⟨c0,c1,c2,c3,c4,c5,c6⟩:=hc.get7;simp only [Aab] at c1 c2 c3 c4 c5 c6;have aX:=hid aJ;have Has:=hid has;obtain⟨_,_,aF,aV⟩:=has.val;cases aF;clear hc aJ has
 by_cases hop:x.op=20
 case neg =>
  have Hr:=hid (show adl fs regs x=0 by simp [adl,hop]);rw [decide_eq_false hop] at hk;clear hop;go_enter Tryz.func103,Tryz.ntmps103;go_wp2_with fail;go_ret;exact⟨aaK Hr.out.symm,bE⟩
 rw [decide_eq_true hop] at hk
 by_cases hin:0<=x.fn∧x.fn<=(fs.length:Int) - 1
 case neg =>
  have Hr:=hid (show adl fs regs x=3 by simp only [adl,hop,hin];simp);clear hop;go_enter Tryz.func103,Tryz.ntmps103;go_wp2_with (go_at_call 42;((with_reducible refine (aaC _ _ _ _).mono ?_);rintro e w' ⟨rfl,rfl⟩));go_ret;exact⟨aaK Hr.out.symm,bE⟩
 obtain⟨n,hn⟩:=Abb hin.1;have aN:n<fs.length:=by omega
 obtain⟨b,off,cs,rfl,-,hx,-,af⟩:=aX.out.get aN;obtain⟨a6,bh,rfl,-,-,aW,-⟩:=hx.opens;obtain⟨d0,d1,d2,d3⟩:=af.get4;have av:(fs.getD x.fn.toNat ⟨ByteArray.empty,0,0,[]⟩).params=fs[n].params:=by
  rw [hn,Aan,Aaf,Aaa aN];rfl
 have au:=hid av;have aK:=hid hop;have aH:=hid hin;have Hn:=hid hn;rw [hn] at aU;clear av hop hin hn af hx;unfold I64 at aW
 by_cases hlen:(x.args.length:Int)=fs[n].params
 case neg =>
  have Hr:=hid (show adl fs regs x=9 by simp only [adl,aK.out,aH.out,au.out];simp [hlen]);have aw:(x.args.length:Int)<fs[n].params∨fs[n].params<(x.args.length:Int):=by omega
  clear hlen;go_enter Tryz.func103,Tryz.ntmps103;go_wp2_with (go_at_call 42;((with_reducible refine (aaC _ _ _ _).mono ?_);rintro e w' ⟨rfl,rfl⟩));go_quiet (fail);go_wp2_with fail;go_ret;exact⟨aaK Hr.out.symm,bE⟩
 have Hr:=hid (show adl fs regs x=ah4 regs x.args by simp only [adl,aK.out,aH.out,au.out];simp [hlen]);have hq:(decide ((n:Int)<=(fs.length:Int) - 1))=true:=by rw [decide_eq_true_iff];omega
 have a8:(x.args.length:Int)<=fs[n].params:=by omega
 have bf:fs[n].params<=(x.args.length:Int):=by omega
 clear hlen;go_enter Tryz.func103,Tryz.ntmps103;go_wp2_with (go_at_call 42;((with_reducible refine (aaC _ _ _ _).mono ?_);rintro e w' ⟨rfl,rfl⟩));go_quiet (fail);go_wp2_with fail;go_loopw [36] (fun i wr=>∃k:Nat,k<=x.args.length∧i = .int .i64 k∧(∀j,j<k->∀y,x.args[j]?=some y->aco regs y=0)∧Below w.heap.size w wr) (fun i _=>x.args.length - (intOf i).toNat)
 case atStart=>exact⟨0,Aaj _,rfl,fun j hj=>by omega,bE⟩
 case round =>
  obtain⟨k,hk,rfl,ag,aj⟩:=hrel;have ah:=hid ag;have ak:=hid aj;clear ag aj
  by_cases ai:k<x.args.length
  . obtain⟨b2,aE,cs,rfl,-,⟨rfl,-⟩,-,af⟩:=(Has.out.later aaN ak.out).get ai
    obtain⟨e0,e1⟩:=af.get2;clear af;obtain⟨g0,g1,g2,g3,g4,g5,g6⟩:=(Hc.out.later ak.out).get7;simp only [Aab] at g1 g2 g3 g4 g5 g6;have bk:=aac g0;have aC:=ak.out.size
    by_cases hv:aco regs x.args[k]=0
    . go_wp2_with (go_at_call 97;((with_reducible refine (acZ _ _ _ _ _ _ _ _ _ _ h0 h1).mono ?_);rintro e w1 ⟨rfl,ad⟩))
      go_roundw
      case rel=>exact⟨k+1,by omega,by go_num,abY ah.out (fun y hy=>by rw [Aaa ai] at hy;cases hy;exact hv),by have h:=ak.out;exact bE2 ad h⟩
      case measure=>simp [intOf];omega
    . have Ha:=hid (akK (Aaa ai) hv)
      have az:aco regs x.args[k]=3:=(alQ _ _).resolve_left hv;go_wp2_with (go_at_call 97;((with_reducible refine (acZ _ _ _ _ _ _ _ _ _ _ h0 h1).mono ?_);rintro e w1 ⟨rfl,ad⟩));go_ret;exact⟨aaK (by rw [Hr.out,Ha.out,az]),by have h:=ak.out;exact bE2 ad h⟩
  . have Ha:=hid (ai6 (regs:=regs) (l:=x.args) (fun j y hy=>ah.out j (by have:=(Aad.1 hy).1;omega) y hy))
    go_wp2_with fail;go_ret;exact⟨aaK (by rw [Hr.out,Ha.out]),by have h:=ak.out;exact bE1 h⟩
end
section
open Go.RowKit
def rRow:Rp (List Int):=fun S w cs l=>∃v,cs=[v]∧SlAt S w 1 acx v l
theorem acX:rRow.Mono:=⟨fun _ _ _ _ _ _ hS hw ⟨v,h1,h2⟩=>⟨v,h1,h2.mono aaw hS hw⟩⟩
theorem apr(regs n:Int):agY regs n=0∨agY regs n=3:=by unfold agY;split <;> simp
def ajG(regs:Int)(block:Nat)(ahead:List (List Int))(p:acn):Int :=
 if block=0 then 5
 else if agY regs p.dst≠0 then 3
 else if p.src.length≠(ahead.getD block []).length then 9
 else ah4 regs p.src
theorem aps {S S' : Nat -> Prop} (ga : Option Addr) (gn gc : Nat) (fa : Option Addr) (fn fc : Nat) (s : ByteArray) (p regs : Int) (ba : Option Addr) (bn bc : Nat) (aa : Option Addr) (ac : Nat) (ahead : List (List Int)) (x : acn) (ra : Option Addr) (rc : Nat) (k : Nat) (w : World)
 (h0:0<=regs) (h1:regs<=100) (aq:SlAt S w 1 rRow (.slice aa ahead.length ac) ahead) (has:SlAt S' w 2 agd (.slice ra x.src.length rc) x.src) (hk:k<ahead.length) (_hal:ahead.length<=1048576) :
 Calls Tryz.prog 71 #[.agg #[.slice ga gn gc,.slice fa fn fc,.string s,.int .i64 p,.int .i64 regs,.slice ba bn bc,.slice aa ahead.length ac],.int .i64 k,.agg #[.int .i64 x.dst,.slice ra x.src.length rc]] w fun e w' =>
  e = .returned (.int .i64 (ajG regs k ahead x))∧Below w.heap.size w w':=by
 have Has:=hid has;obtain⟨_,_,aF,aV⟩:=has.val;cases aF;have bl:=hid aq;clear has
 by_cases hk0:k=0
 . subst hk0
   have Hr:=hid (show ajG regs 0 ahead x=5 by simp [ajG]);clear aq;go_enter Tryz.func71,Tryz.ntmps71;go_wp2_with fail;go_ret;exact⟨aaK Hr.out.symm,bE⟩
 have bg:(0:Int)<k:=by omega
 have aD:=hid hk0;clear hk0
 by_cases hd:agY regs x.dst=0
 case neg =>
  have aO:agY regs x.dst=3:=(apr _ _).resolve_left hd;have Hr:=hid (show ajG regs k ahead x=3 by simp only [ajG,aD.out,aO];simp);clear aq hd;go_enter Tryz.func71,Tryz.ntmps71;go_wp2_with (go_at_call 98;((with_reducible refine (ahv _ _ _ _ _ _ _ _ _ h0 h1).mono ?_);rintro e w1 ⟨rfl,ad⟩));go_ret;exact⟨aaK Hr.out.symm,bE1 ad⟩
 obtain⟨b,off,cs,rfl,-,⟨v,rfl,hv⟩,-,af⟩:=aq.get hk;obtain⟨va,vc,rfl,bj⟩:=hv.val;have ae:=af.get1;have aj:=aac ae;simp only [Abd] at ae;have av:ahead.getD k []=ahead[k]:=by rw [Aaf,Aaa hk];rfl
 have au:=hid av;clear aq af hv av
 by_cases hlen:x.src.length=ahead[k].length
 case neg =>
  have Hr:=hid (show ajG regs k ahead x=9 by simp only [ajG,aD.out,hd,au.out];simp [hlen]);have aw:(x.src.length:Int)<ahead[k].length∨(ahead[k].length:Int)<x.src.length:=by omega
  clear hlen;go_enter Tryz.func71,Tryz.ntmps71;go_wp2_with (go_at_call 98;((with_reducible refine (ahv _ _ _ _ _ _ _ _ _ h0 h1).mono ?_);rintro e w1 ⟨rfl,ad⟩;obtain⟨aR,aS⟩:=aaH ad;have aP:w.heap.size+1<w1.heap.size:=(by have:=ad.size;simp at this;omega);have aT:w.heap.size<w1.heap.size:=(by omega);have al:=aab ae (Below.trans bE (ad.mono (by simp;omega)))));go_quiet (fail);go_wp2_with fail;go_ret;exact⟨aaK Hr.out.symm,bE1 ad⟩
 have Hr:=hid (show ajG regs k ahead x=ah4 regs x.src by simp only [ajG,aD.out,hd,au.out];simp [hlen]);have hq:=atl hlen;clear hlen;go_enter Tryz.func71,Tryz.ntmps71;go_wp2_with (go_at_call 98;((with_reducible refine (ahv _ _ _ _ _ _ _ _ _ h0 h1).mono ?_);rintro e w1 ⟨rfl,ad⟩;obtain⟨aR,aS⟩:=aaH ad;have aP:w.heap.size+1<w1.heap.size:=(by have:=ad.size;simp at this;omega);have aT:w.heap.size<w1.heap.size:=(by omega);have al:=aab ae (Below.trans bE (ad.mono (by simp;omega)))));go_quiet (fail);go_wp2_with fail;go_loopw [33] (fun i wr=>∃k:Nat,k<=x.src.length∧i = .int .i64 k∧(∀j,j<k->∀y,x.src[j]?=some y->aco regs y=0)∧Below (w.heap.size+2) w1 wr) (fun i _=>x.src.length - (intOf i).toNat)
 case atStart=>exact⟨0,Aaj _,rfl,fun j hj=>by omega,bE⟩
 case round =>
  obtain⟨k',hk,rfl,ag,aj⟩:=hrel;have ah:=hid ag;have aM:Below w.heap.size w wr:=((bE:Below w.heap.size w ((w.alloc (.cells #[.slice ga gn gc,.slice fa fn fc,.string s,.int .i64 p,.int .i64 regs,.slice ba bn bc,.slice (some ⟨b,off,none⟩) ahead.length ac] 86)).alloc (.cells #[.int .i64 x.dst,.slice ra x.src.length rc] 115)))).trans ((ad.mono (by simp;omega)).trans (aj.mono (by omega)));have aG:=hid aM;have ak:=hid aj;obtain⟨a7,aA⟩:=aaH aj;have aC:=aj.size;have aZ:w.heap.size<wr.heap.size:=by omega
  have aY:w.heap.size+1<wr.heap.size:=by omega
  clear ag aM aj
  by_cases ai:k'<x.src.length
  . obtain⟨b2,aE,cs,rfl,-,⟨rfl,-⟩,-,af⟩:=(Has.out.later aaN aG.out).get ai
    obtain⟨e0,e1⟩:=af.get2;have aI:=aac e0;clear af;have bd:=hid e0
    by_cases hv:aco regs x.src[k']=0
    . go_wp2_with (go_at_call 97;((with_reducible refine (acZ _ _ _ _ _ _ _ _ _ _ h0 h1).mono ?_);rintro e w2 ⟨rfl,aB⟩))
      go_roundw
      case rel=>exact⟨k'+1,by omega,by go_num,abY ah.out (fun y hy=>by rw [Aaa ai] at hy;cases hy;exact hv),by have h:=ak.out;exact bE2 aB h⟩
      case measure=>simp [intOf];omega
    . have Ha:=hid (akK (Aaa ai) hv)
      have az:aco regs x.src[k']=3:=(alQ _ _).resolve_left hv;go_wp2_with (go_at_call 97;((with_reducible refine (acZ _ _ _ _ _ _ _ _ _ _ h0 h1).mono ?_);rintro e w2 ⟨rfl,aB⟩));go_ret;exact⟨aaK (by rw [Hr.out,Ha.out,az]),by have h:=aG.out;exact bE2 aB h⟩
  . have Ha:=hid (ai6 (regs:=regs) (l:=x.src) (fun j y hy=>ah.out j (by have:=(Aad.1 hy).1;omega) y hy))
    go_wp2_with fail;go_ret;exact⟨aaK (by rw [Hr.out,Ha.out]),by have h:=aG.out;exact bE1 h⟩
end
section
open Go.RowKit
def ae8(to:List Int)(t:Nat)(i:Nat):List Int:=(to.filter fun x:Int=>decide (x=(t:Int))).map fun _=>(i:Int)
def aaf : List DBlock -> Nat -> Nat -> List Int
 | [],_,_=>[]
 | b :: r,s,t=>ae8 b.fin.to t s++aaf r (s+1) t
def aheadF(l:List DBlock):List (List Int):=(List.range l.length).map fun t=>aaf l 0 t
theorem aiy(l r:List DBlock)(s t:Nat):aaf (l++r) s t=aaf l s t++aaf r (s+l.length) t:=by
 induction l generalizing s with
 | nil=>simp [aaf]
 | cons b l ih=>simp only [Ab6,aaf,ih,Abo,Aba];rw [show s+1+l.length=s+(l.length+1) by omega]
theorem agH(l:List DBlock)(k t:Nat)(h:k<l.length):aaf (l.take (k+1)) 0 t=aaf (l.take k) 0 t++ae8 l[k].fin.to t k:=by
 rw [Aby h,aiy];simp [aaf,List.length_take,Nat.min_eq_left (Nat.le_of_lt h)]
theorem akL(to:List Int)(j t i:Nat)(h:j<to.length):ae8 (to.take (j+1)) t i=ae8 (to.take j) t i++if to[j]=(t:Int) then [(i:Int)] else []:=by
 unfold ae8;rw [Aby h,List.filter_append,Aa8]
 congr 1
 by_cases hc:to[j]=(t:Int) <;> simp [hc]
theorem ajH(to:List Int)(t i:Nat):(ae8 to t i).length<=to.length:=by
 unfold ae8;rw [Aah];exact Aci _ _
theorem ai7(l:List DBlock)(m:Nat)(h:∀(i:Nat) (x:DBlock),l[i]?=some x->x.fin.to.length<=m)(k s t:Nat):(aaf (l.take k) s t).length<=m * l.length:=by
 induction l generalizing k s with
 | nil=>simp [aaf]
 | cons b l ih =>
   cases k with
   | zero=>simp [aaf]
   | succ k =>
     have h1:=ih (fun i x hx=>h (i+1) x hx) k (s+1);have h2:=ajH b.fin.to t s;have h3:=h 0 b rfl;simp only [Ab1,aaf,Aau,Aba,Nat.mul_add,Abd];omega
variable {t:Nat}{x:Int}
theorem ajI{to:List Int}{i:Nat}(h:x∈ae8 to t i):x=i:=by
 unfold ae8 at h;obtain⟨_,_,h⟩:=Aal.1 h;exact h.symm
theorem abr{l:List DBlock}{s:Nat}(h:x∈aaf l s t):0<=x∧x<s+l.length:=by
 induction l generalizing s with
 | nil=>simp [aaf] at h
 | cons b l ih =>
   simp only [aaf,Aa7] at h;rcases h with h | h
   . have:=ajI h;simp only [Aba];omega
   . have:=ih h;simp only [Aba];omega
structure Fam (w:World)(base:Nat)(e:TypeId)(n:Nat)(V:Nat->Value)(R:Nat->List Value):Prop where
 own:∀t,t<n->w.ownsRow base e 1 (V t) (R t).length (R t)
 apart:∀t u k,t<n->u<n->t≠u->(V t).ownBlock=some k->(V u).ownBlock≠some k
variable {w:World}{base n:Nat}{e:TypeId}{V:Nat->Value}{R:Nat->List Value}
theorem Fam.grown{w':World}(h:Fam w base e n V R)(hg:w.grownBy w' none):Fam w' base e n V R :=
 ⟨fun t ht=>(h.own t ht).kept hg (by cases (V t).ownBlock <;> simp),h.apart⟩
theorem Fam.alloc(h:Fam w base e n V R)(o:Obj):Fam (w.alloc o) base e n V R :=
 h.grown (World.grownBy_alloc _ _ _)
theorem Fam.setBelow(h:Fam w base e n V R){a:Addr}(ha:a.block<base)(u:Value):Fam (w.setCell a u) base e n V R :=
 ⟨fun t ht=>ownsRow_setCell_below (h.own t ht) ha u,h.apart⟩
theorem Fam.push{w':World}    {V : Nat -> Value} {R : Nat -> List Value} (h : Fam w base e n V R)  (ht : t < n) {v' : Value} {x : Value}
 (ho:w'.ownsRow base e 1 v' ((R t).length+1) (R t++[x])) (hg:w.grownBy w' (V t).ownBlock) (hb:v'.ownBlock=(V t).ownBlock∨v'.ownBlock=some w.heap.size) :
 Fam w' base e n (fun u=>if u=t then v' else V u) (fun u=>if u=t then R t++[x] else R u):=by
 have ai:∀u k,u<n->(V u).ownBlock=some k->k<w.heap.size:=fun u k hu hk=>((h.own u hu).lt k hk).2;refine⟨fun u hu=>?_,fun u1 u2 k h1 h2 ay hk=>?_⟩
 . by_cases hut:u=t
   . subst hut;simp only [if_true];rw [Aau];exact ho
   . simp only [if_neg hut]
     refine (h.own u hu).kept hg ?_;cases hu':(V u).ownBlock with
     | none=>exact .inl rfl
     | some k=>exact .inr (fun e=>h.apart u t k hu ht hut hu' e.symm)
 . by_cases e1:u1=t
   . have e2:u2≠t:=fun e=>ay (e1.trans e.symm)
     simp only [if_pos e1] at hk;simp only [if_neg e2];intro aL;rcases hb with hb | hb
     . rw [hb] at hk;exact h.apart t u2 k ht h2 (fun e=>e2 e.symm) hk aL
     . rw [hb] at hk;cases hk;have:=ai u2 _ h2 aL;omega
   . simp only [if_neg e1] at hk
     by_cases e2:u2=t
     . simp only [if_pos e2]
       rcases hb with hb | hb
       . rw [hb];exact h.apart u1 t k h1 ht e1 hk
       . rw [hb];intro e;cases e;have:=ai u1 _ h1 hk;omega
     . simp only [if_neg e2];exact h.apart u1 u2 k h1 h2 ay hk
theorem aq6{v:Value}{l:List Int}(h:w.ownsRow base e 1 v l.length (l.map (Value.int .i64)))(hl:∀x∈l,I64 x):SlAt (fun b=>base<=b) w 1 acx v l:=by
 obtain⟨h1,h2⟩:=h;rcases h2 with⟨rfl,h2⟩ | ⟨g,cap,cur,rfl,hg,hh,hn,hm,hs,ht⟩
 . have:l=[]:=Aa9 h2
   subst this;exact⟨none,0,rfl,Aac _,by omega,fun h=>absurd rfl h⟩
 . refine⟨_,cap,rfl,hn,by unfold maxLen at hm;exact hm,fun _=>⟨g,0,rfl,hg,fun i x hx=>⟨[.int .i64 x],⟨rfl,hl x (Aae hx)⟩,rfl,?_⟩⟩⟩
   refine .cons ?_ (.nil _ _ _);have h3:(l.map (Value.int .i64))[i]?=some (.int .i64 x):=by rw [Aak,hx];rfl
   rw [<-ht,Abd,Abh] at h3;have hi:i<l.length:=(Aad.1 hx).1;rw [if_pos hi] at h3;simp only [World.cell?,hh,Aab,Abd];simpa using h3
theorem ah5{size:Nat}{v:Value}{xs:List Value}(h:w.ownsRow base e size v (n+1) xs):∃g cap,v = .slice (some ⟨g,0,none⟩) (n+1) cap∧base<=g∧g<w.heap.size:=by
 obtain⟨h1,h2⟩:=h;rcases h2 with⟨-,h2⟩ | ⟨g,cap,cur,rfl,hg,hh,-⟩
 . omega
 . refine⟨g,cap,rfl,hg,?_⟩
   rcases Abm g w.heap.size with h3 | h3
   . exact h3
   . rw [Array.getElem?_eq_none h3] at hh;cases hh
def Tab(w wr:World)(O:Nat)(T e:TypeId)(n:Nat)(R:Nat->List Int):Prop :=
 w.heap.size<=O∧O<wr.heap.size∧Below w.heap.size w wr∧∃V,wr.rowIs O T n V∧Fam wr (O+1) e n V (fun t=>(R t).map (Value.int .i64))
variable {wr:World}{O:Nat}{T:TypeId}
theorem Tab.alloc{R:Nat->List Int}(h:Tab w wr O T e n R)(o:Obj):Tab w (wr.alloc o) O T e n R:=by
 obtain⟨h1,h2,h3,V,h4,h5⟩:=h;exact⟨h1,by simp;omega,h3.alloc (by omega) _,V,h4.alloc _,h5.alloc _⟩
theorem Tab.congr{R R':Nat->List Int}(h:Tab w wr O T e n R)(hr:∀t,t<n->R t=R' t):Tab w wr O T e n R':=by
 obtain⟨h1,h2,h3,V,h4,h5⟩:=h;exact⟨h1,h2,h3,V,h4,⟨fun t ht=>by rw [<-hr t ht];exact h5.own t ht,h5.apart⟩⟩
theorem Tab.push{w1:World}    {R : Nat -> List Int} {V : Nat -> Value} (h1 : w.heap.size <= O) (h2 : O < wr.heap.size) (h3 : Below w.heap.size w wr)
 (h4:wr.rowIs O T n V) (h5:Fam wr (O+1) e n V (fun t=>(R t).map (Value.int .i64)))  (ht:t<n) {v':Value}  (o:Obj)
 (ho:w1.ownsRow (O+1) e 1 v' (((R t).map (Value.int .i64)).length+1) ((R t).map (Value.int .i64)++[.int .i64 x])) (hg:(wr.alloc o).grownBy w1 (V t).ownBlock)
 (hb:v'.ownBlock=(V t).ownBlock∨v'.ownBlock=some (wr.alloc o).heap.size) :
 w1.cell? ⟨O,t,none⟩=some (V t)∧w1.frozen? ⟨O,t,none⟩=false∧Tab w (w1.setCell ⟨O,t,none⟩ v') O T e n (fun u=>if u=t then R t++[x] else R u):=by
 have ay:some O≠(V t).ownBlock:=fun e=>by have:=((h5.own t ht).lt O e.symm).1;omega
 have hblk:w1.heap[O]?=(wr.alloc o).heap[O]?:=hg.block O (by simp;omega) ay;have ao:w1.rowIs O T n V:=(h4.alloc o).of_block hblk;have aC:=hg.size;simp at aC;refine⟨ao.cell ht,ao.frozen t,h1,by simp [World.setCell];omega,?_,_,ao.set t v',?_⟩
 . refine Below.setCell ((h3.alloc (by omega) o).grown hg (by simp;omega) (fun k hk=>by have:=((h5.own t ht).lt k hk).1;omega)) ?_ _
   exact h1
 . have hf:=(h5.alloc o).push ht ho hg hb
   have aA:=hf.setBelow (a:=⟨O,t,none⟩) (Nat.lt_succ_self O) v';refine⟨fun u hu=>?_,aA.apart⟩;have:=aA.own u hu
   by_cases hut:u=t
   . subst hut;simpa using this
   . simpa [hut] using this
theorem Tab.done{R:Nat->List Int}(h:Tab w wr O T e n R)(hn:n<=1048576)(hR:∀t,t<n->∀x∈R t,I64 x) :
 SlAt (fun b=>w.heap.size<=b) wr 1 rRow (.slice (some ⟨O,0,none⟩) n n) ((List.range n).map R):=by
 obtain⟨h1,h2,h3,V,h4,h5⟩:=h;refine⟨_,n,by simp,by simp,by omega,fun _=>⟨O,0,rfl,h1,fun i x hx=>?_⟩⟩;have hi:i<n:=by have:=(Aad.1 hx).1;simpa using this
 have aQ:x=R i:=by rw [Aak,Ab8 hi] at hx;simpa using hx.symm
 subst aQ;refine⟨[V i],⟨V i,rfl,?_⟩,rfl,.cons (by simpa using h4.cell hi) (.nil _ _ _)⟩;have h6:=h5.own i hi;rw [Aah] at h6;exact (aq6 h6 (hR i hi)).mono aaw (fun b hb=>by omega) (aaS.refl _ _)
end
section
open Go.RowKit
theorem apt(to:List Int)(t i:Nat):(ae8 to t i).length<=to.length:=by
 unfold ae8;rw [Aah];exact Aci _ _
theorem afq (t : Nat) : ∀ (l : List DBlock) (s : Nat), (∀ x ∈ l, x.fin.to.length <= 2) -> (aaf l s t).length <= 2 * l.length
 | [],_,_=>by simp [aaf]
 | b :: r,s,h=>by
   have h1:=afq t r (s+1) (fun x hx=>h x (by simp [hx]));have h2:=apt b.fin.to t s;have h3:=h b (by simp);simp only [aaf,Aau,Aba];omega
theorem apu {S:Nat->Prop}{w:World}{a:Option Addr}{n c:Nat}{l:List Int}(h:SlAt S w 1 acx (.slice a n c) l){t:Nat}(ht:t<l.length):∃b off,a=some ⟨b,off,none⟩∧w.cell? ⟨b,off+t,none⟩=some (.int .i64 l[t]):=by
 obtain⟨b,off,cs,ha,-,⟨rfl,-⟩,-,af⟩:=h.get ht;have d:=af.get1;rw [Abd] at d;exact⟨b,off,ha,d⟩
end
end Go.Proofs.YtpeejlpcikefcaaGreatDoor
