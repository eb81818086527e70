import Derived.Test.YtgekbfgplclmeaaDoorPEq
import Derived.Deep.OwnRows
/- Contracts of the three closures of the checker's ins, and of code.first over them. The contract of the checker's phi. Whence one comes: plain lists; and a family of rows that the call itself owns. graph.Post, in plain Lean: blocks as a search in depth leaves them. -/
set_option maxHeartbeats 1000000
namespace Go.Proofs.YtgekbfgplclmeaaDoor
section
open Go.RowKit
theorem aj9 (cb xb : Nat) (g f nm ps : Value) (regs : Int) (ba : Option Addr) (bn bc : Nat) (aa : Option Addr) (an ac : Nat) (v : ab3) (w : World) (h0 : 0 <= regs) (h1 : regs <= 100)
 (ga:Option Addr) (gn gc:Nat) (fa:Option Addr) (fn fc:Nat) (s:ByteArray) (p:Int) (hg:g = .slice ga gn gc) (hf:f = .slice fa fn fc) (ay:nm = .string s) (az:ps = .int .i64 p)
 (hc:aaj w cb 0 [g,f,nm,ps,.int .i64 regs,.slice ba bn bc,.slice aa an ac]) (hr:w.cell? ⟨xb,2,none⟩=some (.bool v.reg)) (hn:w.cell? ⟨xb,3,none⟩=some (.int .i64 v.n)) :
 Calls Tryd.prog 92 #[.pointer (some ⟨cb,0,none⟩),.pointer (some ⟨xb,0,none⟩)] w fun e w'=>e = .returned (.int .i64 (abr regs v))∧Below w.heap.size w w':=by
 subst hg hf ay az;obtain⟨c0,c1,c2,c3,c4,c5,c6⟩:=hc.get7;simp only [Aac] at c1 c2 c3 c4 c5 c6;clear hc;go_enter Tryd.func92,Tryd.ntmps92;go_wp2_with (go_at_call 89;((with_reducible refine (abD _ _ _ _ _ _ _ _ _ _ h0 h1).mono ?_);rintro e w1 ⟨rfl,ad⟩));go_ret;exact⟨rfl,bE1 ad⟩
theorem aka (cb xb : Nat) (g f nm ps : Value) (regs : Int) (ba : Option Addr) (bn bc : Nat) (aa : Option Addr) (an ac : Nat) (v : ab3) (w : World) (h0 : 0 <= regs) (h1 : regs <= 100)
 (ga:Option Addr) (gn gc:Nat) (fa:Option Addr) (fn fc:Nat) (s:ByteArray) (p:Int) (hg:g = .slice ga gn gc) (hf:f = .slice fa fn fc) (ay:nm = .string s) (az:ps = .int .i64 p)
 (hc:aaj w cb 0 [g,f,nm,ps,.int .i64 regs,.slice ba bn bc,.slice aa an ac]) (hr:w.cell? ⟨xb,4,none⟩=some (.bool v.reg)) (hn:w.cell? ⟨xb,5,none⟩=some (.int .i64 v.n)) :
 Calls Tryd.prog 93 #[.pointer (some ⟨cb,0,none⟩),.pointer (some ⟨xb,0,none⟩)] w fun e w'=>e = .returned (.int .i64 (abr regs v))∧Below w.heap.size w w':=by
 subst hg hf ay az;obtain⟨c0,c1,c2,c3,c4,c5,c6⟩:=hc.get7;simp only [Aac] at c1 c2 c3 c4 c5 c6;clear hc;go_enter Tryd.func93,Tryd.ntmps93;go_wp2_with (go_at_call 89;((with_reducible refine (abD _ _ _ _ _ _ _ _ _ _ h0 h1).mono ?_);rintro e w1 ⟨rfl,ad⟩));go_ret;exact⟨rfl,bE1 ad⟩
theorem ahm(regs:Int)(v:ab3):abr regs v=0∨abr regs v=3:=by unfold abr;split <;> simp
def aer(regs:Int)(l:List ab3):Int:=if l.any (fun v=>decide (abr regs v≠0)) then 3 else 0
theorem afb {regs:Int}{l:List ab3}(h:∀j:Nat,∀x,l[j]?=some x->abr regs x=0):aer regs l=0:=by
 unfold aer;rw [if_neg];intro h';obtain⟨x,hx,hv⟩:=List.any_eq_true.1 h';obtain⟨j,hj⟩:=List.getElem?_of_mem hx;exact of_decide_eq_true hv (h j x hj)
theorem agc {regs:Int}{l:List ab3}{j:Nat}{x:ab3}(h:l[j]?=some x)(hv:abr regs x≠0):aer regs l=abr regs x:=by
 unfold aer;rw [if_pos (List.any_eq_true.2 ⟨x,Aah h,decide_eq_true hv⟩)];rcases ahm regs x with h | h
 . exact absurd h hv
 . exact h.symm
def abS(fs:List aal)(regs:Int)(x:abo):Int :=
 if x.op≠20 then 0
 else if ¬(0<=x.fn∧x.fn<=(fs.length:Int) - 1) then 3
 else if (x.args.length:Int)≠(fs.getD x.fn.toNat ⟨ByteArray.empty,0,0,[]⟩).params then 9
 else aer regs x.args
theorem akb {S S' : Nat -> Prop} (cb xb kb : Nat) (g nm ps : Value) (fs : List aal) (regs : Int) (ba : Option Addr) (bn bc : Nat) (aa : Option Addr) (an ac : Nat) (x : abo) (w : World) (h0 : 0 <= regs) (h1 : regs <= 100)
 (ga:Option Addr) (gn gc:Nat) (fa:Option Addr) (fc:Nat) (ra:Option Addr) (rc:Nat) (s:ByteArray) (p:Int) (hg:g = .slice ga gn gc) (ay:nm = .string s) (az:ps = .int .i64 p)
 (hc:aaj w cb 0 [g,.slice fa fs.length fc,nm,ps,.int .i64 regs,.slice ba bn bc,.slice aa an ac])
 (hk:w.cell? ⟨kb,0,none⟩=some (.bool (decide (x.op=20))))
 (aY:w.cell? ⟨xb,6,none⟩=some (.int .i64 x.fn)) (bm:w.cell? ⟨xb,7,none⟩=some (.slice ra x.args.length rc))
 (aO:SlAt S w 4 abT (.slice fa fs.length fc) fs) (has:SlAt S' w 2 aeL (.slice ra x.args.length rc) x.args) (bq:fs.length<=1048576) :
 Calls Tryd.prog 94 #[.pointer (some ⟨kb,0,none⟩),.pointer (some ⟨xb,0,none⟩),.pointer (some ⟨cb,0,none⟩)] w fun e w' =>
  e = .returned (.int .i64 (abS fs regs x))∧Below w.heap.size w w':=by
 subst hg ay az;have Hc:=hid hc;obtain⟨c0,c1,c2,c3,c4,c5,c6⟩:=hc.get7;simp only [Aac] at c1 c2 c3 c4 c5 c6;have aS:=hid aO;have Has:=hid has;obtain⟨_,_,aD,aT⟩:=has.val;cases aD;clear hc aO has
 by_cases hop:x.op=20
 case neg =>
  have Hr:=hid (show abS fs regs x=0 by simp [abS,hop]);rw [decide_eq_false hop] at hk;clear hop;go_enter Tryd.func94,Tryd.ntmps94;go_wp2_with fail;go_ret;exact⟨aaq Hr.out.symm,bE⟩
 rw [decide_eq_true hop] at hk
 by_cases hin:0<=x.fn∧x.fn<=(fs.length:Int) - 1
 case neg =>
  have Hr:=hid (show abS fs regs x=3 by simp only [abS,hop,hin];simp);clear hop;go_enter Tryd.func94,Tryd.ntmps94;go_wp2_with (go_at_call 20;((with_reducible refine (aah _ _ _ _).mono ?_);rintro e w' ⟨rfl,rfl⟩));go_ret;exact⟨aaq Hr.out.symm,bE⟩
 obtain⟨n,hn⟩:=Aao hin.1;have aP:n<fs.length:=by omega
 obtain⟨b,off,cs,rfl,-,hx,-,ai⟩:=aS.out.get aP;obtain⟨bk,bl,rfl,-,-,a1,-⟩:=hx.opens;obtain⟨d0,d1,d2,d3⟩:=ai.get4;have aw:(fs.getD x.fn.toNat ⟨ByteArray.empty,0,0,[]⟩).params=fs[n].params:=by
  rw [hn,Aag,Aab,Aaa aP];rfl
 have au:=hid aw;have aL:=hid hop;have aK:=hid hin;have Hn:=hid hn;rw [hn] at aY;clear aw hop hin hn ai hx;unfold I64 at a1
 by_cases hlen:(x.args.length:Int)=fs[n].params
 case neg =>
  have Hr:=hid (show abS fs regs x=9 by simp only [abS,aL.out,aK.out,au.out];simp [hlen]);have ax:(x.args.length:Int)<fs[n].params∨fs[n].params<(x.args.length:Int):=by omega
  clear hlen;go_enter Tryd.func94,Tryd.ntmps94;go_wp2_with (go_at_call 20;((with_reducible refine (aah _ _ _ _).mono ?_);rintro e w' ⟨rfl,rfl⟩));go_quiet (fail);go_wp2_with fail;go_ret;exact⟨aaq Hr.out.symm,bE⟩
 have Hr:=hid (show abS fs regs x=aer regs x.args by simp only [abS,aL.out,aK.out,au.out];simp [hlen]);have hq:(decide ((n:Int)<=(fs.length:Int) - 1))=true:=by rw [decide_eq_true_iff];omega
 have bt:(x.args.length:Int)<=fs[n].params:=by omega
 have bu:fs[n].params<=(x.args.length:Int):=by omega
 clear hlen;go_enter Tryd.func94,Tryd.ntmps94;go_wp2_with (go_at_call 20;((with_reducible refine (aah _ _ _ _).mono ?_);rintro e w' ⟨rfl,rfl⟩));go_quiet (fail);go_wp2_with fail;go_loopw [36] (fun i wr=>∃k:Nat,k<=x.args.length∧i = .int .i64 k∧(∀j,j<k->∀y,x.args[j]?=some y->abr regs y=0)∧Below w.heap.size w wr) (fun i _=>x.args.length - (intOf i).toNat)
 case atStart=>exact⟨0,Aaf _,rfl,fun j hj=>by omega,bE⟩
 case round =>
  obtain⟨k,hk,rfl,ag,ak⟩:=hrel;have af:=hid ag;have al:=hid ak;clear ag ak
  by_cases aj:k<x.args.length
  . obtain⟨b2,aJ,cs,rfl,-,⟨rfl,-⟩,-,ai⟩:=(Has.out.later aap al.out).get aj
    obtain⟨e0,e1⟩:=ai.get2;clear ai;obtain⟨g0,g1,g2,g3,g4,g5,g6⟩:=(Hc.out.later al.out).get7;simp only [Aac] at g1 g2 g3 g4 g5 g6;have bp:=aac g0;have aH:=al.out.size
    by_cases hv:abr regs x.args[k]=0
    . go_wp2_with (go_at_call 89;((with_reducible refine (abD _ _ _ _ _ _ _ _ _ _ h0 h1).mono ?_);rintro e w1 ⟨rfl,ad⟩))
      go_roundw
      case rel=>exact⟨k+1,by omega,by go_num,aa6 af.out (fun y hy=>by rw [Aaa aj] at hy;cases hy;exact hv),by have h:=al.out;exact bE2 ad h⟩
      case measure=>simp [intOf];omega
    . have Ha:=hid (agc (Aaa aj) hv)
      have aI:abr regs x.args[k]=3:=(ahm _ _).resolve_left hv;go_wp2_with (go_at_call 89;((with_reducible refine (abD _ _ _ _ _ _ _ _ _ _ h0 h1).mono ?_);rintro e w1 ⟨rfl,ad⟩));go_ret;exact⟨aaq (by rw [Hr.out,Ha.out,aI]),by have h:=al.out;exact bE2 ad h⟩
  . have Ha:=hid (afb (regs:=regs) (l:=x.args) (fun j y hy=>af.out j (by have:=(Aae.1 hy).1;omega) y hy))
    go_wp2_with fail;go_ret;exact⟨aaq (by rw [Hr.out,Ha.out]),by have h:=al.out;exact bE1 h⟩
end
section
open Go.RowKit
def rRow:Rp (List Int):=fun S w cs l=>∃v,cs=[v]∧SlAt S w 1 abe v l
theorem aau:rRow.Mono:=⟨fun _ _ _ _ _ _ hS hw ⟨v,h1,h2⟩=>⟨v,h1,h2.mono aaf hS hw⟩⟩
theorem aiK(regs n:Int):ae3 regs n=0∨ae3 regs n=3:=by unfold ae3;split <;> simp
def afQ(regs:Int)(block:Nat)(ahead:List (List Int))(p:adO):Int :=
 if block=0 then 5
 else if ae3 regs p.dst≠0 then 3
 else if p.src.length≠(ahead.getD block []).length then 9
 else aer regs p.src
theorem ajf {S S' : Nat -> Prop} (ga : Option Addr) (gn gc : Nat) (fa : Option Addr) (fn fc : Nat) (s : ByteArray) (p regs : Int) (ba : Option Addr) (bn bc : Nat) (aa : Option Addr) (ac : Nat) (ahead : List (List Int)) (x : adO) (ra : Option Addr) (rc : Nat) (k : Nat) (w : World)
 (h0:0<=regs) (h1:regs<=100) (av:SlAt S w 1 rRow (.slice aa ahead.length ac) ahead) (has:SlAt S' w 2 aeL (.slice ra x.src.length rc) x.src) (hk:k<ahead.length) (_hal:ahead.length<=1048576) :
 Calls Tryd.prog 66 #[.agg #[.slice ga gn gc,.slice fa fn fc,.string s,.int .i64 p,.int .i64 regs,.slice ba bn bc,.slice aa ahead.length ac],.int .i64 k,.agg #[.int .i64 x.dst,.slice ra x.src.length rc]] w fun e w' =>
  e = .returned (.int .i64 (afQ regs k ahead x))∧Below w.heap.size w w':=by
 have Has:=hid has;obtain⟨_,_,aD,aT⟩:=has.val;cases aD;have bh:=hid av;clear has
 by_cases hk0:k=0
 . subst hk0
   have Hr:=hid (show afQ regs 0 ahead x=5 by simp [afQ]);clear av;go_enter Tryd.func66,Tryd.ntmps66;go_wp2_with fail;go_ret;exact⟨aaq Hr.out.symm,bE⟩
 have br:(0:Int)<k:=by omega
 have aB:=hid hk0;clear hk0
 by_cases hd:ae3 regs x.dst=0
 case neg =>
  have aW:ae3 regs x.dst=3:=(aiK _ _).resolve_left hd;have Hr:=hid (show afQ regs k ahead x=3 by simp only [afQ,aB.out,aW];simp);clear av hd;go_enter Tryd.func66,Tryd.ntmps66;go_wp2_with (go_at_call 90;((with_reducible refine (aex _ _ _ _ _ _ _ _ _ h0 h1).mono ?_);rintro e w1 ⟨rfl,ad⟩));go_ret;exact⟨aaq Hr.out.symm,bE1 ad⟩
 obtain⟨b,off,cs,rfl,-,⟨v,rfl,hv⟩,-,ai⟩:=av.get hk;obtain⟨va,vc,rfl,bw⟩:=hv.val;have ae:=ai.get1;have ak:=aac ae;simp only [Aam] at ae;have aw:ahead.getD k []=ahead[k]:=by rw [Aab,Aaa hk];rfl
 have au:=hid aw;clear av ai hv aw
 by_cases hlen:x.src.length=ahead[k].length
 case neg =>
  have Hr:=hid (show afQ regs k ahead x=9 by simp only [afQ,aB.out,hd,au.out];simp [hlen]);have ax:(x.src.length:Int)<ahead[k].length∨(ahead[k].length:Int)<x.src.length:=by omega
  clear hlen;go_enter Tryd.func66,Tryd.ntmps66;go_wp2_with (go_at_call 90;((with_reducible refine (aex _ _ _ _ _ _ _ _ _ h0 h1).mono ?_);rintro e w1 ⟨rfl,ad⟩;obtain⟨aV,aX⟩:=aao ad;have bg:w.heap.size+1<w1.heap.size:=(by have:=ad.size;simp at this;omega);have bf:w.heap.size<w1.heap.size:=(by omega);have ao:=aab ae (Below.trans bE (ad.mono (by simp;omega)))));go_quiet (fail);go_wp2_with fail;go_ret;exact⟨aaq Hr.out.symm,bE1 ad⟩
 have Hr:=hid (show afQ regs k ahead x=aer regs x.src by simp only [afQ,aB.out,hd,au.out];simp [hlen]);have hq:=ami hlen;clear hlen;go_enter Tryd.func66,Tryd.ntmps66;go_wp2_with (go_at_call 90;((with_reducible refine (aex _ _ _ _ _ _ _ _ _ h0 h1).mono ?_);rintro e w1 ⟨rfl,ad⟩;obtain⟨aV,aX⟩:=aao ad;have bg:w.heap.size+1<w1.heap.size:=(by have:=ad.size;simp at this;omega);have bf:w.heap.size<w1.heap.size:=(by omega);have ao:=aab ae (Below.trans bE (ad.mono (by simp;omega)))));go_quiet (fail);go_wp2_with fail;go_loopw [33] (fun i wr=>∃k:Nat,k<=x.src.length∧i = .int .i64 k∧(∀j,j<k->∀y,x.src[j]?=some y->abr regs y=0)∧Below (w.heap.size+2) w1 wr) (fun i _=>x.src.length - (intOf i).toNat)
 case atStart=>exact⟨0,Aaf _,rfl,fun j hj=>by omega,bE⟩
 case round =>
  obtain⟨k',hk,rfl,ag,ak⟩:=hrel;have af:=hid ag;have aQ:Below w.heap.size w wr:=((bE:Below w.heap.size w ((w.alloc (.cells #[.slice ga gn gc,.slice fa fn fc,.string s,.int .i64 p,.int .i64 regs,.slice ba bn bc,.slice (some ⟨b,off,none⟩) ahead.length ac] 112)).alloc (.cells #[.int .i64 x.dst,.slice ra x.src.length rc] 93)))).trans ((ad.mono (by simp;omega)).trans (ak.mono (by omega)));have aC:=hid aQ;have al:=hid ak;obtain⟨bo,aG⟩:=aao ak;have aH:=ak.size;have a7:w.heap.size<wr.heap.size:=by omega
  have a8:w.heap.size+1<wr.heap.size:=by omega
  clear ag aQ ak
  by_cases aj:k'<x.src.length
  . obtain⟨b2,aJ,cs,rfl,-,⟨rfl,-⟩,-,ai⟩:=(Has.out.later aap aC.out).get aj
    obtain⟨e0,e1⟩:=ai.get2;have aN:=aac e0;clear ai;have bj:=hid e0
    by_cases hv:abr regs x.src[k']=0
    . go_wp2_with (go_at_call 89;((with_reducible refine (abD _ _ _ _ _ _ _ _ _ _ h0 h1).mono ?_);rintro e w2 ⟨rfl,aE⟩))
      go_roundw
      case rel=>exact⟨k'+1,by omega,by go_num,aa6 af.out (fun y hy=>by rw [Aaa aj] at hy;cases hy;exact hv),by have h:=al.out;exact bE2 aE h⟩
      case measure=>simp [intOf];omega
    . have Ha:=hid (agc (Aaa aj) hv)
      have aI:abr regs x.src[k']=3:=(ahm _ _).resolve_left hv;go_wp2_with (go_at_call 89;((with_reducible refine (abD _ _ _ _ _ _ _ _ _ _ h0 h1).mono ?_);rintro e w2 ⟨rfl,aE⟩));go_ret;exact⟨aaq (by rw [Hr.out,Ha.out,aI]),by have h:=aC.out;exact bE2 aE h⟩
  . have Ha:=hid (afb (regs:=regs) (l:=x.src) (fun j y hy=>af.out j (by have:=(Aae.1 hy).1;omega) y hy))
    go_wp2_with fail;go_ret;exact⟨aaq (by rw [Hr.out,Ha.out]),by have h:=aC.out;exact bE1 h⟩
end
section
open Go.RowKit
def ae1(to:List Int)(t:Nat)(i:Nat):List Int:=(to.filter fun x:Int=>decide (x=(t:Int))).map fun _=>(i:Int)
def aag : List aad -> Nat -> Nat -> List Int
 | [],_,_=>[]
 | b :: r,s,t=>ae1 b.fin.to t s++aag r (s+1) t
def aheadF(l:List aad):List (List Int):=(List.range l.length).map fun t=>aag l 0 t
theorem ae4(l r:List aad)(s t:Nat):aag (l++r) s t=aag l s t++aag r (s+l.length) t:=by
 induction l generalizing s with
 | nil=>simp [aag]
 | cons b l ih=>simp only [List.cons_append,aag,ih,Aa9,Aaq];rw [show s+1+l.length=s+(l.length+1) by omega]
theorem ad9(l:List aad)(k t:Nat)(h:k<l.length):aag (l.take (k+1)) 0 t=aag (l.take k) 0 t++ae1 l[k].fin.to t k:=by
 rw [Aaz h,ae4];simp [aag,List.length_take,Nat.min_eq_left (Nat.le_of_lt h)]
theorem agr(to:List Int)(j t i:Nat)(h:j<to.length):ae1 (to.take (j+1)) t i=ae1 (to.take j) t i++if to[j]=(t:Int) then [(i:Int)] else []:=by
 unfold ae1;rw [Aaz h,List.filter_append,Aat]
 congr 1
 by_cases hc:to[j]=(t:Int) <;> simp [hc]
theorem afG(to:List Int)(t i:Nat):(ae1 to t i).length<=to.length:=by
 unfold ae1;rw [Aal];exact List.length_filter_le _ _
theorem afn(l:List aad)(m:Nat)(h:∀(i:Nat) (x:aad),l[i]?=some x->x.fin.to.length<=m)(k s t:Nat):(aag (l.take k) s t).length<=m * l.length:=by
 induction l generalizing k s with
 | nil=>simp [aag]
 | cons b l ih =>
   cases k with
   | zero=>simp [aag]
   | succ k =>
     have h1:=ih (fun i x hx=>h (i+1) x hx) k (s+1);have h2:=afG b.fin.to t s;have h3:=h 0 b rfl;simp only [Abi,aag,Aak,Aaq,Nat.mul_add,Aam];omega
variable {t:Nat}{x:Int}
theorem ahv{to:List Int}{i:Nat}(h:x∈ae1 to t i):x=i:=by
 unfold ae1 at h;obtain⟨_,_,h⟩:=List.mem_map.1 h;exact h.symm
theorem acx{l:List aad}{s:Nat}(h:x∈aag l s t):0<=x∧x<s+l.length:=by
 induction l generalizing s with
 | nil=>simp [aag] at h
 | cons b l ih =>
   simp only [aag,Aaw] at h;rcases h with h | h
   . have:=ahv h;simp only [Aaq];omega
   . have:=ih h;simp only [Aaq];omega
structure Fam (w:World)(base:Nat)(e:TypeId)(n:Nat)(V:Nat->Value)(R:Nat->List Value):Prop where
 own:∀t,t<n->w.ownsRow base e 1 (V t) (R t).length (R t)
 apart:∀t u k,t<n->u<n->t≠u->(V t).ownBlock=some k->(V u).ownBlock≠some k
variable {w:World}{base n:Nat}{e:TypeId}{V:Nat->Value}{R:Nat->List Value}
theorem Fam.grown{w':World}(h:Fam w base e n V R)(hg:w.grownBy w' none):Fam w' base e n V R :=
 ⟨fun t ht=>(h.own t ht).kept hg (by cases (V t).ownBlock <;> simp),h.apart⟩
theorem Fam.alloc(h:Fam w base e n V R)(o:Obj):Fam (w.alloc o) base e n V R :=
 h.grown (World.grownBy_alloc _ _ _)
theorem Fam.setBelow(h:Fam w base e n V R){a:Addr}(ha:a.block<base)(u:Value):Fam (w.setCell a u) base e n V R :=
 ⟨fun t ht=>ownsRow_setCell_below (h.own t ht) ha u,h.apart⟩
theorem Fam.push{w':World}    {V : Nat -> Value} {R : Nat -> List Value} (h : Fam w base e n V R)  (ht : t < n) {v' : Value} {x : Value}
 (ho:w'.ownsRow base e 1 v' ((R t).length+1) (R t++[x])) (hg:w.grownBy w' (V t).ownBlock) (hb:v'.ownBlock=(V t).ownBlock∨v'.ownBlock=some w.heap.size) :
 Fam w' base e n (fun u=>if u=t then v' else V u) (fun u=>if u=t then R t++[x] else R u):=by
 have aj:∀u k,u<n->(V u).ownBlock=some k->k<w.heap.size:=fun u k hu hk=>((h.own u hu).lt k hk).2;refine⟨fun u hu=>?_,fun u1 u2 k h1 h2 aA hk=>?_⟩
 . by_cases hut:u=t
   . subst hut;simp only [if_true];rw [Aak];exact ho
   . simp only [if_neg hut]
     refine (h.own u hu).kept hg ?_;cases hu':(V u).ownBlock with
     | none=>exact .inl rfl
     | some k=>exact .inr (fun e=>h.apart u t k hu ht hut hu' e.symm)
 . by_cases e1:u1=t
   . have e2:u2≠t:=fun e=>aA (e1.trans e.symm)
     simp only [if_pos e1] at hk;simp only [if_neg e2];intro aM;rcases hb with hb | hb
     . rw [hb] at hk;exact h.apart t u2 k ht h2 (fun e=>e2 e.symm) hk aM
     . rw [hb] at hk;cases hk;have:=aj u2 _ h2 aM;omega
   . simp only [if_neg e1] at hk
     by_cases e2:u2=t
     . simp only [if_pos e2]
       rcases hb with hb | hb
       . rw [hb];exact h.apart u1 t k h1 ht e1 hk
       . rw [hb];intro e;cases e;have:=aj u1 _ h1 hk;omega
     . simp only [if_neg e2];exact h.apart u1 u2 k h1 h2 aA hk
theorem akl{v:Value}{l:List Int}(h:w.ownsRow base e 1 v l.length (l.map (Value.int .i64)))(hl:∀x∈l,I64 x):SlAt (fun b=>base<=b) w 1 abe v l:=by
 obtain⟨h1,h2⟩:=h;rcases h2 with⟨rfl,h2⟩ | ⟨g,cap,cur,rfl,hg,hh,hn,hm,hs,ht⟩
 . have:l=[]:=Abm h2
   subst this;exact⟨none,0,rfl,Aad _,by omega,fun h=>absurd rfl h⟩
 . refine⟨_,cap,rfl,hn,by unfold maxLen at hm;exact hm,fun _=>⟨g,0,rfl,hg,fun i x hx=>⟨[.int .i64 x],⟨rfl,hl x (Aah hx)⟩,rfl,?_⟩⟩⟩
   refine .cons ?_ (.nil _ _ _);have h3:(l.map (Value.int .i64))[i]?=some (.int .i64 x):=by rw [Aap,hx];rfl
   rw [<-ht,Aam,List.getElem?_take] at h3;have hi:i<l.length:=(Aae.1 hx).1;rw [if_pos hi] at h3;simp only [World.cell?,hh,Aac,Aam];simpa using h3
theorem aeG{size:Nat}{v:Value}{xs:List Value}(h:w.ownsRow base e size v (n+1) xs):∃g cap,v = .slice (some ⟨g,0,none⟩) (n+1) cap∧base<=g∧g<w.heap.size:=by
 obtain⟨h1,h2⟩:=h;rcases h2 with⟨-,h2⟩ | ⟨g,cap,cur,rfl,hg,hh,-⟩
 . omega
 . refine⟨g,cap,rfl,hg,?_⟩
   rcases Nat.lt_or_ge g w.heap.size with h3 | h3
   . exact h3
   . rw [Array.getElem?_eq_none h3] at hh;cases hh
def Tab(w wr:World)(O:Nat)(T e:TypeId)(n:Nat)(R:Nat->List Int):Prop :=
 w.heap.size<=O∧O<wr.heap.size∧Below w.heap.size w wr∧∃V,wr.rowIs O T n V∧Fam wr (O+1) e n V (fun t=>(R t).map (Value.int .i64))
variable {wr:World}{O:Nat}{T:TypeId}
theorem Tab.alloc{R:Nat->List Int}(h:Tab w wr O T e n R)(o:Obj):Tab w (wr.alloc o) O T e n R:=by
 obtain⟨h1,h2,h3,V,h4,h5⟩:=h;exact⟨h1,by simp;omega,h3.alloc (by omega) _,V,h4.alloc _,h5.alloc _⟩
theorem Tab.congr{R R':Nat->List Int}(h:Tab w wr O T e n R)(hr:∀t,t<n->R t=R' t):Tab w wr O T e n R':=by
 obtain⟨h1,h2,h3,V,h4,h5⟩:=h;exact⟨h1,h2,h3,V,h4,⟨fun t ht=>by rw [<-hr t ht];exact h5.own t ht,h5.apart⟩⟩
theorem Tab.push{w1:World}    {R : Nat -> List Int} {V : Nat -> Value} (h1 : w.heap.size <= O) (h2 : O < wr.heap.size) (h3 : Below w.heap.size w wr)
 (h4:wr.rowIs O T n V) (h5:Fam wr (O+1) e n V (fun t=>(R t).map (Value.int .i64)))  (ht:t<n) {v':Value}  (o:Obj)
 (ho:w1.ownsRow (O+1) e 1 v' (((R t).map (Value.int .i64)).length+1) ((R t).map (Value.int .i64)++[.int .i64 x])) (hg:(wr.alloc o).grownBy w1 (V t).ownBlock)
 (hb:v'.ownBlock=(V t).ownBlock∨v'.ownBlock=some (wr.alloc o).heap.size) :
 w1.cell? ⟨O,t,none⟩=some (V t)∧w1.frozen? ⟨O,t,none⟩=false∧Tab w (w1.setCell ⟨O,t,none⟩ v') O T e n (fun u=>if u=t then R t++[x] else R u):=by
 have aA:some O≠(V t).ownBlock:=fun e=>by have:=((h5.own t ht).lt O e.symm).1;omega
 have aF:w1.heap[O]?=(wr.alloc o).heap[O]?:=hg.block O (by simp;omega) aA;have aq:w1.rowIs O T n V:=(h4.alloc o).of_block aF;have aH:=hg.size;simp at aH;refine⟨aq.cell ht,aq.frozen t,h1,by simp [World.setCell];omega,?_,_,aq.set t v',?_⟩
 . refine Below.setCell ((h3.alloc (by omega) o).grown hg (by simp;omega) (fun k hk=>by have:=((h5.own t ht).lt k hk).1;omega)) ?_ _
   exact h1
 . have hf:=(h5.alloc o).push ht ho hg hb
   have aG:=hf.setBelow (a:=⟨O,t,none⟩) (Aa8 O) v';refine⟨fun u hu=>?_,aG.apart⟩;have:=aG.own u hu
   by_cases hut:u=t
   . subst hut;simpa using this
   . simpa [hut] using this
theorem Tab.done{R:Nat->List Int}(h:Tab w wr O T e n R)(hn:n<=1048576)(hR:∀t,t<n->∀x∈R t,I64 x) :
 SlAt (fun b=>w.heap.size<=b) wr 1 rRow (.slice (some ⟨O,0,none⟩) n n) ((List.range n).map R):=by
 obtain⟨h1,h2,h3,V,h4,h5⟩:=h;refine⟨_,n,by simp,by simp,by omega,fun _=>⟨O,0,rfl,h1,fun i x hx=>?_⟩⟩;have hi:i<n:=by have:=(Aae.1 hx).1;simpa using this
 have be:x=R i:=by rw [Aap,Abg hi] at hx;simpa using hx.symm
 subst be;refine⟨[V i],⟨V i,rfl,?_⟩,rfl,.cons (by simpa using h4.cell hi) (.nil _ _ _)⟩;have h6:=h5.own i hi;rw [Aal] at h6;exact (akl h6 (hR i hi)).mono aaf (fun b hb=>by omega) (aaD.refl _ _)
end
section
def adJ(bs:List aad)(b:Nat):List Int:=match bs[b]? with | some x=>x.fin.to | none=>[]
def abg (bs : List aad) : Nat -> Nat -> List Bool × List Int -> List Bool × List Int
 | 0,_,s=>s
 | f+1,b,s =>
   let s1:=(adJ bs b).reverse.foldl (fun s t=>if s.1.getD t.toNat true=true then s else abg bs f t.toNat s) (s.1.set b true,s.2)
   (s1.1,s1.2++[(b:Int)])
def aci(bs:List aad)(f:Nat)(l:List Int)(s:List Bool×List Int):List Bool×List Int:=l.foldl (fun s t=>if s.1.getD t.toNat true=true then s else abg bs f t.toNat s) s
theorem acA(bs:List aad)(f b:Nat)(s:List Bool×List Int):abg bs (f+1) b s=((aci bs f (adJ bs b).reverse (s.1.set b true,s.2)).1,(aci bs f (adJ bs b).reverse (s.1.set b true,s.2)).2++[(b:Int)]):=rfl
theorem ais(bs:List aad)(f:Nat)(l:List Int)(t:Int)(s:List Bool×List Int):aci bs f (l++[t]) s=if (aci bs f l s).1.getD t.toNat true=true then aci bs f l s else abg bs f t.toNat (aci bs f l s):=by
 unfold aci;rw [List.foldl_append];rfl
theorem aft(bs:List aad)(f:Nat)(l:List Int)(t:Int)(s:List Bool×List Int):aci bs f (t :: l) s=aci bs f l (if s.1.getD t.toNat true=true then s else abg bs f t.toNat s):=rfl
theorem abI:∀(l:List Bool) (b:Nat),l[b]?=some false->(l.set b true).count false+1=l.count false:=by
 intro l
 induction l with
 | nil=>intro b h;simp at h
 | cons a l ih =>
   intro b h;cases b with
   | zero =>
     rw [Abf] at h;cases h;simp
   | succ b =>
     rw [Abc] at h;have:=ih b h;rw [List.set_cons_succ,List.count_cons,List.count_cons];omega
structure ajS (bs:List aad)(s s':List Bool×List Int)(A:List Int):Prop where
 len:s'.1.length=s.1.length
 left:s'.2=s.2++A
 seen:∀i,s'.1.getD i true=true↔s.1.getD i true=true∨(i:Int)∈A
 fresh:∀x∈A,0<=x∧x<(s.1.length:Int)∧s.1.getD x.toNat true=false
 nodup:A.Nodup
theorem ajS.refl(bs:List aad)(s:List Bool×List Int):ajS bs s s [] :=
 ⟨rfl,(List.append_nil _).symm,fun i=>⟨.inl,fun h=>h.elim id (fun h=>(by cases h))⟩,fun x h=>(by cases h),List.nodup_nil⟩
variable {bs:List aad}{A:List Int}
theorem ajS.trans{s s' aR:List Bool×List Int}{B:List Int}(h:ajS bs s s' A)(k:ajS bs s' aR B):ajS bs s aR (A++B):=by
 refine⟨k.len.trans h.len,by rw [k.left,h.left,Aa9],fun i=>?_,fun x hx=>?_,?_⟩
 . rw [k.seen,h.seen,Aaw]
   constructor
   . rintro ((h | h) | h)
     . exact .inl h
     . exact .inr (.inl h)
     . exact .inr (.inr h)
   . rintro (h | h | h)
     . exact .inl (.inl h)
     . exact .inl (.inr h)
     . exact .inr h
 . rcases Aaw.1 hx with hx | hx
   . exact h.fresh x hx
   . obtain⟨h1,h2,h3⟩:=k.fresh x hx
     refine⟨h1,by rw [h.len] at h2;exact h2,?_⟩;cases hs:s.1.getD x.toNat true with
     | false=>rfl
     | true=>rw [(h.seen x.toNat).2 (.inl hs)] at h3;cases h3
 . refine List.nodup_append.2 ⟨h.nodup,k.nodup,fun x hx y hy e=>?_⟩
   subst e;obtain⟨h1,h2,h3⟩:=k.fresh x hy;have:=(h.seen x.toNat).2 (.inr (by rw [Int.toNat_of_nonneg h1];exact hx));rw [this] at h3;cases h3
theorem ajI:∀(l l':List Bool),l'.length=l.length->(∀i,l.getD i true=true->l'.getD i true=true)->l'.count false<=l.count false:=by
 intro l
 induction l with
 | nil =>
   intro l' hl _;obtain rfl:=Abk.1 hl;exact Aad _
 | cons a l ih =>
   intro l' hl h;cases l' with
   | nil=>simp at hl
   | cons a' l' =>
     have h1:=ih l' (by simpa using hl) (fun i hi=>h (i+1) hi);have h2:=h 0;rw [List.count_cons,List.count_cons];cases a <;> cases a' <;> simp at h2 ⊢ <;> omega
def ade(bs:List aad)(A l:List Int):Prop:=∀j (h:j<A.length),(∃k,∃h':k<A.length,j<k∧A[j]∈adJ bs (A[k]).toNat)∨A[j]∈l
theorem ade.mono{l l':List Int}(h:ade bs A l)(hl:∀x∈l,x∈l'):ade bs A l':=fun j hj=>(h j hj).imp id (hl _)
theorem ade.append{B l:List Int}(h:ade bs A l)(k:ade bs B l):ade bs (A++B) l:=by
 intro j hj
 by_cases hA:j<A.length
 . rw [List.getElem_append_left hA]
   rcases h j hA with⟨i,hi,h1,h2⟩ | h
   . exact .inl ⟨i,by rw [Aak];omega,h1,by rw [List.getElem_append_left hi];exact h2⟩
   . exact .inr h
 . have aZ:j - A.length<B.length:=by rw [Aak] at hj;omega
   rw [List.getElem_append_right (by omega)];rcases k (j - A.length) aZ with⟨i,hi,h1,h2⟩ | h
   . refine .inl ⟨i+A.length,by rw [Aak];omega,by omega,?_⟩
     rw [List.getElem_append_right (by omega)];simpa using h2
   . exact .inr h
theorem ade.close{b:Nat}(h:ade bs A (adJ bs b)):ade bs (A++[(b:Int)]) [(b:Int)]:=by
 intro j hj
 by_cases hA:j<A.length
 . left
   rw [List.getElem_append_left hA];rcases h j hA with⟨i,hi,h1,h2⟩ | h
   . exact⟨i,by rw [Aak];omega,h1,by rw [List.getElem_append_left hi];exact h2⟩
   . exact⟨A.length,by simp,hA,by simpa using h⟩
 . right
   rw [List.getElem_append_right (by omega)];simp
theorem ajM(bs:List aad)(f:Nat)(hv:∀(b:Nat) (s:List Bool×List Int),s.1[b]?=some false->s.1.count false<=f->∃A,ajS bs s (abg bs f b s) A∧ade bs A [(b:Int)]) :
 ∀(l:List Int) (s:List Bool×List Int),(∀t∈l,0<=t)->s.1.count false<=f->∃A,ajS bs s (aci bs f l s) A∧ade bs A l:=by
 intro l
 induction l with
 | nil=>exact fun s _ _=>⟨[],ajS.refl bs s,fun j h=>(by cases h)⟩
 | cons t l ih =>
   intro s ht hc;rw [aft]
   by_cases hs:s.1.getD t.toNat true=true
   . rw [if_pos hs]
     obtain⟨A,h1,h2⟩:=ih s (fun x hx=>ht x (Aa3 _ hx)) hc;exact⟨A,h1,h2.mono (fun x hx=>Aa3 _ hx)⟩
   . rw [if_neg hs]
     have a6:s.1[t.toNat]?=some false:=by
      rw [Aab] at hs;cases h:s.1[t.toNat]? with
      | none=>rw [h] at hs;exact absurd rfl hs
      | some x=>rw [h] at hs;cases x with
        | true=>exact absurd rfl hs
        | false=>rfl
     obtain⟨A,h1,h2⟩:=hv t.toNat s a6 hc;have aU:(abg bs f t.toNat s).1.count false<=f:=Aaj (ajI _ _ h1.len (fun i hi=>(h1.seen i).2 (.inl hi))) hc;obtain⟨B,h3,h4⟩:=ih _ (fun x hx=>ht x (Aa3 _ hx)) aU;refine⟨A++B,h1.trans h3,ade.append (h2.mono (fun x hx=>?_)) (h4.mono (fun x hx=>Aa3 _ hx))⟩;rw [Aau] at hx;rw [hx,Int.toNat_of_nonneg (ht t (Aa6 ..))];exact Aa6 ..
theorem air(bs:List aad)(bd:∀b,∀t∈adJ bs b,0<=t):∀(f b:Nat) (s:List Bool×List Int),s.1[b]?=some false->s.1.count false<=f->∃A,ajS bs s (abg bs f b s) A∧ade bs A [(b:Int)]:=by
 intro f
 induction f with
 | zero =>
   intro b s hb hc;have:=abI s.1 b hb;omega
 | succ f ih =>
   intro b s hb hc;have ad:=(Aae.1 hb).1;have hu:=abI s.1 b hb;obtain⟨A,h1,h2⟩:=ajM bs f ih (adJ bs b).reverse (s.1.set b true,s.2) (fun t ht=>bd b t (List.mem_reverse.1 ht)) (by dsimp only;omega);rw [acA];have ar:∀i,(s.1.set b true).getD i true=true↔s.1.getD i true=true∨i=b:=fun i=>by
    rw [Aab,Aab,Abe]
    by_cases hib:b=i
    . subst hib;simp [ad]
    . rw [if_neg hib]
      exact⟨.inl,fun h=>h.elim id (fun h=>absurd h.symm hib)⟩
   refine⟨A++[(b:Int)],⟨?_,?_,fun i=>?_,fun x hx=>?_,?_⟩,(h2.mono (fun x hx=>List.mem_reverse.1 hx)).close⟩
   . have:=h1.len
     simpa using this
   . have:=h1.left
     dsimp only at this ⊢;rw [this,Aa9]
   . have h:=h1.seen i
     dsimp only at h ⊢;rw [h,ar,Aaw,Aau];constructor
     . rintro ((h | h) | h)
       . exact .inl h
       . exact .inr (.inr (by rw [h]))
       . exact .inr (.inl h)
     . rintro (h | h | h)
       . exact .inl (.inl h)
       . exact .inr h
       . exact .inl (.inr (by omega))
   . rcases Aaw.1 hx with hx | hx
     . obtain⟨k1,k2,k3⟩:=h1.fresh x hx
       dsimp only at k2 k3;rw [List.length_set] at k2;refine⟨k1,k2,?_⟩;cases hs:s.1.getD x.toNat true with
       | false=>rfl
       | true=>rw [(ar x.toNat).2 (.inl hs)] at k3;cases k3
     . rw [Aau] at hx
       subst hx;refine⟨by omega,by omega,?_⟩;rw [Aag,Aab,hb];rfl
   . refine List.nodup_append.2 ⟨h1.nodup,by simp,fun x hx y hy e=>?_⟩
     rw [Aau] at hy;subst e;subst hy;obtain⟨k1,k2,k3⟩:=h1.fresh _ hx;dsimp only at k3;rw [Aag,(ar b).2 (.inr rfl)] at k3;cases k3
theorem ah3 {l:List Bool}{i:Nat}(h:¬l.getD i true=true):l[i]?=some false:=by
 rw [Aab] at h;cases e:l[i]? with
 | none=>rw [e] at h;exact absurd rfl h
 | some x=>rw [e] at h;cases x with
   | true=>exact absurd rfl h
   | false=>rfl
theorem af6(bs:List aad)(f:Nat)(hv:∀(b:Nat) (s:List Bool×List Int),s.1[b]?=some false->s.1.count false<=f->(abg bs f b s).2.length+(abg bs f b s).1.count false<=s.2.length+s.1.count false∧(abg bs f b s).1.count false<=s.1.count false∧(abg bs f b s).1.length=s.1.length) :
 ∀(l:List Int) (s:List Bool×List Int),s.1.count false<=f->(aci bs f l s).2.length+(aci bs f l s).1.count false<=s.2.length+s.1.count false∧(aci bs f l s).1.count false<=s.1.count false∧(aci bs f l s).1.length=s.1.length:=by
 intro l
 induction l with
 | nil=>exact fun s _=>⟨Aad _,Aad _,rfl⟩
 | cons t l ih =>
   intro s hc;rw [aft]
   by_cases hs:s.1.getD t.toNat true=true
   . rw [if_pos hs];exact ih s hc
   . rw [if_neg hs]
     obtain⟨h1,h2,h3⟩:=hv t.toNat s (ah3 hs) hc;obtain⟨k1,k2,k3⟩:=ih _ (Aaj h2 hc);exact⟨Aaj k1 h1,Aaj k2 h2,k3.trans h3⟩
theorem agN(bs:List aad):∀(f b:Nat) (s:List Bool×List Int),s.1[b]?=some false->s.1.count false<=f ->
 (abg bs f b s).2.length+(abg bs f b s).1.count false<=s.2.length+s.1.count false∧(abg bs f b s).1.count false<=s.1.count false∧(abg bs f b s).1.length=s.1.length:=by
 intro f
 induction f with
 | zero =>
   intro b s hb hc;have:=abI s.1 b hb;omega
 | succ f ih =>
   intro b s hb hc;have hu:=abI s.1 b hb;obtain⟨h1,h2,h3⟩:=af6 bs f ih (adJ bs b).reverse (s.1.set b true,s.2) (by dsimp only;omega);rw [acA];dsimp only at h1 h2 h3 ⊢;rw [Aak,List.length_singleton];rw [List.length_set] at h3;exact⟨by omega,by omega,h3⟩
def aaL(bs:List aad):List Int:=(abg bs bs.length 0 (List.replicate bs.length false,[])).2
end
end Go.Proofs.YtgekbfgplclmeaaDoor
