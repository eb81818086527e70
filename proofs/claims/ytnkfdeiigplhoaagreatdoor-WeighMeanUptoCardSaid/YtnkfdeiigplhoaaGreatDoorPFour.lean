import Derived.Deep.OwnRows
import Derived.Test.YtnkfdeiigplhoaaGreatDoorPRefU
import Derived.Test.YtnkfdeiigplhoaaGreatDoorPOnce0
/- Contracts of the three closures of the checker's ins, and of code.first over them. The contract of the checker's phi. Whence one comes: plain lists; and a family of rows that the call itself owns. turneryref6.unrollAhead: the blocks that lead to a block. A function with its blocks in another order, plainly. turn's copy of a block: its merges, as far as their sources are laid anew. turn's great loop: the state between two blocks, and a block's storing. The cells of objects just made. A unit and a fault handed back: two boxes of two cells written. -/
set_option maxHeartbeats 1000000
namespace Go.Proofs.YtnkfdeiigplhoaaGreatDoor
section
open Go.RowKit
theorem anh (cb xb : Nat) (g f nm ps : Value) (regs : Int) (ba : Option Addr) (bn bc : Nat) (aa : Option Addr) (an ac : Nat) (v : DVal) (w : World) (h0 : 0 <= regs) (h1 : regs <= 100)
 (ga:Option Addr) (gn gc:Nat) (fa:Option Addr) (fn fc:Nat) (s:ByteArray) (p:Int) (hg:g = .slice ga gn gc) (hf:f = .slice fa fn fc) (aE:nm = .string s) (aF:ps = .int .i64 p)
 (hc:aaj w cb 0 [g,f,nm,ps,.int .i64 regs,.slice ba bn bc,.slice aa an ac]) (hr:w.cell? ⟨xb,2,none⟩=some (.bool v.reg)) (hn:w.cell? ⟨xb,3,none⟩=some (.int .i64 v.n)) :
 Calls Tryz.prog 115 #[.pointer (some ⟨cb,0,none⟩),.pointer (some ⟨xb,0,none⟩)] w fun e w'=>e = .returned (.int .i64 (abN regs v))∧Below w.heap.size w w':=by
 subst hg hf aE aF;obtain⟨c0,c1,c2,c3,c4,c5,c6⟩:=hc.get7;simp only [Aab] at c1 c2 c3 c4 c5 c6;clear hc;go_enter Tryz.func115,Tryz.ntmps115;go_wp2_with (go_at_call 111;((with_reducible refine (ab7 _ _ _ _ _ _ _ _ _ _ h0 h1).mono ?_);rintro e w1 ⟨rfl,af⟩));go_ret;exact⟨rfl,bE1 af⟩
theorem ani (cb xb : Nat) (g f nm ps : Value) (regs : Int) (ba : Option Addr) (bn bc : Nat) (aa : Option Addr) (an ac : Nat) (v : DVal) (w : World) (h0 : 0 <= regs) (h1 : regs <= 100)
 (ga:Option Addr) (gn gc:Nat) (fa:Option Addr) (fn fc:Nat) (s:ByteArray) (p:Int) (hg:g = .slice ga gn gc) (hf:f = .slice fa fn fc) (aE:nm = .string s) (aF:ps = .int .i64 p)
 (hc:aaj w cb 0 [g,f,nm,ps,.int .i64 regs,.slice ba bn bc,.slice aa an ac]) (hr:w.cell? ⟨xb,4,none⟩=some (.bool v.reg)) (hn:w.cell? ⟨xb,5,none⟩=some (.int .i64 v.n)) :
 Calls Tryz.prog 116 #[.pointer (some ⟨cb,0,none⟩),.pointer (some ⟨xb,0,none⟩)] w fun e w'=>e = .returned (.int .i64 (abN regs v))∧Below w.heap.size w w':=by
 subst hg hf aE aF;obtain⟨c0,c1,c2,c3,c4,c5,c6⟩:=hc.get7;simp only [Aab] at c1 c2 c3 c4 c5 c6;clear hc;go_enter Tryz.func116,Tryz.ntmps116;go_wp2_with (go_at_call 111;((with_reducible refine (ab7 _ _ _ _ _ _ _ _ _ _ h0 h1).mono ?_);rintro e w1 ⟨rfl,af⟩));go_ret;exact⟨rfl,bE1 af⟩
theorem ajs(regs:Int)(v:DVal):abN regs v=0∨abN regs v=3:=by unfold abN;split <;> simp
def afM(regs:Int)(l:List DVal):Int:=if l.any (fun v=>decide (abN regs v≠0)) then 3 else 0
theorem agI {regs:Int}{l:List DVal}(h:∀j:Nat,∀x,l[j]?=some x->abN regs x=0):afM regs l=0:=by
 unfold afM;rw [if_neg];intro h';obtain⟨x,hx,hv⟩:=List.any_eq_true.1 h';obtain⟨j,hj⟩:=List.getElem?_of_mem hx;exact of_decide_eq_true hv (h j x hj)
theorem ahN {regs:Int}{l:List DVal}{j:Nat}{x:DVal}(h:l[j]?=some x)(hv:abN regs x≠0):afM regs l=abN regs x:=by
 unfold afM;rw [if_pos (List.any_eq_true.2 ⟨x,Aam h,decide_eq_true hv⟩)];rcases ajs regs x with h | h
 . exact absurd h hv
 . exact h.symm
def ab5(fs:List aao)(regs:Int)(x:ad8):Int :=
 if x.op≠20 then 0
 else if ¬(0<=x.fn∧x.fn<=(fs.length:Int) - 1) then 3
 else if (x.args.length:Int)≠(fs.getD x.fn.toNat ⟨ByteArray.empty,0,0,[]⟩).params then 9
 else afM regs x.args
theorem anj {S S' : Nat -> Prop} (cb xb kb : Nat) (g nm ps : Value) (fs : List aao) (regs : Int) (ba : Option Addr) (bn bc : Nat) (aa : Option Addr) (an ac : Nat) (x : ad8) (w : World) (h0 : 0 <= regs) (h1 : regs <= 100)
 (ga:Option Addr) (gn gc:Nat) (fa:Option Addr) (fc:Nat) (ra:Option Addr) (rc:Nat) (s:ByteArray) (p:Int) (hg:g = .slice ga gn gc) (aE:nm = .string s) (aF:ps = .int .i64 p)
 (hc:aaj w cb 0 [g,.slice fa fs.length fc,nm,ps,.int .i64 regs,.slice ba bn bc,.slice aa an ac])
 (hk:w.cell? ⟨kb,0,none⟩=some (.bool (decide (x.op=20))))
 (aP:w.cell? ⟨xb,6,none⟩=some (.int .i64 x.fn)) (bJ:w.cell? ⟨xb,7,none⟩=some (.slice ra x.args.length rc))
 (a6:SlAt S w 4 aaZ (.slice fa fs.length fc) fs) (has:SlAt S' w 2 ady (.slice ra x.args.length rc) x.args) (bL:fs.length<=1048576) :
 Calls Tryz.prog 117 #[.pointer (some ⟨kb,0,none⟩),.pointer (some ⟨xb,0,none⟩),.pointer (some ⟨cb,0,none⟩)] w fun e w' =>
  e = .returned (.int .i64 (ab5 fs regs x))∧Below w.heap.size w w':=by
 subst hg aE aF;have Hc:=hid hc;obtain⟨c0,c1,c2,c3,c4,c5,c6⟩:=hc.get7;simp only [Aab] at c1 c2 c3 c4 c5 c6;have bj:=hid a6;have Has:=hid has;obtain⟨_,_,aK,bm⟩:=has.val;cases aK;clear hc a6 has
 by_cases hop:x.op=20
 case neg =>
  have Hr:=hid (show ab5 fs regs x=0 by simp [ab5,hop]);rw [decide_eq_false hop] at hk;clear hop;go_enter Tryz.func117,Tryz.ntmps117;go_wp2_with fail;go_ret;exact⟨aaA Hr.out.symm,bE⟩
 rw [decide_eq_true hop] at hk
 by_cases hin:0<=x.fn∧x.fn<=(fs.length:Int) - 1
 case neg =>
  have Hr:=hid (show ab5 fs regs x=3 by simp only [ab5,hop,hin];simp);clear hop;go_enter Tryz.func117,Tryz.ntmps117;go_wp2_with (go_at_call 25;((with_reducible refine (aaq _ _ _ _).mono ?_);rintro e w' ⟨rfl,rfl⟩));go_ret;exact⟨aaA Hr.out.symm,bE⟩
 obtain⟨n,hn⟩:=Aas hin.1;have bd:n<fs.length:=by omega
 obtain⟨b,off,cs,rfl,-,hx,-,ai⟩:=bj.out.get bd;obtain⟨bG,bH,rfl,-,-,bt,-⟩:=hx.opens;obtain⟨d0,d1,d2,d3⟩:=ai.get4;have aC:(fs.getD x.fn.toNat ⟨ByteArray.empty,0,0,[]⟩).params=fs[n].params:=by
  rw [hn,Aaj,Aac,Aaa bd];rfl
 have az:=hid aC;have aU:=hid hop;have aT:=hid hin;have Hn:=hid hn;rw [hn] at aP;clear aC hop hin hn ai hx;unfold I64 at bt
 by_cases hlen:(x.args.length:Int)=fs[n].params
 case neg =>
  have Hr:=hid (show ab5 fs regs x=9 by simp only [ab5,aU.out,aT.out,az.out];simp [hlen]);have aD:(x.args.length:Int)<fs[n].params∨fs[n].params<(x.args.length:Int):=by omega
  clear hlen;go_enter Tryz.func117,Tryz.ntmps117;go_wp2_with (go_at_call 25;((with_reducible refine (aaq _ _ _ _).mono ?_);rintro e w' ⟨rfl,rfl⟩));go_quiet (fail);go_wp2_with fail;go_ret;exact⟨aaA Hr.out.symm,bE⟩
 have Hr:=hid (show ab5 fs regs x=afM regs x.args by simp only [ab5,aU.out,aT.out,az.out];simp [hlen]);have hq:(decide ((n:Int)<=(fs.length:Int) - 1))=true:=by rw [decide_eq_true_iff];omega
 have bO:(x.args.length:Int)<=fs[n].params:=by omega
 have bP:fs[n].params<=(x.args.length:Int):=by omega
 clear hlen;go_enter Tryz.func117,Tryz.ntmps117;go_wp2_with (go_at_call 25;((with_reducible refine (aaq _ _ _ _).mono ?_);rintro e w' ⟨rfl,rfl⟩));go_quiet (fail);go_wp2_with fail;go_loopw [36] (fun i wr=>∃k:Nat,k<=x.args.length∧i = .int .i64 k∧(∀j,j<k->∀y,x.args[j]?=some y->abN regs y=0)∧Below w.heap.size w wr) (fun i _=>x.args.length - (intOf i).toNat)
 case atStart=>exact⟨0,Aah _,rfl,fun j hj=>by omega,bE⟩
 case round =>
  obtain⟨k,hk,rfl,ak,au⟩:=hrel;have aj:=hid ak;have av:=hid au;clear ak au
  by_cases aq:k<x.args.length
  . obtain⟨b2,aS,cs,rfl,-,⟨rfl,-⟩,-,ai⟩:=(Has.out.later aaw av.out).get aq
    obtain⟨e0,e1⟩:=ai.get2;clear ai;obtain⟨g0,g1,g2,g3,g4,g5,g6⟩:=(Hc.out.later av.out).get7;simp only [Aab] at g1 g2 g3 g4 g5 g6;have bK:=aac g0;have al:=av.out.size
    by_cases hv:abN regs x.args[k]=0
    . go_wp2_with (go_at_call 111;((with_reducible refine (ab7 _ _ _ _ _ _ _ _ _ _ h0 h1).mono ?_);rintro e w1 ⟨rfl,af⟩))
      go_roundw
      case rel=>exact⟨k+1,by omega,by go_num,abL aj.out (fun y hy=>by rw [Aaa aq] at hy;cases hy;exact hv),by have h:=av.out;exact bE2 af h⟩
      case measure=>simp [intOf];omega
    . have Ha:=hid (ahN (Aaa aq) hv)
      have aR:abN regs x.args[k]=3:=(ajs _ _).resolve_left hv;go_wp2_with (go_at_call 111;((with_reducible refine (ab7 _ _ _ _ _ _ _ _ _ _ h0 h1).mono ?_);rintro e w1 ⟨rfl,af⟩));go_ret;exact⟨aaA (by rw [Hr.out,Ha.out,aR]),by have h:=av.out;exact bE2 af h⟩
  . have Ha:=hid (agI (regs:=regs) (l:=x.args) (fun j y hy=>aj.out j (by have:=(Aae.1 hy).1;omega) y hy))
    go_wp2_with fail;go_ret;exact⟨aaA (by rw [Hr.out,Ha.out]),by have h:=av.out;exact bE1 h⟩
end
section
open Go.RowKit
def rRow:Rp (List Int):=fun S w cs l=>∃v,cs=[v]∧SlAt S w 1 aaO v l
theorem aax:rRow.Mono:=⟨fun _ _ _ _ _ _ hS hw ⟨v,h1,h2⟩=>⟨v,h1,h2.mono aae hS hw⟩⟩
theorem alq(regs n:Int):agB regs n=0∨agB regs n=3:=by unfold agB;split <;> simp
def ag1(regs:Int)(block:Nat)(ahead:List (List Int))(p:afu):Int :=
 if block=0 then 5
 else if agB regs p.dst≠0 then 3
 else if p.src.length≠(ahead.getD block []).length then 9
 else afM regs p.src
theorem al8 {S S' : Nat -> Prop} (ga : Option Addr) (gn gc : Nat) (fa : Option Addr) (fn fc : Nat) (s : ByteArray) (p regs : Int) (ba : Option Addr) (bn bc : Nat) (aa : Option Addr) (ac : Nat) (ahead : List (List Int)) (x : afu) (ra : Option Addr) (rc : Nat) (k : Nat) (w : World)
 (h0:0<=regs) (h1:regs<=100) (aA:SlAt S w 1 rRow (.slice aa ahead.length ac) ahead) (has:SlAt S' w 2 ady (.slice ra x.src.length rc) x.src) (hk:k<ahead.length) (_hal:ahead.length<=1048576) :
 Calls Tryz.prog 82 #[.agg #[.slice ga gn gc,.slice fa fn fc,.string s,.int .i64 p,.int .i64 regs,.slice ba bn bc,.slice aa ahead.length ac],.int .i64 k,.agg #[.int .i64 x.dst,.slice ra x.src.length rc]] w fun e w' =>
  e = .returned (.int .i64 (ag1 regs k ahead x))∧Below w.heap.size w w':=by
 have Has:=hid has;obtain⟨_,_,aK,bm⟩:=has.val;cases aK;have bD:=hid aA;clear has
 by_cases hk0:k=0
 . subst hk0
   have Hr:=hid (show ag1 regs 0 ahead x=5 by simp [ag1]);clear aA;go_enter Tryz.func82,Tryz.ntmps82;go_wp2_with fail;go_ret;exact⟨aaA Hr.out.symm,bE⟩
 have bN:(0:Int)<k:=by omega
 have aI:=hid hk0;clear hk0
 by_cases hd:agB regs x.dst=0
 case neg =>
  have bp:agB regs x.dst=3:=(alq _ _).resolve_left hd;have Hr:=hid (show ag1 regs k ahead x=3 by simp only [ag1,aI.out,bp];simp);clear aA hd;go_enter Tryz.func82,Tryz.ntmps82;go_wp2_with (go_at_call 112;((with_reducible refine (afV _ _ _ _ _ _ _ _ _ h0 h1).mono ?_);rintro e w1 ⟨rfl,af⟩));go_ret;exact⟨aaA Hr.out.symm,bE1 af⟩
 obtain⟨b,off,cs,rfl,-,⟨v,rfl,hv⟩,-,ai⟩:=aA.get hk;obtain⟨va,vc,rfl,bQ⟩:=hv.val;have ad:=ai.get1;have au:=aac ad;simp only [Aan] at ad;have aC:ahead.getD k []=ahead[k]:=by rw [Aac,Aaa hk];rfl
 have az:=hid aC;clear aA ai hv aC
 by_cases hlen:x.src.length=ahead[k].length
 case neg =>
  have Hr:=hid (show ag1 regs k ahead x=9 by simp only [ag1,aI.out,hd,az.out];simp [hlen]);have aD:(x.src.length:Int)<ahead[k].length∨(ahead[k].length:Int)<x.src.length:=by omega
  clear hlen;go_enter Tryz.func82,Tryz.ntmps82;go_wp2_with (go_at_call 112;((with_reducible refine (afV _ _ _ _ _ _ _ _ _ h0 h1).mono ?_);rintro e w1 ⟨rfl,af⟩;obtain⟨aN,bq⟩:=aau af;have bA:w.heap.size+1<w1.heap.size:=(by have:=af.size;simp at this;omega);have bz:w.heap.size<w1.heap.size:=(by omega);have ax:=aab ad (Below.trans bE (af.mono (by simp;omega)))));go_quiet (fail);go_wp2_with fail;go_ret;exact⟨aaA Hr.out.symm,bE1 af⟩
 have Hr:=hid (show ag1 regs k ahead x=afM regs x.src by simp only [ag1,aI.out,hd,az.out];simp [hlen]);have hq:=al5 hlen;clear hlen;go_enter Tryz.func82,Tryz.ntmps82;go_wp2_with (go_at_call 112;((with_reducible refine (afV _ _ _ _ _ _ _ _ _ h0 h1).mono ?_);rintro e w1 ⟨rfl,af⟩;obtain⟨aN,bq⟩:=aau af;have bA:w.heap.size+1<w1.heap.size:=(by have:=af.size;simp at this;omega);have bz:w.heap.size<w1.heap.size:=(by omega);have ax:=aab ad (Below.trans bE (af.mono (by simp;omega)))));go_quiet (fail);go_wp2_with fail;go_loopw [33] (fun i wr=>∃k:Nat,k<=x.src.length∧i = .int .i64 k∧(∀j,j<k->∀y,x.src[j]?=some y->abN regs y=0)∧Below (w.heap.size+2) w1 wr) (fun i _=>x.src.length - (intOf i).toNat)
 case atStart=>exact⟨0,Aah _,rfl,fun j hj=>by omega,bE⟩
 case round =>
  obtain⟨k',hk,rfl,ak,au⟩:=hrel;have aj:=hid ak;have bf:Below w.heap.size w wr:=((bE:Below w.heap.size w ((w.alloc (.cells #[.slice ga gn gc,.slice fa fn fc,.string s,.int .i64 p,.int .i64 regs,.slice ba bn bc,.slice (some ⟨b,off,none⟩) ahead.length ac] 102)).alloc (.cells #[.int .i64 x.dst,.slice ra x.src.length rc] 114)))).trans ((af.mono (by simp;omega)).trans (au.mono (by omega)));have aJ:=hid bf;have av:=hid au;obtain⟨aZ,aO⟩:=aau au;have al:=au.size;have bu:w.heap.size<wr.heap.size:=by omega
  have bw:w.heap.size+1<wr.heap.size:=by omega
  clear ak bf au
  by_cases aq:k'<x.src.length
  . obtain⟨b2,aS,cs,rfl,-,⟨rfl,-⟩,-,ai⟩:=(Has.out.later aaw aJ.out).get aq
    obtain⟨e0,e1⟩:=ai.get2;have aY:=aac e0;clear ai;have bF:=hid e0
    by_cases hv:abN regs x.src[k']=0
    . go_wp2_with (go_at_call 111;((with_reducible refine (ab7 _ _ _ _ _ _ _ _ _ _ h0 h1).mono ?_);rintro e w2 ⟨rfl,aH⟩))
      go_roundw
      case rel=>exact⟨k'+1,by omega,by go_num,abL aj.out (fun y hy=>by rw [Aaa aq] at hy;cases hy;exact hv),by have h:=av.out;exact bE2 aH h⟩
      case measure=>simp [intOf];omega
    . have Ha:=hid (ahN (Aaa aq) hv)
      have aR:abN regs x.src[k']=3:=(ajs _ _).resolve_left hv;go_wp2_with (go_at_call 111;((with_reducible refine (ab7 _ _ _ _ _ _ _ _ _ _ h0 h1).mono ?_);rintro e w2 ⟨rfl,aH⟩));go_ret;exact⟨aaA (by rw [Hr.out,Ha.out,aR]),by have h:=aJ.out;exact bE2 aH h⟩
  . have Ha:=hid (agI (regs:=regs) (l:=x.src) (fun j y hy=>aj.out j (by have:=(Aae.1 hy).1;omega) y hy))
    go_wp2_with fail;go_ret;exact⟨aaA (by rw [Hr.out,Ha.out]),by have h:=aJ.out;exact bE1 h⟩
end
section
open Go.RowKit
def adU(to:List Int)(t:Nat)(i:Nat):List Int:=(to.filter fun x:Int=>decide (x=(t:Int))).map fun _=>(i:Int)
def aag : List aad -> Nat -> Nat -> List Int
 | [],_,_=>[]
 | b :: r,s,t=>adU b.fin.to t s++aag r (s+1) t
def aheadF(l:List aad):List (List Int):=(List.range l.length).map fun t=>aag l 0 t
theorem agD(l r:List aad)(s t:Nat):aag (l++r) s t=aag l s t++aag r (s+l.length) t:=by
 induction l generalizing s with
 | nil=>simp [aag]
 | cons b l ih=>simp only [List.cons_append,aag,ih,Abh,Aao];rw [show s+1+l.length=s+(l.length+1) by omega]
theorem afj(l:List aad)(k t:Nat)(h:k<l.length):aag (l.take (k+1)) 0 t=aag (l.take k) 0 t++adU l[k].fin.to t k:=by
 rw [Aat h,agD];simp [aag,List.length_take,Nat.min_eq_left (Nat.le_of_lt h)]
theorem aii(to:List Int)(j t i:Nat)(h:j<to.length):adU (to.take (j+1)) t i=adU (to.take j) t i++if to[j]=(t:Int) then [(i:Int)] else []:=by
 unfold adU;rw [Aat h,List.filter_append,Aav]
 congr 1
 by_cases hc:to[j]=(t:Int) <;> simp [hc]
theorem ahp(to:List Int)(t i:Nat):(adU to t i).length<=to.length:=by
 unfold adU;rw [Aal];exact List.length_filter_le _ _
theorem ae2(l:List aad)(m:Nat)(h:∀(i:Nat) (x:aad),l[i]?=some x->x.fin.to.length<=m)(k s t:Nat):(aag (l.take k) s t).length<=m * l.length:=by
 induction l generalizing k s with
 | nil=>simp [aag]
 | cons b l ih =>
   cases k with
   | zero=>simp [aag]
   | succ k =>
     have h1:=ih (fun i x hx=>h (i+1) x hx) k (s+1);have h2:=ahp b.fin.to t s;have h3:=h 0 b rfl;simp only [Abw,aag,Aai,Aao,Nat.mul_add,Aan];omega
variable {t:Nat}{x:Int}
theorem ane{to:List Int}{i:Nat}(h:x∈adU to t i):x=i:=by
 unfold adU at h;obtain⟨_,_,h⟩:=Aau.1 h;exact h.symm
theorem abB{l:List aad}{s:Nat}(h:x∈aag l s t):0<=x∧x<s+l.length:=by
 induction l generalizing s with
 | nil=>simp [aag] at h
 | cons b l ih =>
   simp only [aag,Aaz] at h;rcases h with h | h
   . have:=ane h;simp only [Aao];omega
   . have:=ih h;simp only [Aao];omega
structure Fam (w:World)(base:Nat)(e:TypeId)(n:Nat)(V:Nat->Value)(R:Nat->List Value):Prop where
 own:∀t,t<n->w.ownsRow base e 1 (V t) (R t).length (R t)
 apart:∀t u k,t<n->u<n->t≠u->(V t).ownBlock=some k->(V u).ownBlock≠some k
variable {w:World}{base n:Nat}{e:TypeId}{V:Nat->Value}{R:Nat->List Value}
theorem Fam.grown{w':World}(h:Fam w base e n V R)(hg:w.grownBy w' none):Fam w' base e n V R :=
 ⟨fun t ht=>(h.own t ht).kept hg (by cases (V t).ownBlock <;> simp),h.apart⟩
theorem Fam.alloc(h:Fam w base e n V R)(o:Obj):Fam (w.alloc o) base e n V R :=
 h.grown (World.grownBy_alloc _ _ _)
theorem Fam.setBelow(h:Fam w base e n V R){a:Addr}(ha:a.block<base)(u:Value):Fam (w.setCell a u) base e n V R :=
 ⟨fun t ht=>ownsRow_setCell_below (h.own t ht) ha u,h.apart⟩
theorem Fam.push{w':World}    {V : Nat -> Value} {R : Nat -> List Value} (h : Fam w base e n V R)  (ht : t < n) {v' : Value} {x : Value}
 (ho:w'.ownsRow base e 1 v' ((R t).length+1) (R t++[x])) (hg:w.grownBy w' (V t).ownBlock) (hb:v'.ownBlock=(V t).ownBlock∨v'.ownBlock=some w.heap.size) :
 Fam w' base e n (fun u=>if u=t then v' else V u) (fun u=>if u=t then R t++[x] else R u):=by
 have aq:∀u k,u<n->(V u).ownBlock=some k->k<w.heap.size:=fun u k hu hk=>((h.own u hu).lt k hk).2;refine⟨fun u hu=>?_,fun u1 u2 k h1 h2 ae hk=>?_⟩
 . by_cases hut:u=t
   . subst hut;simp only [if_true];rw [Aai];exact ho
   . simp only [if_neg hut]
     refine (h.own u hu).kept hg ?_;cases hu':(V u).ownBlock with
     | none=>exact .inl rfl
     | some k=>exact .inr (fun e=>h.apart u t k hu ht hut hu' e.symm)
 . by_cases e1:u1=t
   . have e2:u2≠t:=fun e=>ae (e1.trans e.symm)
     simp only [if_pos e1] at hk;simp only [if_neg e2];intro aV;rcases hb with hb | hb
     . rw [hb] at hk;exact h.apart t u2 k ht h2 (fun e=>e2 e.symm) hk aV
     . rw [hb] at hk;cases hk;have:=aq u2 _ h2 aV;omega
   . simp only [if_neg e1] at hk
     by_cases e2:u2=t
     . simp only [if_pos e2]
       rcases hb with hb | hb
       . rw [hb];exact h.apart u1 t k h1 ht e1 hk
       . rw [hb];intro e;cases e;have:=aq u1 _ h1 hk;omega
     . simp only [if_neg e2];exact h.apart u1 u2 k h1 h2 ae hk
theorem afG{v:Value}{l:List Int}(h:w.ownsRow base e 1 v l.length (l.map (Value.int .i64)))(hl:∀x∈l,I64 x):SlAt (fun b=>base<=b) w 1 aaO v l:=by
 obtain⟨h1,h2⟩:=h;rcases h2 with⟨rfl,h2⟩ | ⟨g,cap,cur,rfl,hg,hh,hn,hm,hs,ht⟩
 . have:l=[]:=Ab4 h2
   subst this;exact⟨none,0,rfl,Aad _,by omega,fun h=>absurd rfl h⟩
 . refine⟨_,cap,rfl,hn,by unfold maxLen at hm;exact hm,fun _=>⟨g,0,rfl,hg,fun i x hx=>⟨[.int .i64 x],⟨rfl,hl x (Aam hx)⟩,rfl,?_⟩⟩⟩
   refine .cons ?_ (.nil _ _ _);have h3:(l.map (Value.int .i64))[i]?=some (.int .i64 x):=by rw [Aak,hx];rfl
   rw [<-ht,Aan,List.getElem?_take] at h3;have hi:i<l.length:=(Aae.1 hx).1;rw [if_pos hi] at h3;simp only [World.cell?,hh,Aab,Aan];simpa using h3
theorem acm{size:Nat}{v:Value}{xs:List Value}(h:w.ownsRow base e size v (n+1) xs):∃g cap,v = .slice (some ⟨g,0,none⟩) (n+1) cap∧base<=g∧g<w.heap.size:=by
 obtain⟨h1,h2⟩:=h;rcases h2 with⟨-,h2⟩ | ⟨g,cap,cur,rfl,hg,hh,-⟩
 . omega
 . refine⟨g,cap,rfl,hg,?_⟩
   rcases Nat.lt_or_ge g w.heap.size with h3 | h3
   . exact h3
   . rw [Array.getElem?_eq_none h3] at hh;cases hh
def Tab(w wr:World)(O:Nat)(T e:TypeId)(n:Nat)(R:Nat->List Int):Prop :=
 w.heap.size<=O∧O<wr.heap.size∧Below w.heap.size w wr∧∃V,wr.rowIs O T n V∧Fam wr (O+1) e n V (fun t=>(R t).map (Value.int .i64))
variable {wr:World}{O:Nat}{T:TypeId}
theorem Tab.alloc{R:Nat->List Int}(h:Tab w wr O T e n R)(o:Obj):Tab w (wr.alloc o) O T e n R:=by
 obtain⟨h1,h2,h3,V,h4,h5⟩:=h;exact⟨h1,by simp;omega,h3.alloc (by omega) _,V,h4.alloc _,h5.alloc _⟩
theorem Tab.congr{R R':Nat->List Int}(h:Tab w wr O T e n R)(hr:∀t,t<n->R t=R' t):Tab w wr O T e n R':=by
 obtain⟨h1,h2,h3,V,h4,h5⟩:=h;exact⟨h1,h2,h3,V,h4,⟨fun t ht=>by rw [<-hr t ht];exact h5.own t ht,h5.apart⟩⟩
theorem Tab.push{w1:World}    {R : Nat -> List Int} {V : Nat -> Value} (h1 : w.heap.size <= O) (h2 : O < wr.heap.size) (h3 : Below w.heap.size w wr)
 (h4:wr.rowIs O T n V) (h5:Fam wr (O+1) e n V (fun t=>(R t).map (Value.int .i64)))  (ht:t<n) {v':Value}  (o:Obj)
 (ho:w1.ownsRow (O+1) e 1 v' (((R t).map (Value.int .i64)).length+1) ((R t).map (Value.int .i64)++[.int .i64 x])) (hg:(wr.alloc o).grownBy w1 (V t).ownBlock)
 (hb:v'.ownBlock=(V t).ownBlock∨v'.ownBlock=some (wr.alloc o).heap.size) :
 w1.cell? ⟨O,t,none⟩=some (V t)∧w1.frozen? ⟨O,t,none⟩=false∧Tab w (w1.setCell ⟨O,t,none⟩ v') O T e n (fun u=>if u=t then R t++[x] else R u):=by
 have ae:some O≠(V t).ownBlock:=fun e=>by have:=((h5.own t ht).lt O e.symm).1;omega
 have aM:w1.heap[O]?=(wr.alloc o).heap[O]?:=hg.block O (by simp;omega) ae;have ay:w1.rowIs O T n V:=(h4.alloc o).of_block aM;have al:=hg.size;simp at al;refine⟨ay.cell ht,ay.frozen t,h1,by simp [World.setCell];omega,?_,_,ay.set t v',?_⟩
 . refine Below.setCell ((h3.alloc (by omega) o).grown hg (by simp;omega) (fun k hk=>by have:=((h5.own t ht).lt k hk).1;omega)) ?_ _
   exact h1
 . have hf:=(h5.alloc o).push ht ho hg hb
   have aO:=hf.setBelow (a:=⟨O,t,none⟩) (Abc O) v';refine⟨fun u hu=>?_,aO.apart⟩;have:=aO.own u hu
   by_cases hut:u=t
   . subst hut;simpa using this
   . simpa [hut] using this
theorem Tab.done{R:Nat->List Int}(h:Tab w wr O T e n R)(hn:n<=1048576)(hR:∀t,t<n->∀x∈R t,I64 x) :
 SlAt (fun b=>w.heap.size<=b) wr 1 rRow (.slice (some ⟨O,0,none⟩) n n) ((List.range n).map R):=by
 obtain⟨h1,h2,h3,V,h4,h5⟩:=h;refine⟨_,n,by simp,by simp,by omega,fun _=>⟨O,0,rfl,h1,fun i x hx=>?_⟩⟩;have hi:i<n:=by have:=(Aae.1 hx).1;simpa using this
 have bx:x=R i:=by rw [Aak,Aa4 hi] at hx;simpa using hx.symm
 subst bx;refine⟨[V i],⟨V i,rfl,?_⟩,rfl,.cons (by simpa using h4.cell hi) (.nil _ _ _)⟩;have h6:=h5.own i hi;rw [Aal] at h6;exact (afG h6 (hR i hi)).mono aae (fun b hb=>by omega) (aav.refl _ _)
end
section
open Go.RowKit
theorem alK(to:List Int)(t i:Nat):(adU to t i).length<=to.length:=by
 unfold adU;rw [Aal];exact List.length_filter_le _ _
theorem ac8 (t : Nat) : ∀ (l : List aad) (s : Nat), (∀ x ∈ l, x.fin.to.length <= 2) -> (aag l s t).length <= 2 * l.length
 | [],_,_=>by simp [aag]
 | b :: r,s,h=>by
   have h1:=ac8 t r (s+1) (fun x hx=>h x (by simp [hx]));have h2:=alK b.fin.to t s;have h3:=h b (by simp);simp only [aag,Aai,Aao];omega
end
section
open Go.RowKit
def placeOf(ord:List Nat)(x:Nat):Nat:=ord.idxOf x
def aeG(ord:List Nat)(n:Nat)(fr:List Int)(src:List DVal)(j:Nat):List DVal:=if placeOf ord (fr.getD j 0).toNat=n then (match src[j]? with | some v=>[v] | none=>[]) else []
def acu(ord:List Nat)(n:Nat)(fr:List Int)(src:List DVal)(i:Nat):List DVal:=(List.range i).flatMap (aeG ord n fr src)
def aek(ord:List Nat)(fr:List Int)(src:List DVal)(n:Nat):List DVal:=(List.range n).flatMap (fun n'=>acu ord n' fr src fr.length)
def ae6(ord:List Nat)(fr:List Int)(p:afu):afu:=⟨p.dst,aek ord fr p.src ord.length⟩
def aft(ord:List Nat)(fr:List Int)(x:aad):aad:=⟨x.phis.map (ae6 ord fr),x.list,⟨x.fin.kind,x.fin.on,x.fin.to.map (fun t=>((placeOf ord t.toNat:Nat):Int))⟩⟩
def aaM:aad:=⟨[],[],⟨0,⟨false,0⟩,[]⟩⟩
def aaV(bs:List aad)(ord:List Nat):List aad:=ord.map (fun b=>aft ord (aag bs 0 b) (bs.getD b aaM))
theorem adN(ord:List Nat)(n:Nat)(fr:List Int)(src:List DVal)(i:Nat):acu ord n fr src (i+1)=acu ord n fr src i++aeG ord n fr src i:=by
 unfold acu;rw [Abo,List.flatMap_append];simp
theorem aiA(ord:List Nat)(fr:List Int)(src:List DVal)(n:Nat):aek ord fr src (n+1)=aek ord fr src n++acu ord n fr src fr.length:=by
 unfold aek;rw [Abo,List.flatMap_append];simp
theorem ag2 {ord:List Nat}{n:Nat}{fr:List Int}{src:List DVal}{j:Nat}(h:placeOf ord (fr.getD j 0).toNat=n)(hj:j<src.length):aeG ord n fr src j=[src[j]]:=by
 unfold aeG;rw [if_pos h,Aaa hj]
theorem ais {ord:List Nat}{n:Nat}{fr:List Int}{src:List DVal}{j:Nat}(h:placeOf ord (fr.getD j 0).toNat≠n):aeG ord n fr src j=[]:=by
 unfold aeG;rw [if_neg h]
theorem ait(ord:List Nat)(n:Nat)(fr:List Int)(src:List DVal):∀i,(acu ord n fr src i).length<=i:=by
 intro i
 induction i with
 | zero=>simp [acu]
 | succ i ih =>
   rw [adN,Aai];have:(aeG ord n fr src i).length<=1:=by
    unfold aeG;split
    . split <;> simp
    . simp
   omega
theorem anM(ord:List Nat)(fr:List Int)(src:List DVal):∀n,(aek ord fr src n).length<=n * fr.length:=by
 intro n
 induction n with
 | zero=>simp [aek]
 | succ n ih =>
   rw [aiA,Aai,Nat.add_mul];have:=ait ord n fr src fr.length;omega
theorem ahQ {r:List Nat}(aQ:∀i j (hi:i<r.length) (hj:j<r.length),r[i]=r[j]->i=j){k:Nat}(hk:k<r.length)(x:Nat):atF r (k+1) x=if x=r[k] then k else atF r k x:=by
 unfold atF;rw [Aat hk,acQ]
 by_cases hx:x=r[k]
 . subst hx
   have hm:r[k]∈r:=Aaf _;have hl:r.idxOf r[k]<r.length:=List.idxOf_lt_length_iff.2 hm;have:=aQ _ _ hl hk (List.getElem_idxOf hl);rw [if_pos (by simp),if_pos rfl,this]
 . rw [if_neg hx,show (x == r[k])=false by simpa using hx,Bool.or_false]
theorem ahP {r:List Nat}{x:Nat}(h:x∈r):atF r r.length x=placeOf r x:=by
 unfold atF placeOf;rw [Aay,if_pos (aeu.2 h)]
end
section
open Go.RowKit
theorem ab4.row {α:Type}{a b:Nat}{w:World}{e:TypeId}{sz:Nat}{r:Rp α}{v:Value}{l:List α}(h:ab4 a b w e sz r v l):∀T,v.ownBlock=some T->(a<=T∧T<b)∧(∃c,v = .slice (some ⟨T,0,none⟩) l.length c)∧∀j,w.frozen? ⟨T,j,none⟩=false:=by
 intro T hT;obtain⟨xss,h1,hb,-⟩:=h;rcases h1.2 with⟨rfl,-⟩ | ⟨g,cap,cur,rfl,hg,hgg,-⟩
 . cases hT
 . cases hT
   exact⟨⟨hg,hb g rfl⟩,⟨cap,rfl⟩,fun j=>by simp [World.frozen?,hgg]⟩
structure akd (W8 wi:World)(pv:Value)(phis:List afu)(ord:List Nat)(fr:List Int)(p:Nat):Prop where
 grow:W8.grownBy wi pv.ownBlock
 new:∀P,pv.ownBlock=some P->∀j (h:j<phis.length),j<p->∃v,aaj wi P (j * 2) [.int .i64 phis[j].dst,v]∧SlAt (iv W8.heap.size wi.heap.size) wi 2 ady v (aek ord fr phis[j].src ord.length)
 old:∀P,pv.ownBlock=some P->∀o,p * 2<=o->wi.cell? ⟨P,o,none⟩=W8.cell? ⟨P,o,none⟩
 free:∀P j,pv.ownBlock=some P->wi.frozen? ⟨P,j,none⟩=false
theorem akd.start {W8:World}{pv:Value}{phis:List afu}{ord:List Nat}{fr:List Int}(h:∀P j,pv.ownBlock=some P->W8.frozen? ⟨P,j,none⟩=false):akd W8 W8 pv phis ord fr 0 :=
 ⟨⟨rfl,rfl,rfl,Aad _,fun _ _ _=>rfl⟩,fun _ _ _ _ h=>absurd h (Nat.not_lt_zero _),fun _ _ _ _=>rfl,h⟩
section
variable {W8 wi wj : World} {pv : Value} {phis : List afu} {ord : List Nat} {fr : List Int} {p : Nat}
theorem akd.later(h:akd W8 wi pv phis ord fr p)(hb:Below wi.heap.size wi wj)(hP:∀P,pv.ownBlock=some P->P<W8.heap.size):akd W8 wj pv phis ord fr p:=by
 have hs:=h.grow.size;refine⟨⟨hb.os.trans h.grow.os,hb.tape.trans h.grow.tape,hb.output.trans h.grow.output,Aag hs hb.size,fun k hk ae=>by rw [hb.block k (by omega),h.grow.block k hk ae]⟩,fun P ag j hj a7=>?_,fun P ag o ho=>?_,fun P j ag=>?_⟩
 . obtain⟨v,h1,h2⟩:=h.new P ag j hj a7
   exact⟨v,h1.later hb,(h2.later aaw hb).mono aaw (fun b aX=>⟨aX.1,Aap aX.2 hb.size⟩) (aav.refl _ _)⟩
 . rw [World.cell?_of_block (w:=wi) (a:=⟨P,o,none⟩) (hb.block P (by have:=hP P ag;omega)),h.old P ag o ho]
 . rw [World.frozen?_of_block (w:=wi) (a:=⟨P,j,none⟩) (hb.block P (by have:=hP P ag;omega)),h.free P j ag]
theorem akd.next (h : akd W8 wi pv phis ord fr p) (hp : p < phis.length) {P : Nat} (ag : pv.ownBlock = some P) (hP : P < W8.heap.size) {u v : Value}
 (h0:W8.cell? ⟨P,p * 2,none⟩=some (.int .i64 phis[p].dst)) (h1:W8.cell? ⟨P,p * 2+1,none⟩=some u) (hv:SlAt (iv W8.heap.size wi.heap.size) wi 2 ady v (aek ord fr phis[p].src ord.length)) :
 akd W8 (wi.setCell ⟨P,p * 2+1,none⟩ v) pv phis ord fr (p+1):=by
 have g1:=(h.old P ag (p * 2+1) (by omega)).trans h1;have g0:=(h.old P ag (p * 2) (by omega)).trans h0;have al:(wi.setCell ⟨P,p * 2+1,none⟩ v).heap.size=wi.heap.size:=by simp [World.setCell]
 have aG:aav (iv W8.heap.size wi.heap.size) wi (wi.setCell ⟨P,p * 2+1,none⟩ v):=aba fun b hb _=>Below.heap_setCell _ _ _ _ (by have:=hb.1;dsimp only;omega);refine⟨⟨h.grow.os,h.grow.tape,h.grow.output,by rw [al];exact h.grow.size,fun b hb ae=>?_⟩,fun P' aw j hj a7=>?_,fun P' aw o ho=>?_,fun P' j aw=>by simp;exact h.free P' j aw⟩
 . rw [Below.heap_setCell _ _ _ _ (fun e=>ae (by rw [ag];exact congrArg some e)),h.grow.block b hb ae]
 . rw [ag] at aw
   cases aw;rw [al]
   by_cases hjq:j=p
   . subst hjq
     refine⟨v,fun i x hx=>?_,hv.mono aaw (fun _ h=>h) aG⟩;rw [aap g1]
     match i,hx with
     | 0,hx=>cases hx;rw [if_neg (by omega)];exact g0
     | 1,hx=>cases hx;rw [if_pos rfl]
     | i+2,hx=>simp at hx
   . obtain⟨v',k1,k2⟩:=h.new P ag j hj (by omega)
     refine⟨v',fun i x hx=>?_,k2.mono aaw (fun _ h=>h) aG⟩;have hi:i<2:=by have:=(Aae.1 hx).1;simpa using this
     rw [aap g1,if_neg (by omega)];exact k1 i x hx
 . rw [ag] at aw
   cases aw;rw [aap g1,if_neg (by omega)];exact h.old P ag o (by omega)
theorem akd.sl(h:akd W8 wi pv phis ord fr phis.length){C:Nat}(hs:SlAt (iv C W8.heap.size) W8 2 ag4 pv phis)(hz:∀P,pv.ownBlock=some P->∃c,pv = .slice (some ⟨P,0,none⟩) phis.length c)(hC:C<=W8.heap.size) :
 SlAt (iv C wi.heap.size) wi 2 ag4 pv (phis.map (ae6 ord fr)):=by
 have al:=h.grow.size;obtain⟨ao,c,hv,h1,h2,h3⟩:=hs;refine⟨ao,c,by rw [Aal];exact hv,by rw [Aal];exact h1,h2,fun ae=>?_⟩;obtain⟨b,off,rfl,hS,hc⟩:=h3 (fun e=>ae (by rw [e];rfl));have ag:pv.ownBlock=some b:=by rw [hv];rfl
 obtain⟨c',bg⟩:=hz b ag;rw [hv] at bg;cases bg;refine⟨b,0,rfl,⟨hS.1,Aap hS.2 al⟩,fun i x hx=>?_⟩;rw [Aak] at hx;cases hq:phis[i]? with
 | none=>rw [hq] at hx;cases hx
 | some q =>
   rw [hq] at hx;cases hx;obtain⟨hi,rfl⟩:=Aae.1 hq;obtain⟨v,k1,k2⟩:=h.new b ag i hi hi;obtain⟨cs,hr,-,-⟩:=hc i _ hq;obtain⟨v0,-,-,hd⟩:=hr;refine⟨_,⟨v,rfl,k2.mono aaw (fun B hB=>⟨Aag hC hB.1,hB.2⟩) (aav.refl _ _),hd⟩,rfl,?_⟩;rw [Aab];exact k1
end
theorem ab4.at {α:Type}{a b:Nat}{w:World}{e:TypeId}{sz:Nat}{r:Rp α}{v:Value}{l:List α}(h:ab4 a b w e sz r v l){k:Nat}(hk:k<l.length) :
 ∃T c cs,v = .slice (some ⟨T,0,none⟩) l.length c∧(a<=T∧T<b)∧aaj w T (k * sz) cs∧r (fun j=>a<=j∧j<b∧v.ownBlock≠some j) w cs l[k]:=by
 obtain⟨xss,h1,hb,h2,h3,h4⟩:=h;rcases id h1.2 with⟨rfl,hl⟩ | ⟨g,cap,cur,rfl,hg,hgg,hn,hm,hc,ht⟩
 . omega
 . have hi:k<xss.length:=by omega
   have ai:=Aaa hi;refine⟨g,cap,xss[k],rfl,⟨hg,hb g rfl⟩,fun j u hj=>?_,h4 k _ _ ai (Aaa hk)⟩;have br:j<sz:=by rw [<-h3 k _ ai];exact (Aae.1 hj).1
   have hf:=aeW xss h3 k j _ ai br;rw [hj] at hf;have ad:=h1.cells (g:=g) rfl (k * sz+j) u hf;rw [show (⟨g,0,none⟩:Addr).add (k * sz+j)=⟨g,k * sz+j,none⟩ by unfold Addr.add;split <;> simp_all] at ad;exact ad
structure amU (W7 wi:World)(tv:Value)(tos:List Int)(ord:List Nat)(t:Nat):Prop where
 grow:W7.grownBy wi tv.ownBlock
 size:wi.heap.size=W7.heap.size
 cells:∀T,tv.ownBlock=some T->∀j (h:j<tos.length),wi.cell? ⟨T,j,none⟩=some (.int .i64 (if j<t then ((placeOf ord (tos[j]'h).toNat:Nat):Int) else tos[j]'h))
 free:∀T j,tv.ownBlock=some T->wi.frozen? ⟨T,j,none⟩=false
theorem ad6.turned {lo:Nat}{w2 W7 W8:World}{pv lv tv:Value}{y:aad}{ord:List Nat}(bo:ad6 lo w2.heap.size w2 pv lv tv y)(aB:Below w2.heap.size w2 W7)(be:amU W7 W8 tv y.fin.to ord y.fin.to.length)(ho:ord.length<=40) :
 ∃a1 b1,(lo<=a1∧b1<=w2.heap.size)∧ab4 a1 b1 W8 114 2 ag4 pv y.phis ∧
   SlAt (fun b=>lo<=b∧b<w2.heap.size∧pv.ownBlock≠some b) W8 8 ajY lv y.list ∧
   SlAt (fun b=>lo<=b∧b<w2.heap.size∧pv.ownBlock≠some b) W8 1 aaO tv (y.fin.to.map (fun t=>((placeOf ord t.toNat:Nat):Int))):=by
 obtain⟨a1,b1,a2,b2,a3,b3,k1,k2,k3,bB,bh,bC,o1,o2,o3⟩:=bo;have h3:=fun T hT=>(o3.row T hT).1;have kk:∀k,k<w2.heap.size->¬(a3<=k∧k<b3)->W8.heap[k]?=w2.heap[k]?:=fun k hk hn=>by
  rw [be.grow.block k (by have:=aB.size;omega) (fun e=>hn (h3 k e.symm)),aB.block k hk]
 have q1:=fun T hT=>(o1.row T hT).1;have e1:∀b,¬(a1<=b∧b<b1)->pv.ownBlock≠some b:=fun b hn e=>hn (q1 b e);refine⟨a1,b1,⟨k1.1,k1.2.2⟩,o1.kept aa0 (fun k h1 h2=>kk k (by omega) (by unfold aiL at bh;omega)),?_,?_⟩
 . refine ((o2.kept (w':=W8) aa6 (fun k h1 h2=>kk k (by omega) (by unfold aiL at bC;omega))).toSl aa6 (by decide)).mono aa6 (fun b hb=>?_) (aav.refl _ _)
   obtain⟨af,aH⟩:=hb;exact⟨by omega,by omega,e1 b (by unfold aiL at bB;omega)⟩
 . obtain⟨ao,c,hv,n1,n2,-⟩:=o3.toSl aae (by decide)
   refine⟨ao,c,by rw [Aal];exact hv,by rw [Aal];exact n1,n2,fun ae=>?_⟩;have hl:0<y.fin.to.length:=by
    have:=List.length_pos_iff.2 ae
    rwa [Aal] at this
   obtain⟨T,c',cs,hT,bI,-⟩:=o3.at hl;have bk:tv.ownBlock=some T:=by rw [hT];rfl
   rw [hv] at hT;cases hT;refine⟨T,0,rfl,⟨by omega,by omega,e1 T (by unfold aiL at bh;omega)⟩,fun i x hx=>?_⟩;rw [Aak] at hx;cases hq:y.fin.to[i]? with
   | none=>rw [hq] at hx;cases hx
   | some q =>
     rw [hq] at hx;cases hx;obtain⟨hi,rfl⟩:=Aae.1 hq;have hc:=be.cells T bk i hi;rw [if_pos hi] at hc;have hle:placeOf ord (y.fin.to[i]).toNat<=40:=Aag List.idxOf_le_length ho;refine⟨_,⟨rfl,by dsimp only;omega,by dsimp only;omega⟩,rfl,fun j u hj=>?_⟩
     match j,hj with
     | 0,hj=>cases hj;rw [Aab,Aan,Aa2];exact hc
     | j+1,hj=>simp at hj
end
section
open Go.RowKit
variable {w:World}{b:Nat}
theorem ahV{w':World}{o:Nat}{cs:List Value}(h:aaj w b o cs)(hk:w'.heap[b]?=w.heap[b]?):aaj w' b o cs:=fun j v hj=>by
 rw [World.cell?_of_block (w:=w) (a:=⟨b,o+j,none⟩) hk];exact h j v hj
variable {cur:Array Value}{T:TypeId}
theorem aay{i:Nat}{f:Nat×Nat}(h:w.heap[b]?=some (.cells cur T f))(u:Value):(w.setCell ⟨b,i,none⟩ u).heap[b]?=some (.cells (cur.setIfInBounds i u) T f):=by
 simp [World.setCell,Array.getElem?_modify,h]
theorem aaI{i:Nat}{f:Nat×Nat}(h:w.heap[b]?=some (.cells cur T f)):w.cell? ⟨b,i,none⟩=cur[i]?:=by
 simp [World.cell?,h]
theorem anG{R o:Nat}(u0 u1 u2 u3 u4 u5:Value)(h:w.heap[R]?=some (.cells cur T (0,0)))(ho:o+6<=cur.size) :
 ∃ar,(((((((w.setCell ⟨R,o,none⟩ u0).setCell ⟨R,o+1,none⟩ u1).setCell ⟨R,o+2,none⟩ u2).setCell ⟨R,o+3,none⟩ u3).setCell ⟨R,o+4,none⟩ u4).setCell ⟨R,o+5,none⟩ u5).heap[R]?=some (.cells ar T (0,0)))∧ar.size=cur.size ∧
   aaj ((((((w.setCell ⟨R,o,none⟩ u0).setCell ⟨R,o+1,none⟩ u1).setCell ⟨R,o+2,none⟩ u2).setCell ⟨R,o+3,none⟩ u3).setCell ⟨R,o+4,none⟩ u4).setCell ⟨R,o+5,none⟩ u5) R o [u0,u1,u2,u3,u4,u5] ∧
   ∀j,(j<o∨o+6<=j)->((((((w.setCell ⟨R,o,none⟩ u0).setCell ⟨R,o+1,none⟩ u1).setCell ⟨R,o+2,none⟩ u2).setCell ⟨R,o+3,none⟩ u3).setCell ⟨R,o+4,none⟩ u4).setCell ⟨R,o+5,none⟩ u5).cell? ⟨R,j,none⟩=w.cell? ⟨R,j,none⟩:=by
 have h1:=aay (i:=o) h u0;have h2:=aay (i:=o+1) h1 u1;have h3:=aay (i:=o+2) h2 u2;have h4:=aay (i:=o+3) h3 u3;have h5:=aay (i:=o+4) h4 u4;have h6:=aay (i:=o+5) h5 u5;refine⟨_,h6,by simp,fun j v hj=>?_,fun j hj=>?_⟩
 . rw [aaI h6]
   have bM:j<6:=by have:=(Aae.1 hj).1;simpa using this
   simp only [Abx,Array.size_setIfInBounds]
   match j,hj with
   | 0,hj=>cases hj;simp;omega
   | 1,hj=>cases hj;simp;omega
   | 2,hj=>cases hj;simp;omega
   | 3,hj=>cases hj;simp;omega
   | 4,hj=>cases hj;simp;omega
   | 5,hj=>cases hj;simp;omega
   | k+6,hj=>simp at hj
 . rw [aaI h6,aaI h]
   simp only [Abx,Array.size_setIfInBounds];rw [if_neg (by omega),if_neg (by omega),if_neg (by omega),if_neg (by omega),if_neg (by omega),if_neg (by omega)]
structure TSt (w W6 wr:World)(R cap:Nat)(bs:List aad)(ord:List Nat)(k:Nat):Prop where
 below:Below w.heap.size w wr
 size:W6.heap.size<=wr.heap.size
 keep:∀b,b<W6.heap.size->b≠R->wr.heap[b]?=W6.heap[b]?
 row:∃cur,wr.heap[R]?=some (.cells cur 59 (0,0))∧cur.size=cap * 6
 done:∀(j b:Nat),j<k->ord[j]?=some b->∃cs,cs.length=6∧aaj wr R (j * 6) cs∧aaJ (iv W6.heap.size wr.heap.size) wr cs (aft ord (aag bs 0 b) (bs.getD b aaM))
section
variable {w W6 wo wr : World} {R cap : Nat} {bs : List aad} {ord : List Nat} {k : Nat}
theorem TSt.cell(h:TSt w W6 wr R cap bs ord k){b o:Nat}{v:Value}(hc:W6.cell? ⟨b,o,none⟩=some v)(hb:b≠R):wr.cell? ⟨b,o,none⟩=some v:=by
 rw [World.cell?_of_block (w:=W6) (a:=⟨b,o,none⟩) (h.keep b (aac hc) hb)];exact hc
theorem TSt.later(h:TSt w W6 wo R cap bs ord k)(hb:Below wo.heap.size wo wr)(hR:R<wo.heap.size):TSt w W6 wr R cap bs ord k:=by
 refine⟨h.below.trans (hb.mono h.below.size),Aag h.size hb.size,fun b h1 h2=>?_,?_,fun j b h1 h2=>?_⟩
 . rw [hb.block b (Aap h1 h.size),h.keep b h1 h2]
 . obtain⟨cur,h1,h2⟩:=h.row
   exact⟨cur,by rw [hb.block R hR];exact h1,h2⟩
 . obtain⟨cs,h3,h4,h5⟩:=h.done j b h1 h2
   exact⟨cs,h3,h4.later hb,aam.out _ _ _ _ _ _ (fun b h=>⟨h.1,Aap h.2 hb.size⟩) (aav.below' hb) h5⟩
theorem TSt.next (h : TSt w W6 wr R cap bs ord k) (hw : w.heap.size <= R) (hR : R < W6.heap.size) (hk : k < cap) {q : Nat} (hq : ord[k]? = some q) (u0 u1 u2 u3 u4 u5 : Value)
 (hx:aaJ (iv W6.heap.size wr.heap.size) wr [u0,u1,u2,u3,u4,u5] (aft ord (aag bs 0 q) (bs.getD q aaM))) :
 TSt w W6 ((((((wr.setCell ⟨R,k * 6,none⟩ u0).setCell ⟨R,k * 6+1,none⟩ u1).setCell ⟨R,k * 6+2,none⟩ u2).setCell ⟨R,k * 6+3,none⟩ u3).setCell ⟨R,k * 6+4,none⟩ u4).setCell ⟨R,k * 6+5,none⟩ u5) R cap bs ord (k+1):=by
 obtain⟨cur,aN,aZ⟩:=h.row;obtain⟨ar,r1,r2,r3,r4⟩:=anG (o:=k * 6) u0 u1 u2 u3 u4 u5 aN (by omega);have al:((((((wr.setCell ⟨R,k * 6,none⟩ u0).setCell ⟨R,k * 6+1,none⟩ u1).setCell ⟨R,k * 6+2,none⟩ u2).setCell ⟨R,k * 6+3,none⟩ u3).setCell ⟨R,k * 6+4,none⟩ u4).setCell ⟨R,k * 6+5,none⟩ u5).heap.size=wr.heap.size:=by simp [World.setCell]
 have a8:∀b,b≠R->((((((wr.setCell ⟨R,k * 6,none⟩ u0).setCell ⟨R,k * 6+1,none⟩ u1).setCell ⟨R,k * 6+2,none⟩ u2).setCell ⟨R,k * 6+3,none⟩ u3).setCell ⟨R,k * 6+4,none⟩ u4).setCell ⟨R,k * 6+5,none⟩ u5).heap[b]?=wr.heap[b]?:=fun b hb=>by
  iterate 6 rw [Below.heap_setCell _ _ _ _ (by dsimp only;exact hb)]
 have aL:Below w.heap.size w ((((((wr.setCell ⟨R,k * 6,none⟩ u0).setCell ⟨R,k * 6+1,none⟩ u1).setCell ⟨R,k * 6+2,none⟩ u2).setCell ⟨R,k * 6+3,none⟩ u3).setCell ⟨R,k * 6+4,none⟩ u4).setCell ⟨R,k * 6+5,none⟩ u5) :=
  (((((h.below.setCell (p:=⟨R,k * 6,none⟩) hw _).setCell (p:=⟨R,k * 6+1,none⟩) hw _).setCell (p:=⟨R,k * 6+2,none⟩) hw _).setCell (p:=⟨R,k * 6+3,none⟩) hw _).setCell (p:=⟨R,k * 6+4,none⟩) hw _).setCell (p:=⟨R,k * 6+5,none⟩) hw _
 generalize ((((((wr.setCell ⟨R,k * 6,none⟩ u0).setCell ⟨R,k * 6+1,none⟩ u1).setCell ⟨R,k * 6+2,none⟩ u2).setCell ⟨R,k * 6+3,none⟩ u3).setCell ⟨R,k * 6+4,none⟩ u4).setCell ⟨R,k * 6+5,none⟩ u5)=WN at *;have aG:aav (iv W6.heap.size wr.heap.size) wr WN:=aba fun b hb _=>a8 b (by have:=hb.1;omega);refine⟨aL,by rw [al];exact h.size,fun b h1 h2=>by rw [a8 b h2,h.keep b h1 h2],⟨ar,r1,by rw [r2,aZ]⟩,fun j b h1 h2=>?_⟩;rw [al]
 by_cases hjk:j=k
 . subst hjk
   rw [hq] at h2;cases h2;exact⟨_,rfl,r3,aam.out _ _ _ _ _ _ (fun _ h=>h) aG hx⟩
 . obtain⟨cs,h3,h4,h5⟩:=h.done j b (by omega) h2
   refine⟨cs,h3,fun i u hu=>?_,aam.out _ _ _ _ _ _ (fun _ h=>h) aG h5⟩;have hi:i<6:=by rw [<-h3];exact (Aae.1 hu).1
   rw [r4 _ (by omega)];exact h4 i u hu
theorem TSt.sl(h:TSt w W6 wr R cap bs ord ord.length){c:Nat}(hc:ord.length<=c)(hm:c<=9223372036854775807){lo:Nat}(hw:lo<=R)(hR:R<W6.heap.size):SlAt (iv lo wr.heap.size) wr 6 aaJ (.slice (some ⟨R,0,none⟩) ord.length c) (aaV bs ord):=by
 have hl:(aaV bs ord).length=ord.length:=by unfold aaV;simp
 refine⟨_,c,by rw [hl],by rw [hl];exact hc,hm,fun _=>⟨R,0,rfl,⟨hw,Aap hR h.size⟩,fun i x hx=>?_⟩⟩;have hi:i<ord.length:=by rw [<-hl];exact (Aae.1 hx).1
 obtain⟨cs,h3,h4,h5⟩:=h.done i _ hi (Aaa hi);unfold aaV at hx;rw [Aak,Aaa hi] at hx;cases hx;exact⟨cs,aam.out _ _ _ _ _ _ (fun b h=>⟨by have:=h.1;omega,h.2⟩) (aav.refl _ _) h5,h3,by rw [Aab];exact h4⟩
end
end
section
open Go.RowKit
theorem ac2(w:World)(a b c:Obj):(((w.alloc a).alloc b).alloc c).heap.size=w.heap.size+3∧(((w.alloc a).alloc b).alloc c).heap[w.heap.size]?=some a∧(((w.alloc a).alloc b).alloc c).heap[w.heap.size+1]?=some b∧(((w.alloc a).alloc b).alloc c).heap[w.heap.size+1+1]?=some c:=by
 have hs:∀(v:World) (o:Obj),(v.alloc o).heap.size=v.heap.size+1:=fun v o=>by simp
 have s1:=hs w a;have s2:=hs (w.alloc a) b;have s3:=hs ((w.alloc a).alloc b) c;have e1:=heap_alloc_new w a;have e2:=heap_alloc_new (w.alloc a) b;have e3:=heap_alloc_new ((w.alloc a).alloc b) c;rw [s1] at e2;rw [s2,s1] at e3;refine⟨by omega,?_,?_,e3⟩
 . rw [Below.heap_alloc _ _ _ (by omega),Below.heap_alloc _ _ _ (by omega)];exact e1
 . rw [Below.heap_alloc _ _ _ (by omega)];exact e2
variable {w:World}
theorem aah{b:Nat}{cs:List Value}{T:TypeId}{f:Nat×Nat}(h:w.heap[b]?=some (.cells cs.toArray T f)):aaj w b 0 cs:=fun j v hj=>by
 rw [Aab,aaI h,List.getElem?_toArray];exact hj
theorem aat{b:Nat}{cur:Array Value}{T:TypeId}(h:w.heap[b]?=some (.cells cur T (0,0)))(i:Nat):w.frozen? ⟨b,i,none⟩=false:=by simp [World.frozen?,h]
theorem abk(w:World)(a b:Obj):((w.alloc a).alloc b).heap.size=w.heap.size+2∧((w.alloc a).alloc b).heap[w.heap.size]?=some a∧((w.alloc a).alloc b).heap[w.heap.size+1]?=some b:=by
 have hs:∀(v:World) (o:Obj),(v.alloc o).heap.size=v.heap.size+1:=fun v o=>by simp
 have s1:=hs w a;have s2:=hs (w.alloc a) b;have e1:=heap_alloc_new w a;have e2:=heap_alloc_new (w.alloc a) b;rw [s1] at e2;exact⟨by omega,by rw [Below.heap_alloc _ _ _ (by omega)];exact e1,e2⟩
theorem SlAt.live{α:Type}{r:Rp α}{S:Nat->Prop}{sz:Nat}{v:Value}{l:List α}(h0:0<sz)(hr:∀cs x,r S w cs x->r (fun b=>S b∧b<w.heap.size) w cs x)(h:SlAt S w sz r v l):SlAt (fun b=>S b∧b<w.heap.size) w sz r v l:=by
 obtain⟨ao,c,h1,h2,h3,h4⟩:=h;refine⟨ao,c,h1,h2,h3,fun ae=>?_⟩;obtain⟨b,off,h5,h6,h7⟩:=h4 ae;refine⟨b,off,h5,⟨h6,?_⟩,fun i x hx=>?_⟩
 . cases l with
   | nil=>exact absurd rfl ae
   | cons x l =>
     obtain⟨cs,g1,g2,g3⟩:=h7 0 x rfl;cases cs with
     | nil=>simp at g2;omega
     | cons u cs=>exact aac (g3 0 u rfl)
 . obtain⟨cs,g1,g2,g3⟩:=h7 i x hx
   exact⟨cs,hr _ _ g1,g2,g3⟩
theorem afD{S:Nat->Prop}(cs:List Value)(x:List Int)(h:rRow S w cs x):rRow (fun b=>S b∧b<w.heap.size) w cs x:=by
 obtain⟨v,h1,h2⟩:=h;exact⟨v,h1,h2.live (by decide) fun _ _ h=>h⟩
end
section
open Go.RowKit
def aeX(W:World)(UO UX:Nat)(u0 u1 c a:Value):World:=(((W.setCell ⟨UO,0,none⟩ u0).setCell ⟨UO,1,none⟩ u1).setCell ⟨UX,0,none⟩ c).setCell ⟨UX,1,none⟩ a
variable {W:World}{UO UX:Nat}
theorem agR{o0 o1 x0 x1:Value}(u0 u1 c a:Value)(hF:aaj W UO 0 [o0,o1])(hX:aaj W UX 0 [x0,x1])(ae:UO≠UX) :
 aaj (aeX W UO UX u0 u1 c a) UO 0 [u0,u1]∧aaj (aeX W UO UX u0 u1 c a) UX 0 [c,a]:=by
 unfold aeX;have q4:=apX (u0:=u0) (u1:=u1) hF;obtain⟨W4,aW⟩:∃W4,W4=(W.setCell ⟨UO,0,none⟩ u0).setCell ⟨UO,1,none⟩ u1:=⟨_,rfl⟩
 have bl:aaj W4 UX 0 [x0,x1]:=fun j v hj=>by
  rw [aW,aaf _ (Ne.symm ae),aaf _ (Ne.symm ae)];exact hX j v hj
 rw [<-aW] at q4 ⊢;have q2:=apX (u0:=c) (u1:=a) bl;exact⟨fun j v hj=>by rw [aaf _ ae,aaf _ ae];exact q4 j v hj,q2⟩
variable {u0 u1 c a:Value}
theorem afO{B:Nat}{w:World}(h:Below B w W)(hF:B<=UO)(hX:B<=UX):Below B w (aeX W UO UX u0 u1 c a) :=
 (((h.setCell (p:=⟨UO,0,none⟩) hF _).setCell (p:=⟨UO,1,none⟩) hF _).setCell (p:=⟨UX,0,none⟩) hX _).setCell (p:=⟨UX,1,none⟩) hX _
theorem alx{b:Nat}(h1:b≠UO)(h2:b≠UX):(aeX W UO UX u0 u1 c a).heap[b]?=W.heap[b]?:=by
 unfold aeX;rw [Below.heap_setCell _ _ _ _ (by dsimp only;exact h2),Below.heap_setCell _ _ _ _ (by dsimp only;exact h2),Below.heap_setCell _ _ _ _ (by dsimp only;exact h1),Below.heap_setCell _ _ _ _ (by dsimp only;exact h1)]
theorem aj9{fn : Func} (aP : fn.results = #[.cell 2 25, .cell 3 31]) {tmps : Array Value}
 (h4:tmps.getD 2 undef = .pointer (some ⟨UO,0,none⟩)) (h5:tmps.getD 3 undef = .pointer (some ⟨UX,0,none⟩)) (hF:aaj W UO 0 [u0,u1]) (hX:aaj W UX 0 [c,a]) :
 (results fn tmps).run Tryz.prog W = .ok (.tuple #[.agg #[u0,u1],.agg #[c,a]]) W:=by
 obtain⟨a0,a1⟩:=hF.get2;obtain⟨b0,b1⟩:=hX.get2;simp only [Ab3] at h4 h5;simp [results,aP,h4,h5,go_sem,a0,a1,b0,b1]
end
end Go.Proofs.YtnkfdeiigplhoaaGreatDoor
