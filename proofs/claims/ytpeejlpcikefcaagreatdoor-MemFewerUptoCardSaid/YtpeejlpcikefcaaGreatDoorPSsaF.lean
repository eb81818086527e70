import Derived.Test.YtpeejlpcikefcaaGreatDoorPGPost
import Derived.Test.YtpeejlpcikefcaaGreatDoorPUses
/- dom.meet: where two ways up meet. dom.TreeOf. ssa.CheckOf. ssa.Check. A unit in static single assignment; its functions by number. -/
set_option maxHeartbeats 8000000
set_option maxRecDepth 100000
namespace Go.Proofs.YtpeejlpcikefcaaGreatDoor
section
open Go.RowKit
theorem anB(ps:Nat->Nat)(up:Nat->Int)(f a:Nat):ad4 ps up f a a=a:=by
 cases f with
 | zero=>rfl
 | succ f=>rw [ad4,if_pos rfl]
theorem arp {S S' : Nat -> Prop} (ua ta : Option Addr) (uc tc n : Nat) (U T : List Int) (ps : Nat -> Nat) (up : Nat -> Int) (a b : Nat) (w : World) (hU : SlAt S w 1 acz (.slice ua n uc) U) (hT : SlAt S' w 1 acz (.slice ta n tc) T) (dt : U.length = n) (dm : T.length = n)
 (_hn:n<=1048576) (hu:∀x,x<n->U.getD x 0=up x) (hp:∀x,x<n->0<=up x->T.getD x 0=(ps x:Int)) (ht:akl n ps up) (ha:0<=up a) (hb:0<=up b) :
 Calls Tryz.prog 75 #[.slice ua n uc,.slice ta n tc,.int .i64 (a:Int),.int .i64 (b:Int)] w fun e w'=>e = .returned (.int .i64 (mtF ps up a b:Nat))∧Below w.heap.size w w':=by
 have HU:=hid hU;have HT:=hid hT;have cY:=hid dt;have dB:=hid dm;have Hu:=hid hu;have Hp:=hid hp;have Ht:=hid ht;have Ha:=hid ha;have Hb:=hid hb;clear hU hT dt dm hu hp ht ha hb;go_enter Tryz.func75,Tryz.ntmps75;go_wp2_with fail;go_loopw [2,3] (fun s2 s3 wr=>∃(f x y q:Nat),s2 = .int .i64 (x:Int)∧s3 = .int .i64 (y:Int)∧0<=up x∧0<=up y∧ps x+ps y<f∧ad4 ps up f x y=mtF ps up a b∧w.drewN q=wr) (fun s2 s3 _=>ps (intOf s2).toNat+ps (intOf s3).toNat)
 case atStart=>exact⟨_,a,b,0,rfl,rfl,Ha.out,Hb.out,by omega,rfl,rfl⟩
 case round =>
  obtain⟨f,x,y,q,rfl,rfl,hx,hy,hf,hr,rfl⟩:=hrel;have Hx:=hid hx;have Hy:=hid hy;have Hf:=hid hf;have Hr:=hid hr;have bO:=Ht.out.lt x hx;have b5:=Ht.out.lt y hy;clear hx hy hf hr
  by_cases hxy:(x:Int)=(y:Int)
  . obtain rfl:y=x:=by omega
    have hv:mtF ps up a b=y:=by
     rw [<-Hr.out,anB]
    have Hv:=hid hv;clear hv hxy;go_wp2_with fail;go_ret;exact⟨by rw [Hv.out];rfl,bE⟩
  . have q1:x<y∨y<x:=by omega
    have dA:x<T.length:=by rw [dB.out];exact bO
    have di:y<T.length:=by rw [dB.out];exact b5
    have dg:x<U.length:=by rw [cY.out];exact bO
    have dv:y<U.length:=by rw [cY.out];exact b5
    obtain⟨tb,ej,rfl,c0⟩:=adv HT.out dA;obtain⟨eC,du,e0,c1⟩:=adv HT.out di;cases e0;obtain⟨ub,dU,rfl,d0⟩:=adv HU.out dg;obtain⟨ew,cP,e0,d1⟩:=adv HU.out dv;cases e0;have e1:T[x]=(ps x:Int):=by have h:=Hp.out x bO Hx.out;rw [Aaf,Aaa dA] at h;exact h
    have e2:T[y]=(ps y:Int):=by have h:=Hp.out y b5 Hy.out;rw [Aaf,Aaa di] at h;exact h
    have e3:U[x]=up x:=by have h:=Hu.out x bO;rw [Aaf,Aaa dg] at h;exact h
    have e4:U[y]=up y:=by have h:=Hu.out y b5;rw [Aaf,Aaa dv] at h;exact h
    rw [e1] at c0;rw [e2] at c1;rw [e3] at d0;rw [e4] at d1;obtain⟨x',bu⟩:=Abc Hx.out;obtain⟨y',bB⟩:=Abc Hy.out;have bZ:=Ht.out.next x Hx.out;have b7:=Ht.out.next y Hy.out;have bL:=Ht.out.less x Hx.out;have bN:=Ht.out.less y Hy.out;rw [bu,Aan] at bZ bL;rw [bB,Aan] at b7 bN;rw [bu] at d0;rw [bB] at d1;have z0:ps 0=0:=Ht.out.root;have aS:=Ht.out.inj x y Hx.out Hy.out;obtain⟨f',rfl⟩:∃f',f=f'+1:=⟨f - 1,by have:=Hf.out;omega⟩
    obtain⟨p1,bS⟩:∃p1,ps x=p1:=⟨_,rfl⟩
    obtain⟨p2,bX⟩:∃p2,ps y=p2:=⟨_,rfl⟩
    rw [bS] at c0;rw [bX] at c1;have zt:tb<w.heap.size:=aac c0;have zu:ub<w.heap.size:=aac d0;have aE:=hid bZ;have dR:=hid b7;have bn:x≠y:=by omega
    by_cases bd:p1<p2
    . have q2:decide (p1<p2)=true:=decide_eq_true bd
      have bM:y≠0:=fun e=>by rw [e,z0] at bX;omega
      have cc:=bN bM;have Hv:Hid (ad4 ps up f' y' x=mtF ps up a b):=by
       show _=_;rw [<-Hr.out,show ad4 ps up (f'+1) x y=ad4 ps up f' (up y).toNat x by rw [ad4,if_neg bn,if_pos (by omega)],bB,Aan]
      have Hm:Hid (ps y'+ps x<ps x+ps y):=by show _<_;omega
      clear bu bB bL bN aS z0 bn bM cc bd bS bX e1 e2 e3 e4 bZ b7 hxy;go_wp2_with fail;go_quiet (fail);go_wp2_with fail;go_roundw
      case rel=>exact⟨f',y',x,_,rfl,rfl,dR.out,Hx.out,by have:=Hm.out;have:=Hf.out;omega,Hv.out,rfl⟩
      case measure=>have:=Hm.out;simp [intOf];omega
    . have q2:decide (p1<p2)=false:=decide_eq_false bd
      have aM:x≠0:=fun e=>by
       rw [e,z0] at bS;exact bn (aS (by omega))
      have cp:=bL aM;have Hv:Hid (ad4 ps up f' x' y=mtF ps up a b):=by
       show _=_;rw [<-Hr.out,show ad4 ps up (f'+1) x y=ad4 ps up f' (up x).toNat y by rw [ad4,if_neg bn,if_neg (by omega)],bu,Aan]
      have Hm:Hid (ps x'+ps y<ps x+ps y):=by show _<_;omega
      clear bu bB bL bN aS z0 bn aM cp bd bS bX e1 e2 e3 e4 bZ b7 hxy;go_wp2_with fail;go_quiet (fail);go_wp2_with fail;go_roundw
      case rel=>exact⟨f',x',y,_,rfl,rfl,aE.out,Hy.out,by have:=Hm.out;have:=Hf.out;omega,Hv.out,rfl⟩
      case measure=>have:=Hm.out;simp [intOf];omega
end
section
open Go.RowKit
def alW(n:Nat)(f:Nat->Int):Array Value:=((List.range n).map fun x=>Value.int .i64 (f x)).toArray
variable {n:Nat}{f:Nat->Int}
theorem agv{x:Nat}(h:x<n):(alW n f)[x]?=some (.int .i64 (f x)):=by
 unfold alW;rw [Ab8,Aak,Ab9 h];rfl
theorem ah6(n:Nat)(f:Nat->Int):(alW n f).size=n:=by unfold alW;simp
theorem amL{c:Nat}(b:Int):(alW n f).setIfInBounds c (.int .i64 b)=alW n (afI f c b):=by
 apply Array.ext_getElem?;intro i;rw [Acr];rcases Abn i n with h | h
 . by_cases hc:c=i
   . subst hc
     rw [if_pos rfl,if_pos (by rw [ah6];exact h),agv h,abq]
   . rw [if_neg hc,agv h,agv h,abP _ _ (Ne.symm hc)]
 . have e:∀f:Nat->Int,(alW n f)[i]?=none:=fun f=>Array.getElem?_eq_none (by rw [ah6];exact h)
   by_cases hc:c=i
   . subst hc
     rw [if_pos rfl,if_neg (by rw [ah6];omega),e]
   . rw [if_neg hc,e,e]
theorem anC{g:Nat->Int}(h:∀x,x<n->f x=g x):alW n f=alW n g:=by
 unfold alW
 congr 1
 exact Abx fun x hx=>by rw [h x (Abv.1 hx)]
theorem alX{W:World}{g:Nat}(h:W.heap[g]?=some (.cells (alW n f) 3 (0,0)))(hf:∀x,x<n->I64 (f x))(hn:n<=1048576):SlAt (fun b=>b=g) W 1 acz (.slice (some ⟨g,0,none⟩) n n) ((List.range n).map f):=by
 have hl:((List.range n).map f).length=n:=by simp
 refine⟨_,n,by rw [hl],by omega,by omega,fun _=>⟨g,0,rfl,rfl,fun i x hx=>?_⟩⟩;rw [Aak] at hx;have hi:i<n:=by
  rcases Abn i n with h | h
  . exact h
  . rw [Aap (by simpa using h)] at hx;cases hx
 rw [Ab9 hi] at hx;cases hx;refine⟨_,⟨rfl,hf i hi⟩,rfl,fun j u hj=>?_⟩
 match j,hj with
 | 0,hj =>
   cases hj;rw [aaW h];simpa using agv hi
 | j+1,hj=>simp at hj
theorem akX{x:Nat}(h:x<n):((List.range n).map f).getD x 0=f x:=by
 rw [Aaf,Aak,Ab9 h];rfl
structure aeb (w W0 W:World)(AT UP n:Nat)(a u:Nat->Int):Prop where
 size:W0.heap.size<=W.heap.size
 keep:∀b,b<W0.heap.size->b≠AT->b≠UP->W.heap[b]?=W0.heap[b]?
 env:W.os=W0.os∧W.tape=W0.tape∧W.output=W0.output
 rowA:W.heap[AT]?=some (.cells (alW n a) 3 (0,0))
 rowU:W.heap[UP]?=some (.cells (alW n u) 3 (0,0))
 old:Below w.heap.size w W0
 lo:w.heap.size<=AT∧w.heap.size<=UP∧AT<W0.heap.size∧UP<W0.heap.size∧AT≠UP
section
variable {w W0 W W' : World} {AT UP n : Nat} {a u : Nat -> Int}
theorem aeb.below(h:aeb w W0 W AT UP n a u):Below w.heap.size w W:=by
 have hz:=h.old.size;have hl:=h.lo;exact⟨h.env.1.trans h.old.os,h.env.2.1.trans h.old.tape,h.env.2.2.trans h.old.output,Aai hz h.size,fun k hk=>(h.keep k (by omega) (by omega) (by omega)).trans (h.old.block k hk)⟩
theorem aeb.later(h:aeb w W0 W AT UP n a u)(hb:Below W.heap.size W W'):aeb w W0 W' AT UP n a u:=by
 have hz:=h.size;have hl:=h.lo;exact⟨Aai hz hb.size,fun b h1 h2 h3=>(hb.block b (by omega)).trans (h.keep b h1 h2 h3),⟨hb.os.trans h.env.1,hb.tape.trans h.env.2.1,hb.output.trans h.env.2.2⟩,(hb.block AT (by omega)).trans h.rowA,(hb.block UP (by omega)).trans h.rowU,h.old,h.lo⟩
theorem aeb.anew(h:aeb w W0 W AT UP n a u):aeb w W W AT UP n a u:=by
 have hz:=h.size;have hl:=h.lo;exact⟨Aac _,fun _ _ _ _=>rfl,⟨rfl,rfl,rfl⟩,h.rowA,h.rowU,h.below,by omega⟩
theorem aeb.setA(h:aeb w W0 W AT UP n a u)(c:Nat)(b:Int):aeb w W0 (W.setCell ⟨AT,c,none⟩ (.int .i64 b)) AT UP n (afI a c b) u:=by
 have hl:=h.lo;refine⟨by simpa [World.setCell] using h.size,fun k h1 h2 h3=>?_,h.env,?_,?_,h.old,h.lo⟩
 . rw [Below.heap_setCell _ _ _ _ (by dsimp only;exact h2)];exact h.keep k h1 h2 h3
 . rw [aak h.rowA,amL]
 . rw [Below.heap_setCell _ _ _ _ (by dsimp only;omega)];exact h.rowU
theorem aeb.setU(h:aeb w W0 W AT UP n a u)(c:Nat)(b:Int):aeb w W0 (W.setCell ⟨UP,c,none⟩ (.int .i64 b)) AT UP n a (afI u c b):=by
 have hl:=h.lo;refine⟨by simpa [World.setCell] using h.size,fun k h1 h2 h3=>?_,h.env,?_,?_,h.old,h.lo⟩
 . rw [Below.heap_setCell _ _ _ _ (by dsimp only;exact h3)];exact h.keep k h1 h2 h3
 . rw [Below.heap_setCell _ _ _ _ (by dsimp only;omega)];exact h.rowA
 . rw [aak h.rowU,amL]
theorem aeb.congr(h:aeb w W0 W AT UP n a u){a':Nat->Int}(he:∀x,x<n->a x=a' x):aeb w W0 W AT UP n a' u :=
 ⟨h.size,h.keep,h.env,by rw [<-anC he];exact h.rowA,h.rowU,h.old,h.lo⟩
theorem aeb.atU(h:aeb w W0 W AT UP n a u){x:Nat}(hx:x<n):W.cell? ⟨UP,x,none⟩=some (.int .i64 (u x)):=by rw [aaW h.rowU,agv hx]
theorem aeb.fzA(h:aeb w W0 W AT UP n a u)(x:Nat):W.frozen? ⟨AT,x,none⟩=false:=by simp [World.frozen?,h.rowA]
theorem aeb.atA(h:aeb w W0 W AT UP n a u){x:Nat}(hx:x<n):W.cell? ⟨AT,x,none⟩=some (.int .i64 (a x)):=by rw [aaW h.rowA,agv hx]
theorem aeb.fzU(h:aeb w W0 W AT UP n a u)(x:Nat):W.frozen? ⟨UP,x,none⟩=false:=by simp [World.frozen?,h.rowU]
theorem aeb.cell(h:aeb w W0 W AT UP n a u){b o:Nat}{v:Value}(hc:W0.cell? ⟨b,o,none⟩=some v)(h1:b≠AT)(h2:b≠UP):W.cell? ⟨b,o,none⟩=some v:=by
 rw [World.cell?_of_block (w:=W0) (a:=⟨b,o,none⟩) (h.keep b (aac hc) h1 h2)];exact hc
theorem aeb.sl {α:Type}{r:Rp α}(hr:r.Mono){S:Nat->Prop}{sz:Nat}{v:Value}{l:List α}(h:aeb w W0 W AT UP n a u)(hS:∀b,S b->b≠AT∧b≠UP)(hs:SlAt S W0 sz r v l):SlAt S W sz r v l :=
 hs.mono hr (fun _ h=>h) (acI fun b hb hl=>h.keep b hl (hS b hb).1 (hS b hb).2)
end
def upW(UP:Nat)(W:World):Nat->Int:=fun x=>match W.cell? ⟨UP,x,none⟩ with | some v=>intOf v | none=>0
variable {n:Nat}
theorem aeb.upW{w W0 W:World}{AT UP:Nat}{a u:Nat->Int}(h:aeb w W0 W AT UP n a u)(ps:Nat->Nat):muF n ps (upW UP W)=muF n ps u:=by
 have e:∀x,x<n->afh n ps (Go.Proofs.YtpeejlpcikefcaaGreatDoor.upW UP W) x=afh n ps u x:=fun x hx=>by
  unfold afh Go.Proofs.YtpeejlpcikefcaaGreatDoor.upW;rw [h.atU hx];rfl
 exact Nat.le_antisymm (ajl n fun x hx=>Nat.le_of_eq (e x hx)) (ajl n fun x hx=>Nat.le_of_eq (e x hx).symm)
theorem aec(bs:List DBlock):(ordL bs).length=(abj bs).length:=by unfold abj;simp
variable {bs:List DBlock}
theorem amM(h:aem bs){k:Nat}(hk:k<(abj bs).length):∃h':k<(ordL bs).length,(ordL bs)[k]=((abj bs)[k]:Int):=by
 have hl:k<(ordL bs).length:=by rw [aec];exact hk
 refine⟨hl,?_⟩;have hm:(ordL bs)[k]∈aaT bs:=Abs.1 (Aas hl);have h0:=((abb h).1 _ hm).1;have h2:(abj bs)[k]?=some ((ordL bs)[k]).toNat:=by
  unfold abj;rw [Aak,Aaa hl];rfl
 rw [Aaa hk] at h2;have h3:=Option.some.inj h2;omega
theorem arq{b j:Nat}(hj:j<(aaf bs 0 b).length):∃q:Nat,(aaf bs 0 b)[j]=(q:Int)∧q<bs.length∧(aeo bs b).drop j=q :: (aeo bs b).drop (j+1):=by
 have hm:=abu (Aas hj);obtain⟨q,hq⟩:=Abc hm.1;refine⟨q,hq,by omega,?_⟩;unfold aeo;rw [List.drop_eq_getElem_cons (by simpa using hj),Acc,hq];rfl
theorem ars(bs:List DBlock)(b:Nat):(aeo bs b).length=(aaf bs 0 b).length:=by unfold aeo;simp
structure anW (n:Nat)(bs:List DBlock)(more:Bool)(up:Nat->Int):Prop where
 go:more=true->DSt n (abj bs) (psF bs) (aeo bs) (fpF bs) 1 up∧(∀x,-1<=up x)∧∃f,muF n (psF bs) up<f∧anb (psF bs) (aeo bs) (abj bs).tail f up=ak3 bs
 stop:more=false->up=ak3 bs
theorem anW.start(h:aem bs):anW bs.length bs true up0 :=
 ⟨fun _=>⟨DSt.start (ag8 h) (amP h),fun x=>by unfold up0;split <;> omega,_,Nat.lt_succ_self _,rfl⟩,fun h=>by cases h⟩
def anD(v:Value):Nat:=match v with | .bool true=>1 | _=>0
theorem anW.next{up u:Nat->Int}{m:Bool}(ho:Rpo n (abj bs) (psF bs) (aeo bs) (fpF bs))(h:anW n bs true up)(hp:PSt n (abj bs) (psF bs) (aeo bs) (fpF bs) up (abj bs).length (u,m))(he:(u,m)=ahA (psF bs) (aeo bs) (abj bs).tail (up,false)) :
 anW n bs m u∧2 * muF n (psF bs) u+anD (.bool m)<2 * muF n (psF bs) up+1:=by
 obtain⟨-,-,f,hf,hr⟩:=h.go rfl;obtain⟨f',rfl⟩:∃f',f=f'+1:=⟨f - 1,by omega⟩
 rw [anb,<-he] at hr;cases m with
 | true =>
   have bd:=hp.lt rfl;dsimp only at bd hr;rw [if_pos rfl] at hr;exact⟨⟨fun _=>⟨hp.d.again ho,hp.low,f',by omega,hr⟩,fun h=>by cases h⟩,by simp only [anD];omega⟩
 | false =>
   have hle:=hp.le;dsimp only at hle hr;rw [if_neg (by simp)] at hr;exact⟨⟨fun h=>(by cases h),fun _=>hr⟩,by simp only [anD];omega⟩
theorem asQ{S:Nat->Prop}{w:World}{b off c:Nat}{l:List Int}(h:SlAt S w 1 acz (.slice (some ⟨b,off,none⟩) n c) l)(hn:0<n):SlAt S w 1 acz (.slice (some ⟨b,off+1,none⟩) (n - 1) (c - 1)) l.tail:=by
 obtain⟨ao,c',e,h1,h2,h3⟩:=h;cases e;have hl:l.tail.length=l.length - 1:=by simp
 refine⟨_,_,by rw [hl],by rw [hl];omega,by omega,fun _=>?_⟩;obtain⟨b',dN,e,h4,h5⟩:=h3 (fun e=>by rw [e] at hn;simp at hn);cases e;refine⟨b,off+1,rfl,h4,fun i x hx=>?_⟩;have el:l[i+1]?=some x:=by
  cases l with
  | nil=>simp at hx
  | cons a l=>simpa using hx
 obtain⟨cs,g1,g2,g3⟩:=h5 (i+1) x el;exact⟨cs,g1,g2,by rw [show off+1+i * 1=off+(i+1) * 1 by omega];exact g3⟩
theorem atJ(h:aem bs)(x:Nat):psF bs x<=bs.length:=by
 have h1:=ah9 h;unfold psF atF;split
 . have:=List.idxOf_le_length (a:=x) (l:=abj bs);omega
 . omega
theorem anE {S:Nat->Prop}(nm:ByteArray)(p r:Int)(ba:Option Addr)(n bc:Nat)(bs:List DBlock)(w:World)(hb:SlAt S w 6 aa2 (.slice ba n bc) bs)(hS:∀b,S b->b<w.heap.size)(bW:bs.length=n)(hn:n<=1048576)(hto:aem bs) :
 Calls Tryz.prog 47 #[.agg #[.string nm,.int .i64 p,.int .i64 r,.slice ba n bc]] w fun e w' =>
  ∃g,e = .returned (.slice (some ⟨g,0,none⟩) n n)∧w.heap.size<=g∧SlAt (fun b=>b=g) w' 1 acz (.slice (some ⟨g,0,none⟩) n n) (agx bs)∧Below w.heap.size w w':=by
 have Hb:=hid hb;have aq:=hid bW;have aF:=hid hto;have HS:=hid hS;have Ho:=hid (ag8 hto);have dw:0<n:=by rw [<-bW];exact hto.pos
 obtain⟨L,hL⟩:∃L,L=(ordL bs).length:=⟨_,rfl⟩
 have HL:=hid hL;have dn:0<L:=by rw [hL,aec];exact (af8 hto).1
 have eu:L<=n:=by rw [hL,aec,<-bW];exact ah9 hto
 clear hb bW hto hS hL;have dZ:=run_make_row' (P:=Tryz.prog) 42 3 (.int .i64 0) 8 Tryz.underlying42 ams rfl .i64 .i64 n (by omega) (by omega);go_enter Tryz.func47,Tryz.ntmps47
 go_wp2_with (first
  | (go_at_call 59; refine (afj (S := S) nm p r ba n bc bs _ (Hb.out.later aau bE) (fun b hb => by have := HS.out b hb; simp; omega) aq.out hn aF.out).mono ?_; rintro e w1 ⟨v, rfl, hv, ar⟩
     obtain ⟨oa, oc, dE⟩ := hv.shape
     subst dE
     rw [<- HL.out] at hv ⊢
     have cH : aal w1 w.heap.size 0 [.string nm, .int .i64 p, .int .i64 r, .slice ba n bc] := aal.later (.cons (by simp) (.cons (by simp) (.cons (by simp) (.cons (by simp) (.nil _ _ _))))) ar
     have bg := cH.get4.2.2.2
     have z1 : w.heap.size < w1.heap.size := aac bg
     have bp : Below w.heap.size w w1 := by exact bE1 ar
     have a1 := hid bp
     have Hv := hid hv
     clear hv ar bp))
 refine (adB _ _ (-1) n hn _ (aaB _ [.int .i64 (-1)] 3 (by simp) 0 _ rfl)).mono ?_;rintro e w2 ⟨UP,rfl,de,af,ay⟩;obtain⟨AT,cz⟩:∃AT,AT=w1.heap.size:=⟨_,rfl⟩
 rw [<-cz];have dF:w1.heap.size+2<=w2.heap.size:=by have:=ay.size;simpa using this
 have cu:w1.heap.size+2<=UP:=by simpa using de
 have cF:UP<w2.heap.size:=(Aag.1 af).1;have b6:Below w1.heap.size w1 w2:=by exact bE1 ay
 have aj:aeb w w2 w2 AT UP n (fun _=>0) (fun _ => -1):=by
  refine⟨Aac _,fun _ _ _ _=>rfl,⟨rfl,rfl,rfl⟩,?_,?_,a1.out.trans (b6.mono a1.out.size),?_⟩
  . rw [ay.block AT (by simp;omega),Below.heap_alloc _ _ _ (by simp;omega),cz,heap_alloc_new,ad6]
    unfold alW;rw [List.map_const'];simp
  . rw [af]
    unfold alW;rw [List.map_const'];simp
  . have:=a1.out.size;omega
 have ak:=hid aj;have dh:=Hv.out.sl;have cv:=hid ((dh.later aax b6).mono aax (S':=fun b=>b≠AT∧b≠UP) (fun b hb=>by have:=hb.2;omega) (aaS.refl _ _));have bw:=cH.later b6;have bj:=hid bw;have dO:w.heap.size<=AT:=by have:=a1.out.size;omega
 have ev:w.heap.size<AT:=by omega
 have et:w.heap.size<UP:=by omega
 clear ay af b6 aj dZ dh cH bw de cz cF bg;go_wp2_with fail;go_loopw [28] (fun i wr=>∃k:Nat,k<=L∧i = .int .i64 k∧aeb w w2 wr AT UP n (fun x=>((atF (abj bs) k x:Nat):Int)) (fun _ => -1)) (fun i _=>L - (intOf i).toNat)
 case atStart=>exact⟨0,Aaj _,rfl,ak.out.congr (fun x _=>by simp [atF,asD])⟩
 case round =>
  obtain⟨k,hk,rfl,ai⟩:=hrel;have aL:=hid ai
  by_cases hkl:k<L
  . have cU:k<(abj bs).length:=by rw [<-aec,<-HL.out];exact hkl
    obtain⟨dr,he⟩:=amM aF.out cU;obtain⟨ob,bF,rfl,c0⟩:=adv (ai.sl aax (fun b hb=>hb) cv.out) dr;obtain⟨q,hq⟩:∃q,q=(abj bs)[k]:=⟨_,rfl⟩
    rw [he,<-hq] at c0;have bq:q<n:=by rw [hq,<-aq.out];exact ah8 aF.out (Aas _)
    have c1:=ai.atA bq;have f1:=ai.fzA q;have zA:AT<wr.heap.size:=aac c1;have zo:ob<wr.heap.size:=aac c0;have ah:Hid (∀x,atF (abj bs) (k+1) x=if x=q then k else atF (abj bs) k x):=fun x=>by
     rw [aom (fun i j hi hj e=>ag7 aF.out hi hj e) cU,hq]
    clear ai he hq;go_wp2_with fail;go_roundw
    case rel=>exact⟨k+1,by omega,by go_num,(aL.out.setA q (k:Int)).congr (fun x _=>by rw [ah.out];unfold afI;split <;> rfl)⟩
    case measure=>simp [intOf];omega
  . obtain rfl:k=L:=by omega
    have a8 : Hid (aeb w w2 wr AT UP n (fun x => (psF bs x : Int)) (fun _ => -1)) := ai.congr (fun x _ => by
     unfold psF
     rw [HL.out, aec])
    have c1:=ai.atU (x:=0) dw;have f1:=ai.fzU 0;have zU:UP<wr.heap.size:=aac c1;clear ai aL;have a6:Hid (aeb w w2 (wr.setCell ⟨UP,0,none⟩ (.int .i64 0)) AT UP n (fun x=>(psF bs x:Int)) up0):=a8.out.setU 0 0;obtain⟨b0,b1,b2,b3⟩:=bj.out.get4;have b0:=a8.out.cell b0 (by omega) (by omega);have b1:=a8.out.cell b1 (by omega) (by omega);have b2:=a8.out.cell b2 (by omega) (by omega);have b3:=a8.out.cell b3 (by omega) (by omega);have zF:w.heap.size<wr.heap.size:=aac b0;have cA:=adQ (S:=S) nm p r ba bc bs (wr.setCell ⟨UP,0,none⟩ (.int .i64 0)) (by rw [aq.out];exact Hb.out.later aau a6.out.below) (by rw [aq.out];exact hn) aF.out.tgt;rw [aq.out] at cA;have dj:=hid cA;clear cA
    go_wp2_with (first
     | (go_at_call 74; refine (dj.out).mono ?_; rintro e w5 ⟨v, rfl, bJ, aO⟩
        obtain ⟨va, vc, br, eg⟩ := bJ.val
        subst br
        rw [show (aheadF bs).length = n by unfold aheadF; simp [aq.out]] at bJ ⊢
        have c6 := hid bJ
        have aW := hid aO
        clear bJ aO eg))
    have ef:Hid (aeb w w5 w5 AT UP n (fun x=>(psF bs x:Int)) up0):=(a6.out.later aW.out).anew;have bY:Hid (SlAt (fun b=>b≠AT∧b≠UP) w5 1 acz (.slice oa k oc) (ordL bs)):=(a6.out.sl aax (fun b hb=>hb) cv.out).later aax aW.out
    have dD : Hid (SlAt (fun b => b ≠ AT ∧ b ≠ UP) w5 1 rRow (.slice va n vc) (aheadF bs)) := c6.out.mono acW (fun b hb => by
     have h1 : (wr.setCell ⟨UP, 0, none⟩ (.int .i64 0)).heap.size <= b := hb
     have h2 := a6.out.size
     have h3 := a6.out.lo
     omega) (aaS.refl _ _)
    have cw:Hid (Rpo n (abj bs) (psF bs) (aeo bs) (fpF bs)):=by have h:=Ho.out;rw [aq.out] at h;exact h
    have dQ:Hid (anW n bs true up0):=by have h:=anW.start aF.out;rw [aq.out] at h;exact h
    clear b0 b1 b2 b3 zF c1 f1 zU dj a8 a6 ak cv c6 aW hkl bj Hb dF cu Hv a1;obtain⟨ob,bF,ea,-⟩:=adv bY.out (t:=0) (by rw [<-HL.out];exact dn);subst ea;have eA:k<=oc:=by
     obtain⟨_,_,e,h1,-⟩:=bY.out;cases e;rw [HL.out];exact h1
    go_loopw [9] (fun s9 wr=>∃(more:Bool) (up:Nat->Int),s9 = .bool more∧aeb w w5 wr AT UP n (fun x=>(psF bs x:Int)) up∧anW n bs more up) (fun s9 wr=>2 * muF n (psF bs) (upW UP wr)+anD s9)
    case atStart=>exact⟨true,up0,rfl,ef.out,dQ.out⟩
    case round =>
     obtain⟨more,up,rfl,ai,bR⟩:=hrel;have aL:=hid ai;have bT:=hid bR;cases more with
     | false =>
       have c1:=ai.atU (x:=0) dw;have f1:=ai.fzU 0;have zU:UP<wr.heap.size:=aac c1;have dW:=hid (bR.stop rfl);clear ai bR;go_wp2_with fail;go_ret;have aZ:=aL.out.setU 0 (-1);rw [dW.out] at aZ;have hr:=apR aF.out;refine⟨UP,rfl,by omega,?_,aZ.below⟩
       have h := alX aZ.rowU (fun x hx => by
        unfold afI I64
        have h1 := hr.low x
        split
        . omega
        . rcases Int.lt_or_le (ak3 bs x) 0 with h2 | h2
          . omega
          . have h3 := hr.d.tree.lt _ (hr.d.tree.next x h2)
            have := aq.out
            omega) hn
       unfold agx;rw [aq.out];exact h
     | true =>
       obtain⟨wo,ei⟩:∃wo:World,wo=wr:=⟨_,rfl⟩
       subst ei;clear ai bR
       by_cases hoc:oc=1
       . have ek:k=1:=by omega
         subst ek;subst hoc;have cB:(abj bs).length=1:=by rw [<-aec,<-HL.out]
         have aE:Hid (anW n bs false up∧2 * muF n (psF bs) up+anD (.bool false)<2 * muF n (psF bs) up+1):=by
          have hg:=bT.out.go rfl;refine anW.next cw.out bT.out ?_ ?_
          . rw [cB];exact PSt.zero hg.1 hg.2.1
          . have:(abj bs).tail=[]:=Acg.1 (by rw [List.length_tail,cB])
            rw [this];rfl
         clear cB;go_wp2_with fail;go_loopw [9,46] (fun s9 s46 wr=>s9 = .bool false∧s46 = .int .i64 0∧wr=wo) (fun _ _ _=>0)
         case atStart=>exact⟨rfl,rfl,rfl⟩
         case round =>
          obtain⟨rfl,rfl,rfl⟩:=hrel;go_wp2_with fail;go_roundw
          case rel=>exact⟨false,up,rfl,aL.out,aE.out.1⟩
          case measure =>
           rw [aL.out.upW];exact aE.out.2
       . have dy:Hid (SlAt (fun b=>b≠AT∧b≠UP) w5 1 acz (.slice (some ⟨ob,bF+1,none⟩) (k - 1) (oc - 1)) (ordL bs).tail):=asQ bY.out dn
         obtain⟨T,hT⟩:∃T,T=k - 1:=⟨_,rfl⟩
         have HT:Hid ((abj bs).length=T+1∧(ordL bs).tail.length=T):=by
          have h1:=HL.out;have h2:=aec bs;refine⟨by omega,by rw [List.length_tail];omega⟩
         rw [<-hT] at dy;have eB:T<n:=by omega
         go_wp2_with fail;rw [<-hT];clear hT bY;go_loopw [9,46] (fun s9 s46 wi=>∃(j:Nat) (m:Bool) (u:Nat->Int),j<=T∧s9 = .bool m∧s46 = .int .i64 j∧aeb w w5 wi AT UP n (fun x=>(psF bs x:Int)) u∧PSt n (abj bs) (psF bs) (aeo bs) (fpF bs) up (j+1) (u,m)∧ahA (psF bs) (aeo bs) ((abj bs).drop (j+1)) (u,m)=ahA (psF bs) (aeo bs) (abj bs).tail (up,false)) (fun _ s46 _=>T - (intOf s46).toNat)
         case atStart =>
          have hg:=bT.out.go rfl;exact⟨0,false,up,Aaj _,rfl,rfl,aL.out,PSt.zero hg.1 hg.2.1,by rw [List.drop_one]⟩
         case round =>
          obtain⟨j,m,u,hj,rfl,rfl,ai,cQ,dx⟩:=hrel;have aB:=hid ai;have bU:=hid cQ;have da:=hid dx;clear ai cQ dx
          by_cases hjT:j<T
          . have cM:j+1<(abj bs).length:=by rw [HT.out.1];omega
            obtain⟨dr,he⟩:=amM aF.out cM;have c9:j<(ordL bs).tail.length:=by rw [HT.out.2];exact hjT
            obtain⟨ey,ee,e0,c0⟩:=adv (aB.out.sl aax (fun b hb=>hb) dy.out) c9;cases e0;obtain⟨q,hq⟩:∃q,q=(abj bs)[j+1]:=⟨_,rfl⟩
            rw [List.getElem_tail,he,<-hq] at c0;have bq:q<n:=by rw [hq,<-aq.out];exact ah8 aF.out (Aas _)
            have dd:q<(aheadF bs).length:=by unfold aheadF;simpa [aq.out] using bq
            obtain⟨rb,dI,cs,rfl,-,⟨rv,rfl,af⟩,-,bh⟩:=(aB.out.sl acW (fun b hb=>hb) dD.out).get dd;have cS:(aheadF bs)[q]=aaf bs 0 q:=by
             have h:=acF (bs:=bs) (k:=q) (by rw [aq.out];exact bq);rw [Aaf,Aaa dd] at h;exact h
            rw [cS] at af;obtain⟨ra,rc,ed,dK⟩:=af.val;subst ed;have d0:=bh.get1;obtain⟨R,hR⟩:∃R,R=(aaf bs 0 q).length:=⟨_,rfl⟩
            rw [<-hR] at d0 af dK;have HR:=hid hR;have aK:=hid af;have Hq:=hid hq;have zo:ob<wr.heap.size:=aac c0;have zr:rb<wr.heap.size:=aac d0;rw [Abd] at d0;clear bh af hR cS hq he c9;go_wp2_with fail;clear c0 d0;obtain⟨wi,dP⟩:∃wi:World,wi=wr:=⟨_,rfl⟩
            subst dP;go_loopw [12,55] (fun s12 s55 wj=>∃(i:Nat) (ae:Int),i<=R∧s12 = .int .i64 ae∧s55 = .int .i64 i∧(0<=ae->0<=u ae.toNat) ∧ -1<=ae∧abZ (psF bs) u ae ((aeo bs q).drop i)=abZ (psF bs) u (-1) (aeo bs q)∧Below wi.heap.size wi wj) (fun _ s55 _=>R - (intOf s55).toNat)
            case atStart=>exact⟨0,-1,Aaj _,rfl,rfl,fun h=>by omega,by omega,rfl,Below.refl _ _⟩
            case round =>
             obtain⟨i,ae,hi,rfl,rfl,cR,ar,dz,bo⟩:=hrel;have cT:=hid cR;have cX:=hid dz;have aA:=hid bo;clear cR dz bo;have an:Hid (aeb w w5 wr AT UP n (fun x=>(psF bs x:Int)) u):=aB.out.later aA.out
             by_cases hiR:i<R
             . have cg:i<(aaf bs 0 q).length:=by rw [<-HR.out];exact hiR
               obtain⟨p',dq,bt,c4⟩:=arq cg;rw [aq.out] at bt;obtain⟨ib,dS,rfl,c0⟩:=adv (aK.out.later aax aA.out) cg;rw [dq] at c0;have c1:=an.out.atU bt;obtain⟨x,hx⟩:∃x,u p'=x:=⟨_,rfl⟩
               rw [hx] at c1;have zi:ib<wr.heap.size:=aac c0;have zU:UP<wr.heap.size:=aac c1;have ak:Hid (abZ (psF bs) u (alf (psF bs) u ae p') ((aeo bs q).drop (i+1))=abZ (psF bs) u (-1) (aeo bs q)):=by
                have h:=cX.out;rw [c4] at h;exact h
               have Hx:=hid hx;clear hx c4 dq cg
               by_cases aM:x<0
               . have q1:decide (x<0)=true:=decide_eq_true aM
                 have ax:Hid (alf (psF bs) u ae p'=ae):=by show _=_;unfold alf;rw [Hx.out,if_pos aM]
                 go_wp2_with fail;go_roundw
                 case rel=>exact⟨i+1,ae,by omega,rfl,by go_num,cT.out,ar,by rw [<-ak.out,ax.out],aA.out⟩
                 case measure=>simp [intOf];omega
               . have q1:decide (x<0)=false:=decide_eq_false aM
                 by_cases hbe:ae<0
                 . have q2:decide (ae<0)=true:=decide_eq_true hbe
                   have ax:Hid (alf (psF bs) u ae p'=(p':Int)):=by show _=_;unfold alf;rw [Hx.out,if_neg aM,if_pos hbe]
                   go_wp2_with fail;go_roundw
                   case rel=>exact⟨i+1,p',by omega,rfl,by go_num,fun _=>by rw [Aan,Hx.out];omega,by omega,by rw [<-ak.out,ax.out],aA.out⟩
                   case measure=>simp [intOf];omega
                 . have q2:decide (ae<0)=false:=decide_eq_false hbe
                   obtain⟨c,rfl⟩:=Abc (by omega:0<=ae);have be:akl n (psF bs) u:=bU.out.d.tree;have b8:0<=u c:=by have h:=cT.out (by omega);rw [Aan] at h;exact h
                   have ax:Hid (alf (psF bs) u (c:Int) p'=((mtF (psF bs) u c p':Nat):Int)):=by show _=_;unfold alf;rw [Hx.out,if_neg aM,if_neg hbe,Aan]
                   have ep:Hid (0<=u (mtF (psF bs) u c p')):=by
                    obtain⟨m1,-,-⟩:=aiN be _ c p' b8 (by rw [Hx.out];omega) (Nat.lt_succ_self _);exact (m1.pr be b8).1
                   have aP := arp (S := fun b => b = UP) (S' := fun b => b = AT) (some ⟨UP, 0, none⟩) (some ⟨AT, 0, none⟩) n n n ((List.range n).map u) ((List.range n).map fun x => (psF bs x : Int)) (psF bs) u c p' wr
                    (alX an.out.rowU (fun y hy => by
                      unfold I64
                      have h1 := bU.out.low y
                      dsimp only at h1
                      rcases Int.lt_or_le (u y) 0 with h2 | h2
                      . omega
                      . have h3 := be.lt _ (be.next y h2)
                        omega) hn)
                    (alX an.out.rowA (fun y hy=>by unfold I64;have:=atJ aF.out y;have:=aq.out;omega) hn)
                    (by simp) (by simp) hn (fun y hy=>akX hy) (fun y hy _=>akX hy) be b8 (by rw [Hx.out];omega)
                   have bI:=hid aP;clear aP be b8 hbe
                   go_wp2_with (first
                    | (go_at_call 75; refine (bI.out).mono ?_; rintro e w7 ⟨rfl, aI⟩
                       have cn := hid aI
                       clear aI))
                   go_roundw
                   case rel=>exact⟨i+1,_,by omega,rfl,by go_num,fun _=>by rw [Aan];exact ep.out,by omega,by rw [<-ak.out,ax.out],aA.out.trans (cn.out.mono aA.out.size)⟩
                   case measure=>simp [intOf];omega
             . have ck:i=R:=by omega
               have aC:Hid (ae=abZ (psF bs) u (-1) (aeo bs q)):=by
                have h:=cX.out;rw [ck,HR.out,<-ars,List.drop_length] at h;exact h
               have aE:Hid (PSt n (abj bs) (psF bs) (aeo bs) (fpF bs) up (j+1+1) (aey (psF bs) (aeo bs) (u,m) q)):=by
                have h:=bU.out.next cw.out (by omega) cM;rw [<-Hq.out] at h;exact h
               have c5:Hid (ahA (psF bs) (aeo bs) ((abj bs).drop (j+1+1)) (aey (psF bs) (aeo bs) (u,m) q)=ahA (psF bs) (aeo bs) (abj bs).tail (up,false)):=by
                have h:=da.out;rw [List.drop_eq_getElem_cons cM,<-Hq.out] at h;exact h
               have c1:=an.out.atU bq;have f1:=an.out.fzU q;have zU:UP<wr.heap.size:=aac c1;obtain⟨x,hx⟩:∃x,u q=x:=⟨_,rfl⟩
               rw [hx] at c1
               by_cases aD:x=ae
               . have q1:(decide (x<ae)||decide (ae<x))=false:=aol aD
                 have ah:Hid (aey (psF bs) (aeo bs) (u,m) q=(u,m)):=by
                  show _=_;unfold aey;dsimp only;rw [if_neg (by rw [hx,<-aC.out];exact fun h=>h aD)]
                 clear aD hx;go_wp2_with fail;go_roundw
                 case rel=>exact⟨j+1,m,u,by omega,rfl,by go_num,an.out,by rw [<-ah.out];exact aE.out,by rw [<-ah.out];exact c5.out⟩
                 case measure=>simp [intOf];omega
               . have q1:(decide (x<ae)||decide (ae<x))=true:=aez aD
                 have ah:Hid (aey (psF bs) (aeo bs) (u,m) q=(afI u q ae,true)):=by
                  show _=_;unfold aey;dsimp only;rw [if_pos (by rw [hx,<-aC.out];exact aD),<-aC.out]
                 clear aD hx;go_wp2_with fail;go_roundw
                 case rel=>exact⟨j+1,true,afI u q ae,by omega,rfl,by go_num,an.out.setU q ae,by rw [<-ah.out];exact aE.out,by rw [<-ah.out];exact c5.out⟩
                 case measure=>simp [intOf];omega
          . have cO:j=T:=by omega
            subst cO;have aE:Hid (anW n bs m u∧2 * muF n (psF bs) u+anD (.bool m)<2 * muF n (psF bs) up+1):=by
             refine anW.next cw.out bT.out ?_ ?_
             . rw [HT.out.1];exact bU.out
             . have h:=da.out
               rw [List.drop_of_length_le (by rw [HT.out.1];exact Aac _)] at h;exact h
            go_wp2_with fail;go_roundw
            case rel=>exact⟨m,u,rfl,aB.out,aE.out.1⟩
            case measure =>
             rw [aL.out.upW,aB.out.upW];exact aE.out.2
end
section
open Go.RowKit
def atK(w:World)(nm:ByteArray)(ba:Option Addr)(bc:Nat)(f:aav)(n Rg:Nat)(v:Value)(wc:World):Prop :=
 ∃CB g RB,v = .pointer (some ⟨CB,0,none⟩)∧aal wc CB 0 [.string nm,.int .i64 f.params,.int .i64 (Rg:Int),.slice ba n bc,.slice (some ⟨g,0,none⟩) n n,.slice (some ⟨RB,0,none⟩) Rg Rg] ∧
   wc.heap[RB]?=some (.cells (amV (List.replicate Rg (-1,-1))) 96 (0,0))∧SlAt (fun b=>b=g) wc 1 acz (.slice (some ⟨g,0,none⟩) n n) (agx f.blocks) ∧
   Below w.heap.size w wc∧w.heap.size<=g∧w.heap.size<=RB∧w.heap.size<=CB∧CB≠RB∧g≠RB
theorem atK.mk' {w : World} {nm : ByteArray} {ba : Option Addr} {bc : Nat} {f : aav} {wl : World} {g RB n Rg : Nat} (af : wl.heap[RB]? = some (.cells (pairs Rg (.int .i64 (-1)) (.int .i64 (-1))).toArray 96 (0, 0)))
 (ag:SlAt (fun b=>b=g) wl 1 acz (.slice (some ⟨g,0,none⟩) n n) (agx f.blocks)) (hb:Below w.heap.size w wl) (hg:w.heap.size<=g) (hR:w.heap.size<=RB) (cb:g≠RB) :
 atK w nm ba bc f n Rg (.pointer (some ⟨wl.heap.size,0,none⟩)) (wl.alloc (.cells #[.string nm,.int .i64 f.params,.int .i64 (Rg:Int),.slice ba n bc,.slice (some ⟨g,0,none⟩) n n,.slice (some ⟨RB,0,none⟩) Rg Rg] 98)):=by
 have eh:=(Aag.1 af).1;have cL:Below wl.heap.size wl (wl.alloc (.cells #[.string nm,.int .i64 f.params,.int .i64 (Rg:Int),.slice ba n bc,.slice (some ⟨g,0,none⟩) n n,.slice (some ⟨RB,0,none⟩) Rg Rg] 98)):=by exact bE
 refine⟨wl.heap.size,g,RB,rfl,?_,by rw [cL.block RB eh,arK];exact af,ag.later aax cL,hb.trans (cL.mono hb.size),hg,hR,hb.size,by omega,cb⟩;exact .cons (by simp) (.cons (by simp) (.cons (by simp) (.cons (by simp) (.cons (by simp) (.cons (by simp) (.nil _ _ _))))))
theorem alY {S:Nat->Prop}(nm:ByteArray)(ba:Option Addr)(bc:Nat)(f:aav)(w:World)(hf:ar0 f)(hb:SlAt S w 6 aa2 (.slice ba f.blocks.length bc) f.blocks)(hS:∀b,S b->b<w.heap.size) :
 Calls Tryz.prog 19 #[.agg #[.string nm,.int .i64 f.params,.int .i64 f.regs,.slice ba f.blocks.length bc]] w fun e w'=>e = .returned (.int .i64 (af4 f))∧Below w.heap.size w w':=by
 have Hf:=hid hf;have Hb:=hid hb;have HS:=hid hS;obtain⟨n,hn⟩:∃n,n=f.blocks.length:=⟨_,rfl⟩
 obtain⟨Rg,dc⟩:∃Rg,Rg=f.regs.toNat:=⟨_,rfl⟩
 have dL:=hf.pr;have cq:f.regs=(Rg:Int):=by omega
 have ez:Rg<=100:=by omega
 have er:n<=40:=by rw [hn];exact hf.len.2
 have Hn:=hid hn;have dY:=hid cq;have ds:=hid dc;rw [<-hn] at Hb;rw [<-hn,cq];clear hf hb hS hn dc dL cq;go_enter Tryz.func19,Tryz.ntmps19;go_wp2_with fail;obtain⟨W,hW⟩:∃W,W=w.alloc (.cells #[.string nm,.int .i64 f.params,.int .i64 (Rg:Int),.slice ba n bc] 37):=⟨_,rfl⟩
 rw [<-hW];have aH:Below w.heap.size w W:=by rw [hW];exact bE
 have c0:W.cell? ⟨w.heap.size,0,none⟩=some (.string nm):=by rw [hW];simp
 have c1:W.cell? ⟨w.heap.size,1,none⟩=some (.int .i64 f.params):=by rw [hW];simp
 have c2:W.cell? ⟨w.heap.size,2,none⟩=some (.int .i64 (Rg:Int)):=by rw [hW];simp
 have c3:W.cell? ⟨w.heap.size,3,none⟩=some (.slice ba n bc):=by rw [hW];simp
 have al:=hid aH;have aY:=hid (Hb.out.later aau aH);have zW:w.heap.size<W.heap.size:=aac c0;clear hW aH;have hk:∀w',Below W.heap.size W w'->w'.cell? ⟨w.heap.size,0,none⟩=some (.string nm)∧w'.cell? ⟨w.heap.size,1,none⟩=some (.int .i64 f.params)∧w'.cell? ⟨w.heap.size,2,none⟩=some (.int .i64 (Rg:Int))∧w'.cell? ⟨w.heap.size,3,none⟩=some (.slice ba n bc):=fun w' h =>
  ⟨aab c0 h,aab c1 h,aab c2 h,aab c3 h⟩
 have Hk:=hid hk;have hT:∀w',Below W.heap.size W w'->Calls Tryz.prog 47 #[.agg #[.string nm,.int .i64 f.params,.int .i64 (Rg:Int),.slice ba n bc]] w' fun e au=>∃g,e = .returned (.slice (some ⟨g,0,none⟩) n n)∧w'.heap.size<=g∧SlAt (fun b=>b=g) au 1 acz (.slice (some ⟨g,0,none⟩) n n) (agx f.blocks)∧Below w'.heap.size w' au∧Below W.heap.size W au∧g<au.heap.size∧W.heap.size<=g:=fun w' h=>by
  refine (anE (S:=S) nm f.params (Rg:Int) ba n bc f.blocks w' (aY.out.later aau h) (fun b hb=>by have:=HS.out b hb;have:=h.size;omega) Hn.out.symm (by omega) Hf.out.toOk).mono ?_;rintro e au ⟨g,rfl,h1,h2,h3⟩;obtain⟨b,off,e,hc⟩:=adv h2 (t:=0) (by rw [aia];exact Hf.out.len.1);cases e;exact⟨g,rfl,h1,h2,h3,h.trans (h3.mono h.size),aac hc,Aai h.size h1⟩
 have hR:∀(w':World) (ad:Addr),Below W.heap.size W w'->w'.cell? (ad.add 0)=some (.int .i64 (-1))->w'.cell? (ad.add 1)=some (.int .i64 (-1))->Calls Tryz.prog 48 #[.slice (some ad) 1 1,.int .i64 (Rg:Int)] w' fun e au =>
  ∃g,e = .returned (.slice (some ⟨g,0,none⟩) Rg Rg)∧w'.heap.size<=g∧au.heap[g]?=some (.cells (pairs Rg (.int .i64 (-1)) (.int .i64 (-1))).toArray 96 (0,0))∧Below w'.heap.size w' au∧Below W.heap.size W au∧W.heap.size<=g:=fun w' ad h h0 h1=>by
  refine (agz ad 1 (-1) (-1) Rg (by omega) w' h0 h1).mono ?_;rintro e au ⟨g,rfl,h1,h2,h3⟩;exact⟨g,rfl,h1,h2,h3,h.trans (h3.mono h.size),Aai h.size h1⟩
 have HT:=hid hT;have HR:=hid hR;clear hk hT hR;go_cut [3] (fun v3 wc=>atK W nm ba bc f n Rg v3 wc)
 case first =>
  go_region_held3 (fun w' => w'.cell? ⟨w.heap.size, 0, none⟩ = some (.string nm) ∧ w'.cell? ⟨w.heap.size, 1, none⟩ = some (.int .i64 f.params) ∧ w'.cell? ⟨w.heap.size, 2, none⟩ = some (.int .i64 (Rg : Int)) ∧ w'.cell? ⟨w.heap.size, 3, none⟩ = some (.slice ba n bc))
   (exact Hk.out _ (by first | exact (Below.refl _ _).drew | ((repeat (first | exact Below.refl _ _ | refine Below.alloc ?_ (by first|omega|(simp<;>omega)) _ | refine Below.setCell ?_ (by first|omega|(simp<;>omega)) _ | refine below_drewN ?_ _ | refine Below.drew ?_));done) | exact aG | exact aG.alloc aG.size _ | exact av | exact av.alloc av.size _))
   ((first
     | (go_at_call 47; refine (HT.out _ ?_).mono ?_; exact (by first | exact (Below.refl _ _).drew | ((repeat (first | exact Below.refl _ _ | refine Below.alloc ?_ (by first|omega|(simp<;>omega)) _ | refine Below.setCell ?_ (by first|omega|(simp<;>omega)) _ | refine below_drewN ?_ _ | refine Below.drew ?_)); done) | exact aG | exact aG.alloc aG.size _ | exact av | exact av.alloc av.size _); rintro e wT ⟨g, rfl, hg, ag, cx, aG, cW, cN⟩)
     | (go_at_call 48; refine (HR.out _ _ ?_ ?_ ?_).mono ?_
        . exact (by first | exact (Below.refl _ _).drew | ((repeat (first | exact Below.refl _ _ | refine Below.alloc ?_ (by first|omega|(simp<;>omega)) _ | refine Below.setCell ?_ (by first|omega|(simp<;>omega)) _ | refine below_drewN ?_ _ | refine Below.drew ?_)); done) | exact aG | exact aG.alloc aG.size _ | exact av | exact av.alloc av.size _)
        . first | exact aaB _ [.int .i64 (-1), .int .i64 (-1)] 96 (by simp) 0 _ rfl | exact aaB W [.int .i64 (-1), .int .i64 (-1)] 96 rfl 0 _ rfl | exact aab (w := (W.alloc (.cells #[.int .i64 (-1), .int .i64 (-1)] 96)).drew) (aaB W [.int .i64 (-1), .int .i64 (-1)] 96 rfl 0 _ rfl) cx
        . first | exact aaB _ [.int .i64 (-1), .int .i64 (-1)] 96 (by simp) 1 _ rfl | exact aaB W [.int .i64 (-1), .int .i64 (-1)] 96 rfl 1 _ rfl | exact aab (w := (W.alloc (.cells #[.int .i64 (-1), .int .i64 (-1)] 96)).drew) (aaB W [.int .i64 (-1), .int .i64 (-1)] 96 rfl 1 _ rfl) cx
        rintro e wR ⟨RB, rfl, ec, af, ca, av, bD⟩)))
  all_goals
   go_wp2_with fail;go_meet
   first
    | exact atK.mk' af (ag.later aax (by first | exact ca | ((have dJ:=(ca).size;have bM:=dJ;(try simp at bM);repeat (first | exact Below.refl _ _ | refine Below.trans ?_ ((ca).mono (by first|omega|(simp<;>omega))) | refine Below.alloc ?_ (by first|omega|(simp<;>omega)) _ | refine Below.setCell ?_ (by first|omega|(simp<;>omega)) _ | refine below_drewN ?_ _ | refine Below.drew ?_));done))) av cN bD (by have h:=ec;(try simp at h);omega)
    | exact atK.mk' ((cx.block RB (Aag.1 af).1).trans af) ag aG cN bD (by have h1:=(Aag.1 af).1;have h:=hg;(try simp at h);omega)
 case rest =>
  obtain⟨CB,g,RB,rfl,bz,af,ag,bf,cN,av,eD,dp,cb⟩:=hcut;obtain⟨Wc,dH⟩:∃Wc:World,Wc=wc:=⟨_,rfl⟩
  subst dH;have cr:=hid bz;have aK:=hid af;have bx:=hid ag;have aN:=hid bf;have d0:=aab c0 bf;have d1:=aab c1 bf;have d2:=aab c2 bf;have d3:=aab c3 bf;have hP:∀w',Below W.heap.size W w'->Calls Tryz.prog 49 #[.agg #[.string nm,.int .i64 f.params,.int .i64 (Rg:Int),.slice ba n bc]] w' fun e au=>∃v,e = .returned v∧abv w'.heap.size au v (aaT f.blocks)∧Below W.heap.size W au∧Below w'.heap.size w' au:=fun w' h=>by
   refine (amr (S:=S) nm f.params (Rg:Int) ba n bc f.blocks w' (aY.out.later aau h) (fun b hb=>by have:=HS.out b hb;have:=h.size;omega) Hn.out.symm (by omega) Hf.out.toOk).mono ?_;rintro e au ⟨v,rfl,h1,h2⟩;exact⟨v,rfl,h1,h.trans (h2.mono h.size),h2⟩
  have HP:=hid hP;obtain⟨L,hL⟩:∃L,L=(aaT f.blocks).length:=⟨_,rfl⟩
  have HL:=hid hL;have zw:w.heap.size<Wc.heap.size:=aac d0;clear bz af ag bf hP hL c0 c1 c2 c3
  by_cases hq:L<n
  . have Hv:Hid (af4 f=5):=by show _=_;unfold af4;rw [if_pos (by rw [<-HL.out,<-Hn.out];exact hq)]
    go_wp2_with fail
    go_region_held3 (fun w' => w'.cell? ⟨w.heap.size, 0, none⟩ = some (.string nm) ∧ w'.cell? ⟨w.heap.size, 1, none⟩ = some (.int .i64 f.params) ∧ w'.cell? ⟨w.heap.size, 2, none⟩ = some (.int .i64 (Rg : Int)) ∧ w'.cell? ⟨w.heap.size, 3, none⟩ = some (.slice ba n bc))
     (exact Hk.out _ (by first | exact aN.out | exact aN.out.drew | exact aJ | exact aJ.drew))
     ((first
       | (go_at_call 49; refine (HP.out _ ?_).mono ?_; first | exact aN.out | exact aN.out.drew; rintro e wP ⟨v, rfl, hv, aJ, bK⟩
          obtain ⟨va, vc, br⟩ := hv.shape
          subst br
          rw [<- HL.out])))
    all_goals
     go_wp2_with fail;go_ret;exact⟨by rw [Hv.out];rfl,al.out.trans (aJ.mono al.out.size)⟩
  . obtain⟨o,ho⟩:∃o,o=(acG f).2:=⟨_,rfl⟩
    have Ho:=hid ho;clear ho;go_wp2_with fail
    go_region_held3 (fun w' => w'.cell? ⟨w.heap.size, 0, none⟩ = some (.string nm) ∧ w'.cell? ⟨w.heap.size, 1, none⟩ = some (.int .i64 f.params) ∧ w'.cell? ⟨w.heap.size, 2, none⟩ = some (.int .i64 (Rg : Int)) ∧ w'.cell? ⟨w.heap.size, 3, none⟩ = some (.slice ba n bc))
     (exact Hk.out _ (by first | exact aN.out | exact aN.out.drew | exact aJ | exact aJ.drew))
     ((first
       | (go_at_call 49; refine (HP.out _ ?_).mono ?_; first | exact aN.out | exact aN.out.drew; rintro e wP ⟨v, rfl, hv, aJ, bK⟩
          obtain ⟨va, vc, br⟩ := hv.shape
          subst br
          rw [<- HL.out])))
    all_goals
     have bP:Below Wc.heap.size Wc wP:=by first | exact bK | exact (Below.refl Wc.heap.size Wc).drew.trans bK
     have aw:=cr.out.later bP;have aQ:=(bP.block RB (Aag.1 aK.out).1).trans aK.out;have az:=bx.out.later aax bP;have aT:=aY.out.later aau aJ;obtain⟨x0,x1,x2,x3,x4,x5⟩:=aw.get6;have cy:∀b,S b->b≠RB:=fun b hb e=>by have:=HS.out b hb;omega
     have cE:=anU (S:=S) CB RB Rg ba bc f wP Hf.out cy (by rw [<-Hn.out];exact aT) x1 (by rw [<-Hn.out];exact x3) (by rw [<-ds.out];exact x5) dp (by rw [<-ds.out];exact aQ);rw [<-Ho.out] at cE;have ct:=hid cE;have bl:=hid aw;have aU:=hid az;have cG:=hid aT;have dT:=hid cy;have aR:=hid aJ;have dG:W.heap.size<=RB:=av;clear cE aw aQ az aT cy aJ bK bP x0 x1 x2 x3 x4 x5 hv;cases o with
     | false =>
       have Hv:Hid (af4 f=7):=by show _=_;unfold af4;rw [if_neg (by rw [<-HL.out,<-Hn.out];exact hq),if_pos Ho.out.symm]
       go_wp2_with (first | (go_at_call 50;refine (ct.out).mono ?_;rintro e wQ ⟨rfl,aj⟩;have ak:=hid aj;clear aj));go_ret;exact⟨by rw [Hv.out];rfl,(al.out.trans (aR.out.mono al.out.size)).grown ak.out.grown (by have:=aR.out.size;omega) (fun r e=>by cases e;omega)⟩
     | true =>
       obtain⟨o2,dC⟩:∃o2,o2=ajH f (acG f).1:=⟨_,rfl⟩
       have cK:=hid dC;clear dC;have bk:∀wQ,agV wP wQ RB (acG f).1->Calls Tryz.prog 51 #[.pointer (some ⟨CB,0,none⟩)] wQ fun e w'=>e = .returned (.bool o2)∧Below wQ.heap.size wQ w':=fun wQ aj=>by
        have cj:atc CB RB Rg nm ba (some ⟨g,0,none⟩) bc n f (acG f).1 wQ:=by
         refine⟨?_,aj.row,?_,?_,by unfold acG;rw [agL,agt,Ab1]⟩
         . intro j v hj
           have h:=bl.out j v;rw [<-Hn.out,dY.out] at hj;exact aj.cell (h hj) dp
         . rw [<-Hn.out]
           exact (aj.sl aax (fun b hb=>by rw [hb];exact cb) aU.out).mono aax (fun _ _=>trivial) (aaS.refl _ _)
         . rw [<-Hn.out]
           exact (aj.sl aau dT.out cG.out).mono aau (fun _ _=>trivial) (aaS.refl _ _)
        rw [cK.out];exact arC CB RB Rg nm ba (some ⟨g,0,none⟩) bc n f (acG f).1 wQ Hf.out cj
       have bA:=hid bk;clear bk;cases o2 with
       | false =>
         have Hv:Hid (af4 f=6):=by show _=_;unfold af4;rw [if_neg (by rw [<-HL.out,<-Hn.out];exact hq),if_neg (by rw [<-Ho.out];simp),if_pos cK.out.symm]
         go_wp2_with (first
          | (go_at_call 50; refine (ct.out).mono ?_; rintro e wQ ⟨rfl, aj⟩; have ak := hid aj; clear aj)
          | (go_at_call 51; refine (bA.out wQ ak.out).mono ?_; rintro e wU ⟨rfl, bm⟩; have cI := hid bm; clear bm))
         go_ret;exact⟨by rw [Hv.out];rfl,((al.out.trans (aR.out.mono al.out.size)).grown ak.out.grown (by have:=al.out.size;have:=aR.out.size;omega) (fun r e=>by cases e;have:=al.out.size;omega)).trans (cI.out.mono (by have:=al.out.size;have:=aR.out.size;have:=ak.out.grown.size;omega))⟩
       | true =>
         have Hv:Hid (af4 f=0):=by show _=_;unfold af4;rw [if_neg (by rw [<-HL.out,<-Hn.out];exact hq),if_neg (by rw [<-Ho.out];simp),if_neg (by rw [<-cK.out];simp)]
         go_wp2_with (first
          | (go_at_call 50; refine (ct.out).mono ?_; rintro e wQ ⟨rfl, aj⟩; have ak := hid aj; clear aj)
          | (go_at_call 51; refine (bA.out wQ ak.out).mono ?_; rintro e wU ⟨rfl, bm⟩; have cI := hid bm; clear bm))
         go_ret;exact⟨by rw [Hv.out];rfl,((al.out.trans (aR.out.mono al.out.size)).grown ak.out.grown (by have:=al.out.size;have:=aR.out.size;omega) (fun r e=>by cases e;have:=al.out.size;omega)).trans (cI.out.mono (by have:=al.out.size;have:=aR.out.size;have:=ak.out.grown.size;omega))⟩
end
section
open Go.RowKit
theorem ah7 {fn : Func} (eo : fn.results = #[.cell 2 27]) {tmps : Array Value} {b : Nat} (ht : tmps.getD 2 undef = .pointer (some ⟨b, 0, none⟩)) {c a : Int} {W : World}
 (h0:W.cell? ⟨b,0,none⟩=some (.int .i64 c)) (h1:W.cell? ⟨b,1,none⟩=some (.int .i64 a)):(results fn tmps).run Tryz.prog W = .ok (.agg #[.int .i64 c,.int .i64 a]) W:=by
 simp only [Acn] at ht;simp [results,eo,ht,go_sem,h0,h1]
theorem akY {S : Nat -> Prop} (ga : Option Addr) (gc : Nat) (fa : Option Addr) (fc : Nat) (gs : List aaG) (fs : List aav) (w : World)
 (hg:SlAt S w 3 aaO (.slice ga gs.length gc) gs) (hf:SlAt S w 4 abC (.slice fa fs.length fc) fs) (hw:ae2 w) (hS:∀b,S b->b<w.heap.size)
 (cW:gs.length<=1048576) (dV:fs.length<=1048576) (c7:∀(k:Nat) (f:aav),fs[k]?=some f->aa5 f.blocks<=1048576∧f.blocks.length<=1048576) :
 Calls Tryz.prog 8 #[.agg #[.slice ga gs.length gc,.slice fa fs.length fc]] w fun e w' =>
  e = .returned (.agg #[.int .i64 (agu ⟨gs,fs⟩).1,.int .i64 (agu ⟨gs,fs⟩).2])∧Below w.heap.size w w':=by
 have Hg:=hid hg;have Hf:=hid hf;have Hw:=hid hw;have en:=hid c7;have HS:=hid hS;clear hg hf hw c7 hS;go_enter Tryz.func8,Tryz.ntmps8;obtain⟨W,hW⟩:∃W,W=(w.alloc (.cells #[.slice ga gs.length gc,.slice fa fs.length fc] 25)).alloc (.cells #[.int .i64 0,.int .i64 0] 27):=⟨_,rfl⟩
 have aH:Below w.heap.size w W:=by rw [hW];exact bE
 have al:=hid aH;have W0:Hid (W.cell? ⟨w.heap.size,0,none⟩=some (.slice ga gs.length gc)):=by show _=_;rw [hW];simp
 have W1:Hid (W.cell? ⟨w.heap.size,1,none⟩=some (.slice fa fs.length fc)):=by show _=_;rw [hW];simp
 have R0:Hid (W.cell? ⟨w.heap.size+1,0,none⟩=some (.int .i64 0)):=by show _=_;rw [hW];simp
 have R1:Hid (W.cell? ⟨w.heap.size+1,1,none⟩=some (.int .i64 0)):=by show _=_;rw [hW];simp
 have F0:Hid (W.frozen? ⟨w.heap.size+1,0,none⟩=false):=by show _=_;rw [hW];simp
 have F1:Hid (W.frozen? ⟨w.heap.size+1,1,none⟩=false):=by show _=_;rw [hW];simp
 have eb:W.heap.size=w.heap.size+2:=by rw [hW];simp
 go_wp2_with fail;rw [<-hW];have db:ae2 W:=ae2.below Hw.out aH;refine (aj5 (S:=S) ga gc fa fc gs fs W (Hg.out.later aaw aH) (Hf.out.later aaE aH) db cW dV en.out).mono ?_;rintro e w1 ⟨rfl,ar⟩;have a1:=hid ar;have g0:=aab W0.out ar;have g1:=aab W1.out ar;have g2:=aab R0.out ar;have g3:=aab R1.out ar;have k2:=(ar.frozen (p:=⟨w.heap.size+1,0,none⟩) (by simp;omega)).trans F0.out;have k3:=(ar.frozen (p:=⟨w.heap.size+1,1,none⟩) (by simp;omega)).trans F1.out;have z1:w.heap.size+1<w1.heap.size:=aac g2;have z0:w.heap.size<w1.heap.size:=aac g0;obtain⟨c,hc⟩:∃c,c=(aat ⟨gs,fs⟩).1:=⟨_,rfl⟩
 obtain⟨d,hd⟩:∃d,d=(aat ⟨gs,fs⟩).2:=⟨_,rfl⟩
 have bQ:Hid (aat ⟨gs,fs⟩=(c,d)):=by show _=_;rw [hc,hd]
 rw [<-hc,<-hd];have b4:Hid (Below w.heap.size w w1):=al.out.trans (ar.mono (by omega));clear ar hW aH hc hd db
 by_cases hok:c=0∧d=0
 . obtain⟨rfl,rfl⟩:=hok
   go_wp2_with fail;obtain⟨W2,cm⟩:∃W2,W2=w1.alloc (.cells #[.int .i64 0,.int .i64 0] 27):=⟨_,rfl⟩
   rw [<-cm];have ay:Below w1.heap.size w1 W2:=by rw [cm];exact bE
   have E2:=hid (aab g2 ay);have E3:=hid (aab g3 ay);have F2:=hid ((ay.frozen (p:=⟨w.heap.size+1,0,none⟩) z1).trans k2);have F3:=hid ((ay.frozen (p:=⟨w.heap.size+1,1,none⟩) z1).trans k3);have df:Hid (Below w.heap.size w W2):=b4.out.trans (ay.mono b4.out.size);have z2:w.heap.size+1<W2.heap.size:=aac E2.out;clear cm ay g0 g1 g2 g3 k2 k3 eb;go_loopw [16] (fun s16 wr=>∃(k:Nat),k<=fs.length∧s16 = .int .i64 k∧(∀j,j<k->alV fs j=0)∧Below W2.heap.size W2 wr) (fun s16 _=>fs.length - (intOf s16).toNat)
   case atStart=>exact⟨0,Aaj _,rfl,fun j hj=>by omega,Below.refl _ _⟩
   case round =>
    obtain⟨k,hk,rfl,bH,aV⟩:=hrel;have aX:=hid bH;have c8:=hid aV;have bo:Below w.heap.size w wr:=df.out.trans (aV.mono df.out.size);have aA:=hid bo;have e2:=aab E2.out aV;have e3:=aab E3.out aV;have f2:=(aV.frozen (p:=⟨w.heap.size+1,0,none⟩) z2).trans F2.out;have f3:=(aV.frozen (p:=⟨w.heap.size+1,1,none⟩) z2).trans F3.out;have z3:w.heap.size+1<wr.heap.size:=aac e2;clear bH aV bo
    by_cases hkl:k<fs.length
    . obtain⟨fb,dX,xa,xc,rfl,bh,aD,-,-⟩:=alu (Hf.out.later aaE aA.out) hkl
      obtain⟨c0,c1,c2,c3⟩:=bh.get4;have zf:fb<wr.heap.size:=aac c0;obtain⟨x,hx⟩:∃x,x=fs[k]:=⟨_,rfl⟩
      rw [<-hx] at c0 c1 c2 c3 aD;have cJ:fs[k]?=some x:=by rw [hx];exact Aaa hkl
      have dk:ar0 x:=auj (u:=⟨gs,fs⟩) bQ.out cJ;obtain⟨WB,b9⟩:∃WB,WB=wr.alloc (.cells #[.string x.name,.int .i64 x.params,.int .i64 x.regs,.slice xa x.blocks.length xc] 37):=⟨_,rfl⟩
      have bG:Below wr.heap.size wr WB:=by rw [b9];exact bE
      have bV:=alY (S:=S) x.name xa xc x WB dk (aD.later aau bG) (fun b hb=>by have:=HS.out b hb;have:=aA.out.size;have:=bG.size;omega);rw [b9] at bV;have He:Hid (alV fs k=af4 x):=by show _=_;unfold alV;rw [cJ]
      obtain⟨e9,cf⟩:∃e9,e9=af4 x:=⟨_,rfl⟩
      rw [<-cf] at bV;have cZ:=hid bV;have cD:=hid cf;have cV:Hid (∀w',Below (wr.alloc (.cells #[.string x.name,.int .i64 x.params,.int .i64 x.regs,.slice xa x.blocks.length xc] 37)).heap.size (wr.alloc (.cells #[.string x.name,.int .i64 x.params,.int .i64 x.regs,.slice xa x.blocks.length xc] 37)) w'->Below wr.heap.size wr w'):=fun w' h=>by
       rw [<-b9] at h;exact bG.trans (h.mono bG.size)
      clear bV cf b9 bG aD bh dk hx cJ
      by_cases hz:e9=0
      . have dM:(decide (e9<0)||decide (0<e9))=false:=aol hz
        have bC:=hid (abY aX.out (by rw [He.out,<-cD.out];exact hz));clear hz
        go_wp2_with (first
         | (go_at_call 19; refine (cZ.out).mono ?_; rintro e w5 ⟨rfl, aO⟩
            have aW := hid (cV.out _ aO)
            clear aO))
        go_roundw
        case rel=>exact⟨k+1,by omega,by go_num,bC.out,c8.out.trans (aW.out.mono c8.out.size)⟩
        case measure=>simp [intOf];omega
      . have dM:(decide (e9<0)||decide (0<e9))=true:=aez hz
        have Hr:Hid (agu ⟨gs,fs⟩=(e9,(k:Int))):=by
         show _=_;have hp:adq (alV fs) fs.length=k:=ajh aX.out hkl (by rw [He.out,<-cD.out];exact hz);unfold agu;rw [bQ.out,if_neg (by simp)];dsimp only;rw [hp,if_pos hkl,He.out,<-cD.out]
        clear hz
        go_wp2_with (first
         | (go_at_call 19; refine (cZ.out).mono ?_; rintro e w5 ⟨rfl, aO⟩
            have a7 := cV.out _ aO
            have e2 := aab e2 a7
            have e3 := aab e3 a7
            have f2 := (a7.frozen (p := ⟨w.heap.size + 1, 0, none⟩) z3).trans f2
            have f3 := (a7.frozen (p := ⟨w.heap.size + 1, 1, none⟩) z3).trans f3
            have z5 : w.heap.size + 1 < w5.heap.size := aac e2
            have aW := hid a7
            clear aO a7)
         | (go_at_call 20; refine (abF _ _ _).mono ?_; rintro e w6 ⟨rfl, aI⟩
            have e2 := aab e2 aI
            have e3 := aab e3 aI
            have f2 := (aI.frozen (p := ⟨w.heap.size + 1, 0, none⟩) z5).trans f2
            have f3 := (aI.frozen (p := ⟨w.heap.size + 1, 1, none⟩) z5).trans f3
            have z6 : w.heap.size + 1 < w6.heap.size := aac e2
            have cn := hid aI
            clear aI))
        have q:=acy (w:=w6) (u := .int .i64 e9) (v := .int .i64 (k:Int)) e2 e3;refine bodyPost_ret (ah7 rfl rfl (c:=e9) (a:=(k:Int)) q.1 q.2) rfl ⟨by rw [Hr.out],?_⟩;have h1:=aA.out;have h2:=aW.out;have h3:=cn.out;exact (((h1.trans (h2.mono h1.size)).trans (h3.mono (by have:=h1.size;have:=h2.size;omega))).setCell (p:=⟨w.heap.size+1,0,none⟩) (by dsimp only;omega) _).setCell (p:=⟨w.heap.size+1,1,none⟩) (by dsimp only;omega) _
    . have cj:k=fs.length:=by omega
      have Hr:Hid (agu ⟨gs,fs⟩=(0,0)):=by
       show _=_;have hp:adq (alV fs) fs.length=fs.length:=abV (fun j hj=>aX.out j (by omega));unfold agu;rw [bQ.out,if_neg (by simp)];dsimp only;rw [hp,if_neg (by omega)]
      clear cj;go_wp2_with fail;have q:=acy (w:=wr) (u := .int .i64 0) (v := .int .i64 0) e2 e3;refine bodyPost_ret (ah7 rfl rfl (c:=0) (a:=0) q.1 q.2) rfl ⟨by rw [Hr.out],?_⟩;exact (aA.out.setCell (p:=⟨w.heap.size+1,0,none⟩) (by dsimp only;omega) _).setCell (p:=⟨w.heap.size+1,1,none⟩) (by dsimp only;omega) _
 . have Hr:Hid (agu ⟨gs,fs⟩=(c,d)):=by
    show _=_;unfold agu;rw [bQ.out,if_pos (fun e=>hok (by simpa using e))]
   have hq:((decide (c<0)||decide (0<c))||(decide (d<0)||decide (0<d)))=true:=by rw [Abe];simp;omega
   go_wp2_with fail;have q:=acy (w:=w1) (u := .int .i64 c) (v := .int .i64 d) g2 g3;have cC:∀o:Obj,Below ((w1.setCell ⟨w.heap.size+1,0,none⟩ (.int .i64 c)).setCell ⟨w.heap.size+1,1,none⟩ (.int .i64 d)).heap.size ((w1.setCell ⟨w.heap.size+1,0,none⟩ (.int .i64 c)).setCell ⟨w.heap.size+1,1,none⟩ (.int .i64 d)) (((w1.setCell ⟨w.heap.size+1,0,none⟩ (.int .i64 c)).setCell ⟨w.heap.size+1,1,none⟩ (.int .i64 d)).alloc o):=fun o=>(Below.refl _ _).alloc (Aac _) _;refine bodyPost_ret (ah7 rfl rfl (c:=c) (a:=d) (aab q.1 (cC _)) (aab q.2 (cC _))) rfl ⟨by rw [Hr.out],?_⟩;exact ((b4.out.setCell (p:=⟨w.heap.size+1,0,none⟩) (by dsimp only;omega) _).setCell (p:=⟨w.heap.size+1,1,none⟩) (by dsimp only;omega) _).trans ((cC _).mono (by have:=b4.out.size;simpa [World.setCell] using this))
end
section
open Go.RowKit
theorem akZ {u:adz}(h:(agu u).1=0):agu u=(0,0):=by
 unfold agu at h ⊢
 by_cases h1:aat u≠(0,0)
 . rw [if_pos h1] at h
   exact absurd (afk h) h1
 rw [if_neg h1] at h ⊢
 by_cases h2:adq (alV u.funcs) u.funcs.length<u.funcs.length
 . rw [if_pos h2] at h
   exact absurd h (aes h2)
 . rw [if_neg h2]
end
end Go.Proofs.YtpeejlpcikefcaaGreatDoor
