import Derived.Test.YtnkfdeiigplhoaaGreatDoorPBody
import Derived.Test.YtnkfdeiigplhoaaGreatDoorPChk4
/- Contracts of core.Fault, of the closure that looks for main, and of slices.IndexFunc over it. What is wrong with a unit: plain. The heap of blocks in memory; its five methods' contracts. The heap of blocks: Swap and Pop. container/heap over the heap of blocks. container/heap's Init and Pop over the heap of blocks. The contract of weigh.lay. -/
set_option maxHeartbeats 4000000
set_option maxRecDepth 100000
namespace Go.Proofs.YtnkfdeiigplhoaaGreatDoor
section
open Go.RowKit
theorem aaY(c a:Int)(w:World) :
 Calls Tryz.prog 24 #[.int .i64 c,.int .i64 a] w fun e w'=>e = .returned (.agg #[.int .i64 c,.int .i64 a])∧Below w.heap.size w w':=by
 go_enter Tryz.func24,Tryz.ntmps24;go_wp2;refine bodyPost_ret (v:=_) ?_ rfl ⟨rfl,?_⟩
 . simp [results,Tryz.results24,go_sem]
 . exact bE
theorem acH {fn : Func} {t : Nat} (dc : fn.results = #[.cell t 31]) {tmps : Array Value} {b : Nat} (ht : tmps.getD t undef = .pointer (some ⟨b, 0, none⟩)) {c a : Int} {W : World}
 (h0:W.cell? ⟨b,0,none⟩=some (.int .i64 c)) (h1:W.cell? ⟨b,1,none⟩=some (.int .i64 a)):(results fn tmps).run Tryz.prog W = .ok (.agg #[.int .i64 c,.int .i64 a]) W:=by
 simp only [Ab3] at ht;simp [results,dc,ht,go_sem,h0,h1]
theorem abj {w:World}{b:Nat}{x y u v:Value}(h0:w.cell? ⟨b,0,none⟩=some x)(h1:w.cell? ⟨b,1,none⟩=some y) :
 ((w.setCell ⟨b,0,none⟩ u).setCell ⟨b,1,none⟩ v).cell? ⟨b,0,none⟩=some u∧((w.setCell ⟨b,0,none⟩ u).setCell ⟨b,1,none⟩ v).cell? ⟨b,1,none⟩=some v:=by
 simp only [World.cell?] at h0 h1;cases hh:w.heap[b]? with
 | none=>rw [hh] at h0;cases h0
 | some o =>
   rw [hh] at h0 h1;cases o with
   | cells c e fr =>
     simp only [World.cell?,World.setCell,Array.getElem?_modify,hh];simp at h0 h1;have l0:=(Aax.1 h0).1;have l1:=(Aax.1 h1).1;simp [l0,l1]
   | _=>simp at h0
def adg(f:aao):Bool:=f.name.toList == [109,97,105,110]
theorem agM(s:ByteArray)(p r:Int)(ba:Option Addr)(n c:Nat)(w:World) :
 Calls Tryz.prog 51 #[.agg #[.string s,.int .i64 p,.int .i64 r,.slice ba n c]] w fun e w'=>e = .returned (.bool (s.toList == [109,97,105,110]))∧Below w.heap.size w w':=by
 go_enter Tryz.func51,Tryz.ntmps51;go_wp2;go_ret;exact⟨rfl,bE⟩
def aaK(fs:List aao):Int:=match fs.findIdx? adg with | some k=>k | none => -1
theorem ac3 {S:Nat->Prop}(fa:Option Addr)(fc:Nat)(fs:List aao)(w:World)(h:SlAt S w 4 aaZ (.slice fa fs.length fc) fs)(hm:fs.length<=1048576) :
 Calls Tryz.prog 28 #[.slice fa fs.length fc,.func (.func 51) #[] #[]] w fun e w'=>e = .returned (.int .i64 (aaK fs))∧Below w.heap.size w w':=by
 have Hh:=hid h;clear h;go_enter Tryz.func28,Tryz.ntmps28;go_wp2_with fail;go_loopw [8] (fun i wr=>∃k:Nat,k<=fs.length∧i = .int .i64 k∧(∀j,j<k->∀x,fs[j]?=some x->adg x=false)∧Below w.heap.size w wr) (fun i _=>fs.length - (intOf i).toNat)
 case atStart=>exact⟨0,Aah _,rfl,fun j hj=>by omega,Below.refl _ _⟩
 case round =>
  obtain⟨k,hk,rfl,br,hb⟩:=hrel;have H:=hid br;have Hb:=hid hb;clear br
  by_cases az:k<fs.length
  . obtain⟨b,off,cs,rfl,-,hx,-,ar⟩:=Hh.out.get az
    obtain⟨ba,bc,rfl,-,-,-,-⟩:=hx.opens;obtain⟨c0,c1,c2,c3⟩:=(ar.later hb).get4;clear ar hx hb
    by_cases he:adg fs[k]=true
    . have hi:aaK fs=k:=by unfold aaK;rw [aex (Aaa az) he H.out]
      have db:(fs[k].name.toList == [109,97,105,110])=true:=he;have Hi:=hid hi;clear hi he;go_wp2_with (go_at_call 51;((with_reducible refine (agM _ _ _ _ _ _ _).mono ?_);rintro e w2 ⟨rfl,aY⟩));go_ret;exact⟨aaA Hi.out.symm,by have h:=Hb.out;exact bE2 aY h⟩
    . have b5:adg fs[k]=false:=by simpa using he
      have db:(fs[k].name.toList == [109,97,105,110])=false:=b5;have He:=hid b5;clear b5 he;go_wp2_with (go_at_call 51;((with_reducible refine (agM _ _ _ _ _ _ _).mono ?_);rintro e w2 ⟨rfl,aY⟩));go_roundw
      case rel=>exact⟨k+1,by omega,by go_num,abL H.out (fun x hx=>by rw [Aaa az] at hx;cases hx;exact He.out),by have h:=Hb.out;exact bE2 aY h⟩
      case measure=>simp [intOf];omega
  . have hi:aaK fs = -1:=by
     unfold aaK;rw [aew (fun j x hx=>H.out j (by have:=(Aae.1 hx).1;omega) x hx)]
    have Hi:=hid hi;clear hi hb;go_wp2_with fail;go_ret;exact⟨aaA Hi.out.symm,Hb.out⟩
end
section
open Go.RowKit
def acR (e : Nat -> Int) : Nat -> Nat
 | 0=>0
 | n+1=>if acR e n<n then acR e n else if e n≠0 then n else n+1
variable {e:Nat->Int}{n:Nat}
theorem aby(h:∀j,j<n->e j=0):acR e n=n:=by
 induction n with
 | zero=>rfl
 | succ n ih=>rw [acR,ih (fun j hj=>h j (by omega)),if_neg (by omega),if_neg (by simpa using h n (by omega))]
variable {k:Nat}
theorem ahz(h:∀j,j<k->e j=0)(hk:k<n)(he:e k≠0):acR e n=k:=by
 induction n with
 | zero=>omega
 | succ n ih =>
   rw [acR];rcases Nat.lt_succ_iff_lt_or_eq.1 hk with h1 | h1
   . rw [ih h1,if_pos h1]
   . subst h1;rw [aby h,if_neg (by omega),if_pos he]
theorem afH(h:¬acR e n<n):∀j,j<n->e j=0:=by
 induction n with
 | zero=>intro j hj;omega
 | succ n ih =>
   rw [acR] at h
   by_cases h1:acR e n<n
   . rw [if_pos h1] at h;omega
   . rw [if_neg h1] at h
     by_cases h2:e n=0
     . exact abL (ih h1) h2
     . rw [if_pos h2] at h;omega
theorem ac7(h:acR e n<n):e (acR e n)≠0:=by
 induction n with
 | zero=>omega
 | succ n ih =>
   rw [acR] at h ⊢
   by_cases h1:acR e n<n
   . rw [if_pos h1];exact ih h1
   . rw [if_neg h1] at h ⊢
     by_cases h2:e n≠0
     . rw [if_pos h2];exact h2
     . rw [if_neg h2] at h;omega
def acj(gs:List aas)(k:Nat):List ByteArray:=(gs.take k).map (·.name)
def abe(gs:List aas)(k:Nat):Int:=((gs.take k).map (·.size)).sum
def ab9(gs:List aas)(fs:List aao)(k:Nat):List ByteArray:=acj gs gs.length++(fs.take k).map (·.name)
def ack(names:List ByteArray)(words:Int)(g:aas):Int :=
 if ab1 g.name=false then 12
 else if adu names g.name=true then 7
 else if ¬(1<=g.size∧g.size<=200) then 3
 else if g.size<(g.init.length:Int) then 9
 else if 200<words+g.size then 10
 else 0
def acN(gs:List aas)(k:Nat):Int:=match gs[k]? with | some g=>ack (acj gs k) (abe gs k) g | none=>0
def abr(gs:List aas)(fs:List aao)(k:Nat):Int:=match fs[k]? with | some f=>ac1 (ab9 gs fs k) f | none=>0
def aa2(fs:List aao)(k:Nat):Int:=match fs[k]? with | some f=>abP fs f | none=>0
def afp(fs:List aao):Int×Int :=
 if aaK fs<0 then (6,0) else if 0<(fs.getD (aaK fs).toNat ⟨ByteArray.empty,0,0,[]⟩).params then (5,aaK fs) else (0,0)
def aal(u:aaC):Int×Int :=
 if 10<u.globals.length∨10<u.funcs.length then (2,0)
 else if acR (acN u.globals) u.globals.length<u.globals.length then (acN u.globals (acR (acN u.globals) u.globals.length),acR (acN u.globals) u.globals.length)
 else if acR (abr u.globals u.funcs) u.funcs.length<u.funcs.length then (abr u.globals u.funcs (acR (abr u.globals u.funcs) u.funcs.length),acR (abr u.globals u.funcs) u.funcs.length)
 else if acR (aa2 u.funcs) u.funcs.length<u.funcs.length then (aa2 u.funcs (acR (aa2 u.funcs) u.funcs.length),acR (aa2 u.funcs) u.funcs.length)
 else afp u.funcs
variable {gs:List aas}
theorem ai6(h:k<gs.length):acj gs (k+1)=acj gs k++[gs[k].name]:=by
 unfold acj;rw [Aat h,Aav];rfl
theorem ai0{fs:List aao}(h:k<fs.length):ab9 gs fs (k+1)=ab9 gs fs k++[fs[k].name]:=by
 unfold ab9;rw [Aat h,Aav,Abh];rfl
theorem acE(h:k<gs.length):abe gs (k+1)=abe gs k+gs[k].size:=by
 unfold abe;rw [Aat h,Aav,List.sum_append];simp
theorem aeY {names:List ByteArray}{words:Int}{g:aas}(h:ack names words g=0) :
 ab1 g.name=true∧adu names g.name=false∧1<=g.size∧g.size<=200∧(g.init.length:Int)<=g.size∧words+g.size<=200:=by
 unfold ack at h
 by_cases h1:ab1 g.name=false
 . rw [if_pos h1] at h;omega
 rw [if_neg h1] at h
 by_cases h2:adu names g.name=true
 . rw [if_pos h2] at h;omega
 rw [if_neg h2] at h
 by_cases h3:1<=g.size∧g.size<=200
 case neg=>rw [if_pos h3] at h;omega
 rw [if_neg (by simpa using h3)] at h
 by_cases h4:g.size<(g.init.length:Int)
 . rw [if_pos h4] at h;omega
 rw [if_neg h4] at h
 by_cases h5:200<words+g.size
 . rw [if_pos h5] at h;omega
 exact⟨by simpa using h1,by simpa using h2,h3.1,h3.2,by omega,by omega⟩
theorem abH {names:List ByteArray}{f:aao}(h:ac1 names f=0) :
 ab1 f.name=true∧adu names f.name=false∧0<=f.params∧f.params<=6∧f.params<=f.regs∧f.regs<=100∧1<=f.blocks.length∧f.blocks.length<=40∧aaT f.blocks<=300:=by
 unfold ac1 at h
 by_cases h1:ab1 f.name=false
 . rw [if_pos h1] at h;omega
 rw [if_neg h1] at h
 by_cases h2:adu names f.name=true
 . rw [if_pos h2] at h;omega
 rw [if_neg h2] at h
 by_cases h3:¬(0<=f.params∧f.params<=6)∨¬(f.params<=f.regs∧f.regs<=100)
 . rw [if_pos h3] at h;omega
 rw [if_neg h3] at h
 by_cases h4:¬(1<=f.blocks.length∧f.blocks.length<=40)∨300<aaT f.blocks
 . rw [if_pos h4] at h;omega
 exact⟨by simpa using h1,by simpa using h2,by omega,by omega,by omega,by omega,by omega,by omega,by omega⟩
theorem agW {fs:List aao}(h:¬aaK fs<0):∃m:Nat,m<fs.length∧aaK fs=m:=by
 unfold aaK at *;split at h
 . rename_i k hk
   rw [List.findIdx?_eq_some_iff_getElem] at hk;exact⟨k,hk.1,rfl⟩
 . omega
theorem agx(hk:k<=gs.length)(h:∀j,j<k->acN gs j=0):0<=abe gs k∧abe gs k<=200:=by
 induction k with
 | zero=>simp [abe]
 | succ k ih =>
   have h1:=ih (by omega) (fun j hj=>h j (by omega));have h2:=h k (by omega);have az:k<gs.length:=by omega
   unfold acN at h2;rw [Aaa az] at h2;have h3:=aeY h2;rw [acE az];omega
variable {w:World}{base:Nat}{v:Value}
theorem aeF{w':World}{e:TypeId}{size:Nat}{xs:List Value}(h:w.ownsRow base e size v n xs)(hb:Below w.heap.size w w'):w'.ownsRow base e size v n xs:=by
 obtain⟨h1,h2⟩:=h;refine⟨h1,?_⟩;rcases h2 with h2 | ⟨g,cap,cur,hv,hg,hh,r⟩
 . exact .inl h2
 . have az:g<w.heap.size:=by
    rcases Nat.lt_or_ge g w.heap.size with h3 | h3
    . exact h3
    . rw [Array.getElem?_eq_none h3] at hh;cases hh
   exact .inr ⟨g,cap,cur,hv,hg,by rw [hb.block g az];exact hh,r⟩
theorem apQ{α:Type}{r:Rp α}(f:α->Value){e:TypeId}{l:List α}(h:w.ownsRow base e 1 v l.length (l.map f))(hr:∀x∈l,r (fun b=>base<=b) w [f x] x) :
 SlAt (fun b=>base<=b) w 1 r v l:=by
 obtain⟨h1,h2⟩:=h;rcases h2 with⟨rfl,h2⟩ | ⟨g,cap,cur,rfl,hg,hh,hn,hm,hs,ht⟩
 . have:l=[]:=Ab4 h2
   subst this;exact⟨none,0,rfl,Aad _,by omega,fun h=>absurd rfl h⟩
 . refine⟨_,cap,rfl,hn,by unfold maxLen at hm;exact hm,fun _=>⟨g,0,rfl,hg,fun i x hx=>⟨[f x],hr x (Aam hx),rfl,?_⟩⟩⟩
   refine .cons ?_ (.nil _ _ _);have h3:(l.map f)[i]?=some (f x):=by rw [Aak,hx];rfl
   rw [<-ht,Aan,List.getElem?_take] at h3;have hi:i<l.length:=(Aae.1 hx).1;rw [if_pos hi] at h3;simp only [World.cell?,hh,Aab,Aan];simpa using h3
theorem ajU{e:TypeId}{l:List ByteArray}(h:w.ownsRow base e 1 v l.length (l.map Value.string)):SlAt (fun b=>base<=b) w 1 aof v l :=
 apQ Value.string h (fun _ _=>rfl)
end
section
open Go.RowKit
structure HS (w:World)(L G cap m:Nat)(a:Nat->Nat)(cv:Value):Prop where
 row:w.heap[L]?=some (.cells #[.slice (some ⟨G,0,none⟩) m cap,cv] 117 (0,0))
 arr:∃cur:Array Value,w.heap[G]?=some (.cells cur 3 (0,0))∧cur.size=cap∧∀k,k<m->cur[k]?=some (.int .i64 (a k))
 le:m<=cap
 big:cap<=9223372036854775807
 ne:L≠G
section
variable {w : World} {L G cap m : Nat} {a : Nat -> Nat} {cv : Value}
theorem HS.c0(h:HS w L G cap m a cv):w.cell? ⟨L,0,none⟩=some (.slice (some ⟨G,0,none⟩) m cap):=by simp [World.cell?,h.row]
theorem HS.c1(h:HS w L G cap m a cv):w.cell? ⟨L,1,none⟩=some cv:=by simp [World.cell?,h.row]
theorem HS.f0(h:HS w L G cap m a cv)(k:Nat):w.frozen? ⟨L,k,none⟩=false:=by simp [World.frozen?,h.row]
theorem HS.g(h:HS w L G cap m a cv){k:Nat}(hk:k<m):w.cell? ⟨G,k,none⟩=some (.int .i64 (a k)):=by
 obtain⟨cur,h1,_,h2⟩:=h.arr;simp [World.cell?,h1,h2 k hk]
theorem HS.gf(h:HS w L G cap m a cv)(k:Nat):w.frozen? ⟨G,k,none⟩=false:=by
 obtain⟨cur,h1,_,h2⟩:=h.arr;simp [World.frozen?,h1]
theorem HS.ltL(h:HS w L G cap m a cv):L<w.heap.size:=aac h.c0
theorem HS.ltG(h:HS w L G cap m a cv):G<w.heap.size:=by
 obtain⟨cur,h1,_,_⟩:=h.arr;rcases Nat.lt_or_ge G w.heap.size with h3 | h3
 . exact h3
 . rw [Array.getElem?_eq_none h3] at h1;cases h1
theorem HS.drewN(h:HS w L G cap m a cv)(q:Nat):HS (w.drewN q) L G cap m a cv:=⟨h.row,h.arr,h.le,h.big,h.ne⟩
theorem HS.set(h:HS w L G cap m a cv){i:Nat}(hi:i<m)(x:Nat):HS (w.setCell ⟨G,i,none⟩ (.int .i64 x)) L G cap m (fun k=>if k=i then x else a k) cv:=by
 obtain⟨h1,⟨cur,h2,h3,h4⟩,h5,h6,h7⟩:=h;refine⟨?_,⟨cur.setIfInBounds i (.int .i64 x),?_,by simpa using h3,fun k hk=>?_⟩,h5,h6,h7⟩
 . rw [Below.heap_setCell _ _ _ _ h7];exact h1
 . simp [World.setCell,Array.getElem?_modify,h2]
 . rw [Abx]
   by_cases hki:k=i
   . subst hki;simp;omega
   . rw [if_neg (fun e=>hki e.symm),if_neg hki];exact h4 k hk
theorem HS.cut(h:HS w L G cap m a cv){m':Nat}(hm:m'<=m):HS (w.setCell ⟨L,0,none⟩ (.slice (some ⟨G,0,none⟩) m' cap)) L G cap m' a cv:=by
 obtain⟨h1,⟨cur,h2,h3,h4⟩,h5,h6,h7⟩:=h;refine⟨?_,⟨cur,?_,h3,fun k hk=>h4 k (by omega)⟩,by omega,h6,h7⟩
 . simp [World.setCell,Array.getElem?_modify,h1]
 . rw [Below.heap_setCell _ _ _ _ (fun e=>h7 e.symm)];exact h2
end
structure Two (L G:Nat)(w w':World):Prop where
 os:w'.os=w.os
 tape:w'.tape=w.tape
 output:w'.output=w.output
 size:w'.heap.size=w.heap.size
 block:∀k,k≠L->k≠G->w'.heap[k]?=w.heap[k]?
theorem Two.refl(L G:Nat)(w:World):Two L G w w:=⟨rfl,rfl,rfl,rfl,fun _ _ _=>rfl⟩
variable {L G:Nat}{a:World}
theorem Two.trans{b c:World}(h:Two L G a b)(k:Two L G b c):Two L G a c :=
 ⟨k.os.trans h.os,k.tape.trans h.tape,k.output.trans h.output,k.size.trans h.size,fun i h1 h2=>(k.block i h1 h2).trans (h.block i h1 h2)⟩
variable {w:World}
theorem Two.drewN(h:Two L G a w)(q:Nat):Two L G a (w.drewN q):=⟨h.os,h.tape,h.output,h.size,h.block⟩
theorem Two.set(h:Two L G a w){p:Addr}(hp:p.block=L∨p.block=G)(v:Value):Two L G a (w.setCell p v) :=
 ⟨h.os,h.tape,h.output,by simp [World.setCell];exact h.size,fun k h1 h2=>by rw [Below.heap_setCell _ _ _ _ (by rcases hp with hp | hp <;> rw [hp] <;> assumption)];exact h.block k h1 h2⟩
theorem Two.below{B:Nat}{w':World}(h:Two L G w w')(hL:B<=L)(hG:B<=G):Below B w w' :=
 ⟨h.os,h.tape,h.output,Nat.le_of_eq h.size.symm,fun k hk=>h.block k (by omega) (by omega)⟩
theorem Two.stays{w':World}(h:Two L G w w'):aav (fun b=>b≠L∧b≠G) w w':=fun b o v hb hc=>by
 rw [World.cell?_of_block (w:=w) (h.block b hb.1 hb.2)];exact hc
theorem aev{cap m:Nat}{a:Nat->Nat}{cv:Value}(w:World)(h:HS w L G cap m a cv) :
 Calls Tryz.prog 60 #[.pointer (some ⟨L,0,none⟩)] w fun e w'=>e = .returned (.int .i64 m)∧w=w':=by
 have c0:=h.c0;have hl:=h.le;have hb:=h.big;clear h;go_enter Tryz.func60,Tryz.ntmps60;go_wp2;go_ret;exact⟨rfl,rfl⟩
def aaB(C:List Int)(b:Nat):Int:=C.getD b 0
theorem alM{S : Nat -> Prop} {cap m:Nat} {a : Nat -> Nat} {ca : Option Addr} {cc : Nat} {C : List Int} (w : World) (i j : Nat) (h : HS w L G cap m a (.slice ca C.length cc)) (hC : SlAt S w 1 aaO (.slice ca C.length cc) C)
 (hi:i<m) (hj:j<m) (bL:a i<C.length) (bM:a j<C.length) :
 Calls Tryz.prog 207 #[.pointer (some ⟨L,0,none⟩),.int .i64 i,.int .i64 j] w fun e w'=>e = .returned (.bool (aa7 (aaB C) (a i) (a j)))∧∃q,w'=w.drewN q:=by
 have c0:=h.c0;have c1:=h.c1;have g1:=h.g hi;have g2:=h.g hj;have hl:=h.le;have hb:=h.big;obtain⟨b,off,cs,rfl,-,⟨rfl,-⟩,-,ar⟩:=hC.get bL;have d1:=ar.get1;obtain⟨b',dn,ds,c6,-,⟨rfl,-⟩,-,bx⟩:=hC.get bM;cases c6;have d2:=bx.get1;rw [Aan] at d1 d2;obtain⟨_,_,c9,du⟩:=hC.val;cases c9;have e1:aaB C (a i)=C[a i]:=by unfold aaB;rw [Aac,Aaa bL];rfl
 have e2:aaB C (a j)=C[a j]:=by unfold aaB;rw [Aac,Aaa bM];rfl
 have E1:=hid e1;have E2:=hid e2;clear h hC ar bx e1 e2;generalize C[a i]=x at *;generalize C[a j]=y at *;generalize a i=u at *;generalize a j=v at *;have bw:y<x∨(x=y∧u<v)∨(x=y∧¬u<v)∨x<y:=by omega
 rcases bw with hc | ⟨hc,huv⟩ | ⟨hc,huv⟩ | hc
 all_goals
  first
   | (have Hr:=hid (show aa7 (aaB C) u v=true by simp only [aa7,E1.out,E2.out,Bool.or_eq_true,Bool.and_eq_true,decide_eq_true_eq];omega))
   | (have Hr:=hid (show aa7 (aaB C) u v=false by simp only [aa7,E1.out,E2.out,Abj,Ab2,decide_eq_false_iff_not];omega))
  first
   | subst hc
   | (have q1:=ahl (a:=x) (b:=y) (by omega);have q2:decide (y<x)=true:=decide_eq_true hc)
   | (have q1:=ahl (a:=x) (b:=y) (by omega);have q2:decide (y<x)=false:=decide_eq_false (by omega))
  go_enter Tryz.func207,Tryz.ntmps207;go_wp2_with fail;go_quiet (fail);go_wp2_with fail;go_quiet (fail);go_wp2_with fail;go_ret;exact⟨afJ Hr.out.symm,_,World.drewN_drewN _ _ _⟩
end
section
open Go.RowKit
theorem alQ (L G cap m : Nat) (_cv : Value) (w : World) (i j x y : Nat) (b6 : i ≠ j) (hi : i < m) (hj : j < m) (_hm : m <= cap) (_hc : cap <= 9223372036854775807) (bd : L ≠ G)
 (c0:w.cell? ⟨L,0,none⟩=some (.slice (some ⟨G,0,none⟩) m cap)) (g1:w.cell? ⟨G,i,none⟩=some (.int .i64 x)) (g2:w.cell? ⟨G,j,none⟩=some (.int .i64 y)) (f1:w.frozen? ⟨G,i,none⟩=false) (f2:w.frozen? ⟨G,j,none⟩=false) :
 Calls Tryz.prog 209 #[.pointer (some ⟨L,0,none⟩),.int .i64 i,.int .i64 j] w fun e w'=>e = .returned (.tuple #[])∧w'.Alike ((w.setCell ⟨G,i,none⟩ (.int .i64 y)).setCell ⟨G,j,none⟩ (.int .i64 x))∧w'.tape=w.tape:=by
 go_enter Tryz.func209,Tryz.ntmps209;go_wp2_with fail;go_big_region
 all_goals (go_end0;exact⟨rfl,⟨rfl,rfl,rfl⟩,rfl⟩)
theorem akD (L G cap m : Nat) (_cv : Value) (w : World) (i x : Nat) (hi : i < m) (_hm : m <= cap) (_hc : cap <= 9223372036854775807) (_hne : L ≠ G)
 (c0:w.cell? ⟨L,0,none⟩=some (.slice (some ⟨G,0,none⟩) m cap)) (g1:w.cell? ⟨G,i,none⟩=some (.int .i64 x)) (f1:w.frozen? ⟨G,i,none⟩=false) :
 Calls Tryz.prog 209 #[.pointer (some ⟨L,0,none⟩),.int .i64 i,.int .i64 i] w fun e w'=>e = .returned (.tuple #[])∧w'.Alike ((w.setCell ⟨G,i,none⟩ (.int .i64 x)).setCell ⟨G,i,none⟩ (.int .i64 x))∧w'.tape=w.tape:=by
 go_enter Tryz.func209,Tryz.ntmps209;go_wp2_with fail;go_big_region
 all_goals (go_end0;exact⟨rfl,⟨rfl,rfl,rfl⟩,rfl⟩)
variable {L G cap m:Nat}{a:Nat->Nat}{cv:Value}
theorem HS.congr{w:World}{a':Nat->Nat}(h:HS w L G cap m a cv)(he:∀k,k<m->a k=a' k):HS w L G cap m a' cv:=by
 obtain⟨h1,⟨cur,h2,h3,h4⟩,h5,h6,h7⟩:=h;exact⟨h1,⟨cur,h2,h3,fun k hk=>by rw [<-he k hk];exact h4 k hk⟩,h5,h6,h7⟩
theorem HS.alike{w w':World}(h:HS w L G cap m a cv)(he:w'.Alike w):HS w' L G cap m a cv:=by
 obtain⟨h1,h2,h5,h6,h7⟩:=h;exact⟨by rw [he.1];exact h1,by rw [he.1];exact h2,h5,h6,h7⟩
theorem alP(w:World)(i j:Nat)(h:HS w L G cap m a cv)(hi:i<m)(hj:j<m) :
 Calls Tryz.prog 209 #[.pointer (some ⟨L,0,none⟩),.int .i64 i,.int .i64 j] w fun e w'=>e = .returned (.tuple #[])∧HS w' L G cap m (swp a i j) cv∧Two L G w w':=by
 have fin:∀w',w'.Alike ((w.setCell ⟨G,i,none⟩ (.int .i64 (a j))).setCell ⟨G,j,none⟩ (.int .i64 (a i)))->w'.tape=w.tape->HS w' L G cap m (swp a i j) cv∧Two L G w w':=fun w' ha ht=>by
  refine⟨(((h.set hi (a j)).set hj (a i)).congr (fun k hk=>?_)).alike ha,?_⟩
  . unfold swp
    by_cases h1:k=j
    . by_cases h2:k=i
      . rw [if_pos h1,if_pos h2,<-h1,<-h2]
      . rw [if_pos h1,if_neg h2,if_pos h1]
    . rw [if_neg h1]
      by_cases h2:k=i
      . rw [if_pos h2,if_pos h2]
      . rw [if_neg h2,if_neg h2,if_neg h1]
  . have t:=((Two.refl L G w).set (p:=⟨G,i,none⟩) (.inr rfl) (.int .i64 (a j))).set (p:=⟨G,j,none⟩) (.inr rfl) (.int .i64 (a i))
    exact⟨ha.2.1.trans t.os,ht,ha.2.2.trans t.output,by rw [ha.1];exact t.size,fun k h1 h2=>by rw [ha.1];exact t.block k h1 h2⟩
 by_cases b6:i=j
 . subst b6
   exact (akD L G cap m cv w i (a i) hi h.le h.big h.ne h.c0 (h.g hi) (h.gf i)).mono fun e w' ⟨h1,h2,h3⟩=>⟨h1,fin w' h2 h3⟩
 . exact (alQ L G cap m cv w i j (a i) (a j) b6 hi hj h.le h.big h.ne h.c0 (h.g hi) (h.g hj) (h.gf i) (h.gf j)).mono fun e w' ⟨h1,h2,h3⟩=>⟨h1,fin w' h2 h3⟩
theorem alN(w:World)(h:HS w L G cap m a cv)(hm:0<m) :
 Calls Tryz.prog 208 #[.pointer (some ⟨L,0,none⟩)] w fun e w'=>e = .returned (.iface 3 (.int .i64 (a (m - 1))))∧HS w' L G cap (m - 1) a cv∧Two L G w w':=by
 obtain⟨n,rfl⟩:∃n,m=n+1:=⟨m - 1,by omega⟩
 rw [Nat.add_sub_cancel];have c0:=h.c0;have g1:=h.g (k:=n) (by omega);have f0:=h.f0 0;have hl:=h.le;have hb:=h.big;have Hh:=hid h;clear h;go_enter Tryz.func208,Tryz.ntmps208;go_wp2_with fail;go_ret;exact⟨rfl,Hh.out.cut (by omega),(Two.refl L G w).set (p:=⟨L,0,none⟩) (.inl rfl) _⟩
end
section
open Go.RowKit
theorem ae0 (a : Addr) (w : World) : (method 377 115 (.pointer (some a)) "Len").run Tryz.prog w = .ok (60, .pointer (some a)) w := by kernel_rfl
theorem ajd (a : Addr) (w : World) : (method 377 115 (.pointer (some a)) "Less").run Tryz.prog w = .ok (207, .pointer (some a)) w := by kernel_rfl
theorem af7 (a : Addr) (w : World) : (method 377 115 (.pointer (some a)) "Swap").run Tryz.prog w = .ok (209, .pointer (some a)) w := by kernel_rfl
theorem akL (a : Addr) (w : World) : (method 377 115 (.pointer (some a)) "Pop").run Tryz.prog w = .ok (208, .pointer (some a)) w := by kernel_rfl
variable {L G cap m:Nat}
theorem acG{S : Nat -> Prop}  {a : Nat -> Nat} {ca : Option Addr} {cc : Nat} {C : List Int} (w : World) (iz jz : Int) (i j : Nat) (bC : iz = i) (b7 : jz = j) (h : HS w L G cap m a (.slice ca C.length cc)) (hC : SlAt S w 1 aaO (.slice ca C.length cc) C)
 (hi:i<m) (hj:j<m) (bL:a i<C.length) (bM:a j<C.length) :
 Calls Tryz.prog 207 #[.pointer (some ⟨L,0,none⟩),.int .i64 iz,.int .i64 jz] w fun e w'=>e = .returned (.bool (aa7 (aaB C) (a i) (a j)))∧∃q,w'=w.drewN q:=by
 subst bC b7;exact alM w i j h hC hi hj bL bM
variable {a:Nat->Nat}
theorem ahq{cv:Value}(w:World)(iz jz:Int)(i j:Nat)(bC:iz=i)(b7:jz=j)(h:HS w L G cap m a cv)(hi:i<m)(hj:j<m) :
 Calls Tryz.prog 209 #[.pointer (some ⟨L,0,none⟩),.int .i64 iz,.int .i64 jz] w fun e w'=>e = .returned (.tuple #[])∧HS w' L G cap m (swp a i j) cv∧Two L G w w':=by
 subst bC b7;exact alP w i j h hi hj
def ajx(e:Ending):Prop:=∃b:Bool,e = .returned (.bool b)
theorem aeJ {α:Type}{S:Nat->Prop}{w:World}{sz:Nat}{r:Rp α}(hr:r.Mono){v:Value}{l:List α}(h:SlAt S w sz r v l)(q:Nat):SlAt S (w.drewN q) sz r v l :=
 h.mono hr (fun _ h=>h) (fun b o v _ hc=>by rw [World.cell?_drewN];exact hc)
variable {c:Nat->Int}{n f k:Nat}
theorem aln(h:n<=2 * k+1):acX c n f a k=a:=by
 cases f with
 | zero=>rfl
 | succ f=>rw [acX,if_pos h]
theorem aeU(h:¬n<=2 * k+1)(hl:aa7 c (a (kid c a n k)) (a k)=false):acX c n f a k=a:=by
 cases f with
 | zero=>rfl
 | succ f=>rw [acX,if_neg h,if_neg (by rw [hl];simp)]
theorem ahk(h:¬n<=2 * k+1)(hf:n<=k+f)(hl:aa7 c (a (kid c a n k)) (a k)=true) :
 ∃g,f=g+1∧n<=kid c a n k+g∧acX c n f a k=acX c n g (swp a k (kid c a n k)) (kid c a n k):=by
 cases f with
 | zero=>omega
 | succ f=>exact⟨f,rfl,by have:=alX (c:=c) (a:=a) (n:=n) (i:=k) (by omega);omega,by rw [acX,if_neg h,if_pos hl]⟩
theorem alF{S : Nat -> Prop}  {a : Nat -> Nat} {ca : Option Addr} {cc : Nat} {C : List Int} (w : World) (i n : Nat) (h : HS w L G cap m a (.slice ca C.length cc)) (hC : SlAt S w 1 aaO (.slice ca C.length cc) C) (hS : ∀ b, S b -> b ≠ L ∧ b ≠ G)
 (hn:n<=m) (hm:m<=1048576) (hi:i<=1048576) (ha:∀k,k<m->a k<C.length) :
 Calls Tryz.prog 89 #[.iface 115 (.pointer (some ⟨L,0,none⟩)),.int .i64 i,.int .i64 n] w fun e w' =>
  ajx e∧HS w' L G cap m (acX (aaB C) n n a i) (.slice ca C.length cc)∧Two L G w w':=by
 have HC:=hid hC;have aS:=hid hS;have Ha:=hid ha;have Hh:=hid h;clear hC hS ha h;go_enter Tryz.func89,Tryz.ntmps89;go_wp2_with fail;go_loopw [7] (fun iv wr=>∃(k:Nat) (a':Nat->Nat),k<=2097152∧iv = .int .i64 k∧HS wr L G cap m a' (.slice ca C.length cc)∧Two L G w wr∧ab3 m a a'∧∃f,n<=k+f∧acX (aaB C) n f a' k=acX (aaB C) n n a i) (fun iv _=>n - (intOf iv).toNat)
 case atStart=>exact⟨i,a,by omega,rfl,Hh.out,Two.refl _ _ _,ab3.refl _ _,n,by omega,rfl⟩
 case round =>
  obtain⟨k,a',hk,rfl,hs,ht,aG,f,hf,hd⟩:=hrel;have Hs:=hid hs;have Ht:=hid ht;have aE:=hid aG;have Hd:=hid hd;clear hs ht aG hd;have cf:=ajd;have dz:=af7
  by_cases h1:n<=2 * k+1
  . have Hr:=hid ((aln h1).symm.trans Hd.out)
    go_wp2_with fail;go_ret;exact⟨⟨_,rfl⟩,by rw [<-Hr.out];exact Hs.out,Ht.out⟩
  have au:Hid (SlAt S wr 1 aaO (.slice ca C.length cc) C):=HC.out.mono aae (fun _ h=>h) (fun b o v hb hc=>Ht.out.stays b o v (aS.out b hb) hc);have ai:Hid (∀k,k<m->a' k<C.length):=fun k hk=>by
   obtain⟨k',aZ,he⟩:=(aE.out.img (a' k)).2 ⟨k,hk,rfl⟩;rw [<-he];exact Ha.out k' aZ
  have Z1:Hid (2 * (k:Int)+1=((2 * k+1:Nat):Int)):=by show _=_;omega
  have Z2:Hid (2 * (k:Int)+1+1=((2 * k+2:Nat):Int)):=by show _=_;omega
  have b8:(2 * k+2<n∧aa7 (aaB C) (a' (2 * k+2)) (a' (2 * k+1))=true∧kid (aaB C) a' n k=2 * k+2) ∨
   (2 * k+2<n∧aa7 (aaB C) (a' (2 * k+2)) (a' (2 * k+1))=false∧kid (aaB C) a' n k=2 * k+1)∨(n<=2 * k+2∧kid (aaB C) a' n k=2 * k+1):=by
   unfold kid
   by_cases h2:2 * k+2<n
   . cases hl:aa7 (aaB C) (a' (2 * k+2)) (a' (2 * k+1)) <;> simp [h2]
   . simp [h2];omega
  rcases b8 with⟨h2,hl,hk2⟩ | ⟨h2,hl,hk2⟩ | ⟨h2,hk2⟩
  . have av:=hid hk2
    clear hk2;cases hl2:aa7 (aaB C) (a' (2 * k+2)) (a' k)
    . have Hr:=hid ((aeU (f:=f) h1 (by rw [av.out];exact hl2)).symm.trans Hd.out)
      go_wp2_with fail;refine (acG wr _ _ (2 * k+2) (2 * k+1) Z2.out Z1.out Hs.out au.out (by omega) (by omega) (ai.out _ (by omega)) (ai.out _ (by omega))).mono ?_;rintro e w' ⟨rfl,q,rfl⟩;go_wp2_with fail;refine (acG (wr.drewN q) _ _ (2 * k+2) k Z2.out rfl (Hs.out.drewN q) (aeJ aae au.out q) (by omega) (by omega) (ai.out _ (by omega)) (ai.out _ (by omega))).mono ?_;rintro e w' ⟨rfl,q2,rfl⟩;go_wp2_with fail;go_ret;refine⟨⟨_,rfl⟩,?_,?_⟩
      . rw [<-Hr.out]
        simpa using ((Hs.out.drewN q).drewN q2)
      . simpa using ((Ht.out.drewN q).drewN q2)
    . obtain⟨g',bz,aK,aL⟩:=ahk (c:=aaB C) (n:=n) (f:=f) (k:=k) (a:=a') h1 hf (by rw [av.out];exact hl2)
      have bf:=hid aK;have bg:=hid aL;clear bz aK aL;go_wp2_with fail;refine (acG wr _ _ (2 * k+2) (2 * k+1) Z2.out Z1.out Hs.out au.out (by omega) (by omega) (ai.out _ (by omega)) (ai.out _ (by omega))).mono ?_;rintro e w' ⟨rfl,q,rfl⟩;go_wp2_with fail;refine (acG (wr.drewN q) _ _ (2 * k+2) k Z2.out rfl (Hs.out.drewN q) (aeJ aae au.out q) (by omega) (by omega) (ai.out _ (by omega)) (ai.out _ (by omega))).mono ?_;rintro e w' ⟨rfl,q2,rfl⟩;go_wp2_with fail;refine (ahq _ _ _ k (2 * k+2) rfl Z2.out (by simpa using ((Hs.out.drewN q).drewN q2)) (by omega) (by omega)).mono ?_;rintro e w3 ⟨rfl,aC,aD⟩;have aV:=hid aC;have aW:=hid aD;clear aC aD;go_wp2_with fail;go_roundw
      case rel =>
       refine⟨2 * k+2,_,by omega,by go_num,aV.out,Ht.out.trans ?_,aE.out.trans (ab3.swp a' (by omega) (by omega)),g',?_,?_⟩
       . exact Two.trans (by simpa using ((((Two.refl L G wr).drewN q).drewN q2))) aW.out
       . rw [<-av.out];exact bf.out
       . rw [<-Hd.out,bg.out,av.out]
      case measure=>simp [intOf];omega
  . have av:=hid hk2
    clear hk2;cases hl2:aa7 (aaB C) (a' (2 * k+1)) (a' k)
    . have Hr:=hid ((aeU (f:=f) h1 (by rw [av.out];exact hl2)).symm.trans Hd.out)
      go_wp2_with fail;refine (acG wr _ _ (2 * k+2) (2 * k+1) Z2.out Z1.out Hs.out au.out (by omega) (by omega) (ai.out _ (by omega)) (ai.out _ (by omega))).mono ?_;rintro e w' ⟨rfl,q,rfl⟩;go_wp2_with fail;refine (acG (wr.drewN q) _ _ (2 * k+1) k Z1.out rfl (Hs.out.drewN q) (aeJ aae au.out q) (by omega) (by omega) (ai.out _ (by omega)) (ai.out _ (by omega))).mono ?_;rintro e w' ⟨rfl,q2,rfl⟩;go_wp2_with fail;go_ret;refine⟨⟨_,rfl⟩,?_,?_⟩
      . rw [<-Hr.out]
        simpa using ((Hs.out.drewN q).drewN q2)
      . simpa using ((Ht.out.drewN q).drewN q2)
    . obtain⟨g',bz,aK,aL⟩:=ahk (c:=aaB C) (n:=n) (f:=f) (k:=k) (a:=a') h1 hf (by rw [av.out];exact hl2)
      have bf:=hid aK;have bg:=hid aL;clear bz aK aL;go_wp2_with fail;refine (acG wr _ _ (2 * k+2) (2 * k+1) Z2.out Z1.out Hs.out au.out (by omega) (by omega) (ai.out _ (by omega)) (ai.out _ (by omega))).mono ?_;rintro e w' ⟨rfl,q,rfl⟩;go_wp2_with fail;refine (acG (wr.drewN q) _ _ (2 * k+1) k Z1.out rfl (Hs.out.drewN q) (aeJ aae au.out q) (by omega) (by omega) (ai.out _ (by omega)) (ai.out _ (by omega))).mono ?_;rintro e w' ⟨rfl,q2,rfl⟩;go_wp2_with fail;refine (ahq _ _ _ k (2 * k+1) rfl Z1.out (by simpa using ((Hs.out.drewN q).drewN q2)) (by omega) (by omega)).mono ?_;rintro e w3 ⟨rfl,aC,aD⟩;have aV:=hid aC;have aW:=hid aD;clear aC aD;go_wp2_with fail;go_roundw
      case rel =>
       refine⟨2 * k+1,_,by omega,by go_num,aV.out,Ht.out.trans ?_,aE.out.trans (ab3.swp a' (by omega) (by omega)),g',?_,?_⟩
       . exact Two.trans (by simpa using ((((Two.refl L G wr).drewN q).drewN q2))) aW.out
       . rw [<-av.out];exact bf.out
       . rw [<-Hd.out,bg.out,av.out]
      case measure=>simp [intOf];omega
  . have av:=hid hk2
    clear hk2;cases hl2:aa7 (aaB C) (a' (2 * k+1)) (a' k)
    . have Hr:=hid ((aeU (f:=f) h1 (by rw [av.out];exact hl2)).symm.trans Hd.out)
      go_wp2_with fail;refine (acG wr _ _ (2 * k+1) k Z1.out rfl Hs.out au.out (by omega) (by omega) (ai.out _ (by omega)) (ai.out _ (by omega))).mono ?_;rintro e w' ⟨rfl,q2,rfl⟩;go_wp2_with fail;go_ret;refine⟨⟨_,rfl⟩,?_,?_⟩
      . rw [<-Hr.out]
        simpa using (Hs.out.drewN q2)
      . simpa using (Ht.out.drewN q2)
    . obtain⟨g',bz,aK,aL⟩:=ahk (c:=aaB C) (n:=n) (f:=f) (k:=k) (a:=a') h1 hf (by rw [av.out];exact hl2)
      have bf:=hid aK;have bg:=hid aL;clear bz aK aL;go_wp2_with fail;refine (acG wr _ _ (2 * k+1) k Z1.out rfl Hs.out au.out (by omega) (by omega) (ai.out _ (by omega)) (ai.out _ (by omega))).mono ?_;rintro e w' ⟨rfl,q2,rfl⟩;go_wp2_with fail;refine (ahq _ _ _ k (2 * k+1) rfl Z1.out (by simpa using (Hs.out.drewN q2)) (by omega) (by omega)).mono ?_;rintro e w3 ⟨rfl,aC,aD⟩;have aV:=hid aC;have aW:=hid aD;clear aC aD;go_wp2_with fail;go_roundw
      case rel =>
       refine⟨2 * k+1,_,by omega,by go_num,aV.out,Ht.out.trans ?_,aE.out.trans (ab3.swp a' (by omega) (by omega)),g',?_,?_⟩
       . exact Two.trans (by simpa using (((Two.refl L G wr).drewN q2))) aW.out
       . rw [<-av.out];exact bf.out
       . rw [<-Hd.out,bg.out,av.out]
      case measure=>simp [intOf];omega
end
section
open Go.RowKit
variable {S:Nat -> Prop}{L G cap m cc:Nat}{a:Nat -> Nat}{ca:Option Addr}{C:List Int}
theorem alG(w : World) (iz nz : Int) (i n : Nat) (bC : iz = i) (df : nz = n) (h : HS w L G cap m a (.slice ca C.length cc)) (hC : SlAt S w 1 aaO (.slice ca C.length cc) C) (hS : ∀ b, S b -> b ≠ L ∧ b ≠ G)
 (hn:n<=m) (hm:m<=1048576) (hi:i<=1048576) (ha:∀k,k<m->a k<C.length) :
 Calls Tryz.prog 89 #[.iface 115 (.pointer (some ⟨L,0,none⟩)),.int .i64 iz,.int .i64 nz] w fun e w' =>
  ajx e∧HS w' L G cap m (acX (aaB C) n n a i) (.slice ca C.length cc)∧Two L G w w':=by
 subst bC df;exact alF w i n h hC hS hn hm hi ha
theorem alJ(w : World) (h : HS w L G cap m a (.slice ca C.length cc)) (hC : SlAt S w 1 aaO (.slice ca C.length cc) C) (hS : ∀ b, S b -> b ≠ L ∧ b ≠ G)
 (hm:m<=1048576) (ha:∀k,k<m->a k<C.length) :
 Calls Tryz.prog 59 #[.iface 115 (.pointer (some ⟨L,0,none⟩))] w fun e w' =>
  e = .returned (.tuple #[])∧HS w' L G cap m (ai8 (aaB C) m (m / 2) a) (.slice ca C.length cc)∧Two L G w w':=by
 have HC:=hid hC;have aS:=hid hS;have Ha:=hid ha;have Hh:=hid h;have cf:=ae0;clear hC hS ha h;go_enter Tryz.func59,Tryz.ntmps59;go_wp2_with (go_at_call 60;((with_reducible refine (aev _ Hh.out).mono ?_);rintro e w' ⟨rfl,rfl⟩));go_loopw [3] (fun iv wr=>∃(k:Nat) (a':Nat->Nat),k<=m / 2∧iv = .int .i64 ((k:Int) - 1)∧HS wr L G cap m a' (.slice ca C.length cc)∧Two L G w wr∧ab3 m a a'∧ai8 (aaB C) m k a'=ai8 (aaB C) m (m / 2) a) (fun iv _=>((intOf iv)+1).toNat)
 case atStart=>exact⟨m / 2,a,Aad _,by go_num,Hh.out,Two.refl _ _ _,ab3.refl _ _,rfl⟩
 case round =>
  obtain⟨k,a',hk,rfl,hs,ht,aG,hd⟩:=hrel;have Hs:=hid hs;have Ht:=hid ht;have aE:=hid aG;have Hd:=hid hd;clear hs ht aG hd;cases k with
  | zero =>
    go_wp2_with fail;go_end0;exact⟨rfl,by rw [<-Hd.out];exact Hs.out,Ht.out⟩
  | succ k =>
    have au:Hid (SlAt S wr 1 aaO (.slice ca C.length cc) C):=HC.out.mono aae (fun _ h=>h) (fun b o v hb hc=>Ht.out.stays b o v (aS.out b hb) hc);have ai:Hid (∀k,k<m->a' k<C.length):=fun k hk=>by
     obtain⟨k',aZ,he⟩:=(aE.out.img (a' k)).2 ⟨k,hk,rfl⟩;rw [<-he];exact Ha.out k' aZ
    have dv:0<=(((k+1:Nat):Int) - 1):=by omega
    go_wp2_with fail;refine (alG wr _ _ k m rfl rfl Hs.out au.out aS.out (Aad _) hm (by omega) ai.out).mono ?_;rintro e w2 ⟨⟨b,rfl⟩,aP,aH⟩;have aU:=hid aP;have bK:=hid aH;clear aP aH;go_wp2_with fail;go_roundw
    case rel=>exact⟨k,_,by omega,by go_num,aU.out,Ht.out.trans bK.out,aE.out.trans (acY _ _ _ (Aad _) _ _ _),Hd.out⟩
    case measure=>simp [intOf]
theorem ajK(w : World) (h : HS w L G cap m a (.slice ca C.length cc)) (hC : SlAt S w 1 aaO (.slice ca C.length cc) C) (hS : ∀ b, S b -> b ≠ L ∧ b ≠ G)
 (b9:0<m) (hm:m<=1048576) (ha:∀k,k<m->a k<C.length) :
 Calls Tryz.prog 61 #[.iface 115 (.pointer (some ⟨L,0,none⟩))] w fun e w' =>
  e = .returned (.iface 3 (.int .i64 (a 0)))∧HS w' L G cap (m - 1) (amQ (aaB C) m a) (.slice ca C.length cc)∧Two L G w w':=by
 obtain⟨n,rfl⟩:∃n,m=n+1:=⟨m - 1,by omega⟩
 rw [Nat.add_sub_cancel];have HC:=hid hC;have aS:=hid hS;have Ha:=hid ha;have Hh:=hid h;have cf:=ae0;have dy:=af7;have dx:=akL;have aM:=aiv (aaB C) a b9;have bh:=hid aM;clear hC hS ha h aM;go_enter Tryz.func61,Tryz.ntmps61;go_wp2_with (go_at_call 60;((with_reducible refine (aev _ Hh.out).mono ?_);rintro e w' ⟨rfl,rfl⟩));refine (ahq _ _ _ 0 n rfl rfl Hh.out (by omega) (by omega)).mono ?_;rintro e w1 ⟨rfl,cI,cJ⟩;have cW:=hid cI;have cu:=hid cJ;clear cI cJ;have cT:Hid (SlAt S w1 1 aaO (.slice ca C.length cc) C):=HC.out.mono aae (fun _ h=>h) (fun b o v hb hc=>cu.out.stays b o v (aS.out b hb) hc);have bI:Hid (∀k,k<n+1->swp a 0 n k<C.length):=fun k hk=>by
  obtain⟨k',aZ,he⟩:=((ab3.swp a (i:=0) (j:=n) (m:=n+1) (by omega) (by omega)).img (swp a 0 n k)).2 ⟨k,hk,rfl⟩;rw [<-he];exact Ha.out k' aZ
 go_wp2_with fail;refine (alG _ _ _ 0 n rfl rfl cW.out cT.out aS.out (by omega) hm (by omega) bI.out).mono ?_;rintro e w2 ⟨⟨b,rfl⟩,aP,aH⟩;have aU:=hid aP;have bK:=hid aH;clear aP aH;go_wp2_with fail;refine (alN _ aU.out (by omega)).mono ?_;rintro e w3 ⟨rfl,aC,aD⟩;have aV:=hid aC;have aW:=hid aD;clear aC aD;go_wp2_with fail;go_ret;refine⟨?_,aV.out,(cu.out.trans bK.out).trans aW.out⟩;have h:=bh.out;unfold amQ at h;rw [Nat.add_sub_cancel] at h;rw [<-h];rfl
end
section
open Go.RowKit
theorem ajL:(Tryz.prog.info? 4).map (fun i=>(i.zero,i.size,i.bytes))=some (some (.bool false),1,1):=by kernel_rfl
theorem anb(w:World)(o:Obj):(w.alloc o).heap[w.heap.size]?=some o:=by
 show (w.heap.push o)[w.heap.size]?=_;rw [Array.getElem?_push,if_pos rfl]
abbrev akP (k:Nat):Value := .int .i64 (k:Int)
variable {w:World}
theorem afl{S:Nat->Prop}{v:Value}{l:List Int}(h:SlAt S w 1 aaO v l):SlAt (fun b=>b<w.heap.size) w 1 aaO v l:=by
 obtain⟨ao,c,hv,hc,hm,h⟩:=h;refine⟨ao,c,hv,hc,hm,fun bd=>?_⟩;obtain⟨b,off,ha,hb,h⟩:=h bd;obtain⟨x,l',rfl⟩:∃x l',l=x :: l':=by cases l with | nil=>exact absurd rfl bd | cons x l'=>exact⟨x,l',rfl⟩
 obtain⟨cs,⟨rfl,_⟩,_,ar⟩:=h 0 x rfl;exact⟨b,off,ha,aac (ar 0 _ rfl),h⟩
variable {n:Nat}{cv:Value}
theorem alO{L base:Nat}{v:Value}(af:w.heap[L]?=some (.cells #[v,cv] 117 (0,0)))(aj:w.ownsRow base 3 1 v n ((List.range n).map akP))(hn:0<n)(hL:L<base) :
 ∃G cap,HS w L G cap n id cv∧base<=G∧v = .slice (some ⟨G,0,none⟩) n cap:=by
 obtain⟨h1,h2⟩:=aj;rcases h2 with⟨-,h2⟩ | ⟨g,cap,cur,rfl,hg,hh,hle,hm,hs,ht⟩
 . omega
 . refine⟨g,cap,⟨af,⟨cur,hh,by rw [hs,Aan],fun k hk=>?_⟩,hle,by unfold maxLen at hm;exact hm,by omega⟩,hg,rfl⟩
   have h3:((List.range n).map akP)[k]?=some (.int .i64 (k:Int)):=by
    rw [Aak,Aa4 hk];rfl
   rw [<-ht,Aan,List.getElem?_take,if_pos hk] at h3;simpa using h3
structure afL (w wr:World)(G cap H n:Nat)(ba:Option Addr)(bc:Nat)(cv:Value)(c:Nat->Int)(pre:List Nat)(x:Nat)(m:Nat)(a:Nat->Nat)(o ae:Nat):Prop where
 hs:HS wr (w.heap.size+1) G cap m a cv
 inv:ae8 c n m a (abq (pre++[x]))
 had:wr.rowIs H 4 n (fun b => .bool (abq (pre++[x]) b))
 own:wr.ownsRow (H+1) 3 1 (.slice (some ⟨o,0,none⟩) (pre.length+1) ae) (pre.length+1) ((pre++[x]).map akP)
 below:Below w.heap.size w wr
 box:wr.cell? ⟨w.heap.size,3,none⟩=some (.slice ba n bc)
 lt:∀b∈pre++[x],b<n
 gH:G<H
 gw:w.heap.size+2<=G
 mn:m<=n
variable {G cap H bc x m o ae:Nat}{ba:Option Addr}{pre:List Nat}
theorem afL.two{wr wi:World}{c:Nat->Int}{a:Nat->Nat}(h:afL w wr G cap H n ba bc cv c pre x m a o ae)(t:Two (w.heap.size+1) G wr wi) :
 wi.rowIs H 4 n (fun b => .bool (abq (pre++[x]) b))∧wi.ownsRow (H+1) 3 1 (.slice (some ⟨o,0,none⟩) (pre.length+1) ae) (pre.length+1) ((pre++[x]).map akP)∧Below w.heap.size w wi∧wi.cell? ⟨w.heap.size,3,none⟩=some (.slice ba n bc)∧H<wi.heap.size:=by
 have g1:=h.gH;have g2:=h.gw;have af:=h.had.of_block (t.block H (by omega) (by omega));refine⟨af,?_,h.below.trans (t.below (by omega) (by omega)),by rw [World.cell?_of_block (w:=wr) (t.block w.heap.size (by omega) (by omega))];exact h.box,af.lt⟩;obtain⟨q1,q2⟩:=h.own;refine⟨q1,?_⟩;rcases q2 with⟨q2,-⟩ | ⟨g,cap',cur,hv,hg,hh,r⟩
 . cases q2
 . cases hv
   exact .inr ⟨o,_,cur,rfl,hg,by rw [t.block o (by omega) (by omega)];exact hh,r⟩
theorem afL.next{wi w1:World}     {c : Nat -> Int}  {b:Nat} {a : Nat -> Nat}  {v' : Value}
 (hs:HS wi (w.heap.size+1) G cap m a cv) (hinv:ae8 c n m a (fun y=>abq (pre++[x]) y||y == b)) (af:wi.rowIs H 4 n (fun b => .bool (abq (pre++[x]) b)))
 (_hown:wi.ownsRow (H+1) 3 1 (.slice (some ⟨o,0,none⟩) (pre.length+1) ae) (pre.length+1) ((pre++[x]).map akP)) (bY:Below w.heap.size w wi) (bu:wi.cell? ⟨w.heap.size,3,none⟩=some (.slice ba n bc))
 (az:∀b∈pre++[x],b<n) (hb:b<n) (de:m<=n) (gH:G<H) (gw:w.heap.size+2<=G) (ob:Obj)
 (aO:w1.ownsRow (H+1) 3 1 v' (pre.length+1+1) ((pre++[x]).map akP++[akP b])) (ad:((wi.setCell ⟨H,b,none⟩ (.bool true)).alloc ob).grownBy w1 (some o)) (ho:H+1<=o) (_how:o<wi.heap.size) :
 ∃o' al,v' = .slice (some ⟨o',0,none⟩) ((pre++[x]).length+1) al∧afL w w1 G cap H n ba bc cv c (pre++[x]) b m a o' al:=by
 obtain⟨o',al,rfl,-,-⟩:=acm aO;have ch:∀k,k<wi.heap.size->k≠o->k≠H->w1.heap[k]?=wi.heap[k]?:=fun k hk h1 h2=>by
  rw [ad.block k (by simp [World.setCell];omega) (fun e=>h1 (Option.some.inj e)),Below.heap_alloc _ _ _ (by simp [World.setCell];omega),Below.heap_setCell _ _ _ _ h2]
 have hL:=hs.ltL;have hG:=hs.ltG;have hH:=af.lt;have hN:=aac bu;refine⟨o',al,by rw [Aai];rfl,⟨?_,?_,?_,?_,?_,?_,?_,gH,gw,de⟩⟩
 . obtain⟨q1,q2,q3,q4,q5⟩:=hs
   exact⟨by rw [ch _ hL (by omega) (by omega)];exact q1,by rw [ch _ hG (by omega) (by omega)];exact q2,q3,q4,q5⟩
 . exact⟨hinv.heap,hinv.inj,hinv.lt,fun y hy aR=>hinv.all y hy (by rw [acQ] at aR;exact aR)⟩
 . refine (((af.set b (.bool true)).alloc ob).of_block (ad.block H (by simp [World.setCell];omega) (fun e=>by have:=Option.some.inj e;omega))).congr (fun y hy=>?_)
   show (if y=b then Value.bool true else Value.bool (abq (pre++[x]) y))=Value.bool (abq ((pre++[x])++[b]) y);rw [acQ (pre++[x]) b y]
   by_cases hyb:y=b
   . rw [if_pos hyb,hyb,beq_self_eq_true,Bool.or_true]
   . rw [if_neg hyb,show (y == b)=false by simpa using hyb,Bool.or_false]
 . rw [Aai,Aav];exact aO
 . refine ((bY.setCell (p:=⟨H,b,none⟩) (by dsimp only;omega) _).alloc (by simp [World.setCell];omega) _).grown ad (by simp [World.setCell];omega) (fun k hk=>by have:=Option.some.inj hk;omega)
 . have c5:=ch w.heap.size hN (by omega) (by omega)
   rw [World.cell?_of_block (w:=wi) (a:=⟨w.heap.size,3,none⟩) c5];exact bu
 . intro y hy
   rcases Aaz.1 hy with h | h
   . exact az y h
   . rw [Aaq] at h;subst h;exact hb
theorem afL.drewN{wr:World}{c:Nat->Int}{a:Nat->Nat}(h:afL w wr G cap H n ba bc cv c pre x m a o ae)(q:Nat) :
 afL w (wr.drewN q) G cap H n ba bc cv c pre x m a o ae :=
 ⟨h.hs.drewN q,h.inv,h.had,h.own,below_drewN h.below q,h.box,h.lt,h.gH,h.gw,h.mn⟩
theorem an9{S:Nat->Prop}{ca:Option Addr}{cc:Nat}{C:List Int}(h:SlAt S w 1 aaO (.slice ca n cc) C){t:Nat}(ht:t<C.length):∃b off,ca=some ⟨b,off,none⟩∧w.cell? ⟨b,off+t,none⟩=some (.int .i64 (aaB C t)):=by
 obtain⟨b,off,cs,ha,-,⟨rfl,-⟩,-,ar⟩:=h.get ht;have d:=ar.get1;rw [Aan] at d;refine⟨b,off,ha,?_⟩;rw [d];unfold aaB;rw [Aac,Aaa ht];rfl
theorem aoI {S S' : Nat -> Prop} (nm : ByteArray) (p r : Int) (ba : Option Addr) (bc : Nat) (bs : List aad) (ca : Option Addr) (cc : Nat) (C : List Int) (w : World) (hb : SlAt S w 6 aaJ (.slice ba bs.length bc) bs) (hC : SlAt S' w 1 aaO (.slice ca C.length cc) C)
 (cg:0<bs.length) (hn:bs.length<=1048576) (cy:C.length=bs.length) (cL:∀(k:Nat) (x:aad),bs[k]?=some x->∀t∈x.fin.to,0<=t∧t<(bs.length:Int)) :
 Calls Tryz.prog 34 #[.agg #[.string nm,.int .i64 p,.int .i64 r,.slice ba bs.length bc],.slice ca C.length cc] w fun e w' =>
  ∃v,e = .returned v∧SlAt (fun b=>w.heap.size<=b) w' 1 aaO v ((afq bs (aaB C)).map fun b:Nat=>(b:Int))∧Below w.heap.size w w':=by
 have Hb:=hid hb;have HC:=hid hC;have cw:=hid cL;have a8:=hid cy;clear hb hC cL cy;obtain⟨i0,hi,cP,cQ,cR⟩:=info_parts ahr;have dw:=run_make_row' (P:=Tryz.prog) 43 4 (.bool false) 1 Tryz.underlying43 ajL rfl .i64 .i64 bs.length (by omega) (by omega);have cU:Hid (∀a:Obj,Below w.heap.size w (w.alloc a)):=fun a=>by exact bE
 go_enter Tryz.func34,Tryz.ntmps34;go_wp2_with fail;go_loopw [19] (fun i wr=>∃(k:Nat) (v:Value),k<=bs.length∧i = .int .i64 k∧wr.heap[w.heap.size+1]?=some (.cells #[v,.slice ca C.length cc] 117 (0,0))∧wr.ownsRow (w.heap.size+2) 3 1 v k ((List.range k).map akP)∧Below (w.heap.size+1) (w.alloc (.cells #[.string nm,.int .i64 p,.int .i64 r,.slice ba bs.length bc] 50)) wr) (fun i _=>bs.length - (intOf i).toNat)
 case atStart =>
  refine⟨0,_,Aah _,rfl,?_,World.ownsRow_nil _ _ _ _,(Below.refl _ _).alloc (by simp) _⟩;have h:=anb (w.alloc (.cells #[.string nm,.int .i64 p,.int .i64 r,.slice ba bs.length bc] 50)) (.cells #[.slice none 0 0,.slice ca C.length cc] 117);simpa using h
 case round =>
  obtain⟨k,v,hk,rfl,af,aj,cD⟩:=hrel;have aF:=hid aj;have bQ:=hid cD;have bl:=hid af;have r0:wr.cell? ⟨w.heap.size+1,0,none⟩=some v:=by simp [World.cell?,af]
  have q0:wr.frozen? ⟨w.heap.size+1,0,none⟩=false:=by simp [World.frozen?,af]
  have dm:w.heap.size+1<wr.heap.size:=aac r0;clear af aj cD
  by_cases az:k<bs.length
  . go_wp2_with (at_builtin;refine wpList_append_own_at _ rfl _ _ 26 rfl (w.heap.size+2) 3 i0 (.int .i64 0) 1 8 Tryz.underlying26 hi cP cQ cR rfl (by decide) v _ _ rfl (aF.out.alloc _) ⟨wr.heap.size,0,none⟩ 1 1 [.int .i64 k] rfl rfl (cell_one_new _ _ _) ?_ ?_ ?_ ?_ ?_)
    . intro u hu;simp at hu;subst hu;rfl
    . (try simp);unfold maxLen;omega
    . (try simp);omega
    . (try simp);omega
    . intro v' w1 aj ad a6 b0
      have aB:w1.ownsRow (w.heap.size+2) 3 1 v' (k+1) ((List.range (k+1)).map akP):=by
       rw [Abo,Aav];exact aj
      obtain⟨g,cap,rfl,-,dd⟩:=acm aB;have bk:=hid aB;have bd:some (w.heap.size+1)≠v.ownBlock:=fun e=>by have:=(aF.out.lt _ e.symm).1;omega
      have ax:w1.heap[w.heap.size+1]?=some (.cells #[v,.slice ca C.length cc] 117 (0,0)):=by
       rw [ad.block _ (by simp;omega) bd,Below.heap_alloc _ _ _ dm];exact bl.out
      have r1:w1.cell? ⟨w.heap.size+1,0,none⟩=some v:=by simp [World.cell?,ax]
      have q1:w1.frozen? ⟨w.heap.size+1,0,none⟩=false:=by simp [World.frozen?,ax]
      have bm:=hid ax;have bR:Hid (Below (w.heap.size+1) (w.alloc (.cells #[.string nm,.int .i64 p,.int .i64 r,.slice ba bs.length bc] 50)) w1) :=
       ((bQ.out.alloc (by omega) _).grown ad (by simp;omega) (fun q hq=>by have:=(aF.out.lt q hq).1;omega))
      clear aj ad a6 b0 aB bd ax dd r0 q0;go_wp2_with fail;go_roundw
      case rel =>
       refine⟨k+1,_,by omega,by go_num,?_,ownsRow_setCell_below bk.out (by simp) _,bR.out.setCell (by simp) _⟩;simp [World.setCell,Array.getElem?_modify,bm.out]
      case measure=>simp [intOf];omega
  . obtain rfl:k=bs.length:=by omega
    obtain⟨G,cap,bB,hG,rfl⟩:=alO bl.out aF.out cg (by omega);have aI:=hid bB;have ck:Below w.heap.size w wr:=(cU.out _).trans (bQ.out.mono (by omega));have cZ:=hid ck;have au:Hid (SlAt (fun b=>b<w.heap.size) wr 1 aaO (.slice ca C.length cc) C):=(afl HC.out).mono aae (fun _ h=>h) (aav.below ck);have bP:Hid (∀b,b<w.heap.size->b≠w.heap.size+1∧b≠G):=fun b hb=>⟨by omega,by omega⟩
    have aE:Hid (∀k,k<bs.length->id k<C.length):=fun k hk=>by rw [a8.out];exact hk
    clear bB ck r0 q0;have Bx:Hid (wr.cell? ⟨w.heap.size,3,none⟩=some (.slice ba bs.length bc)):=by
     show _=_;rw [bQ.out.cell (p:=⟨w.heap.size,3,none⟩) (by simp)];simp
    go_wp2_with fail;refine (alJ _ aI.out au.out bP.out hn aE.out).mono ?_;rintro e w2 ⟨rfl,aP,aH⟩;have aU:=hid aP;have bK:=hid aH;have aY:Below (w.heap.size+1) wr w2:=aH.below (Aad _) (by omega);have e3:w2.cell? ⟨w.heap.size,3,none⟩=some (.slice ba bs.length bc):=by rw [aY.cell (p:=⟨w.heap.size,3,none⟩) (by simp)];exact Bx.out
    have cS:w.heap.size<w2.heap.size:=aac e3;have bX:=aU.out.ltG;have cz:=aU.out.ltL;have cV:=hid aY;clear aP aH aY;have b9:(madeCells #[.bool false] bs.length)[0]?=some (.bool false):=by
     have h:=(World.rowIs_made w2 (.bool false) bs.length 4).cell cg;simpa using h
    go_wp2_with fail;have bN:∃(m:Nat) (a:Nat->Nat),afL w ((w2.alloc (.cells ((madeCells #[.bool false] bs.length).setIfInBounds 0 (.bool true)) 4)).alloc (.cells #[.int .i64 0] 3)) G cap w2.heap.size bs.length ba bc (.slice ca C.length cc) (aaB C) [] 0 m a (w2.heap.size+1) 1:=by
     have aG:=ai9 (aaB C) bs.length (bs.length / 2) id;refine⟨bs.length,ai8 (aaB C) bs.length (bs.length / 2) id,?_⟩;refine⟨?_,⟨akF _ _ _ _ (aho _ _ _),aG.inj (fun i j _ _ h=>h),fun k hk=>?_,fun b hb _=>(aG.img b).1 ⟨b,hb,rfl⟩⟩,?_,?_,?_,?_,?_,bX,hG,Aad _⟩
     . obtain⟨q1,q2,q3,q4,q5⟩:=aU.out
       exact⟨by rw [Below.heap_alloc _ _ _ (by simp;omega),Below.heap_alloc _ _ _ cz];exact q1,by rw [Below.heap_alloc _ _ _ (by simp;omega),Below.heap_alloc _ _ _ bX];exact q2,q3,q4,q5⟩
     . obtain⟨k',aZ,he⟩:=(aG.img _).2 ⟨k,hk,rfl⟩
       rw [<-he];exact aZ
     . have h1:=(World.rowIs_made w2 (.bool false) bs.length 4).set 0 (.bool true)
       have h2:(w2.alloc (.cells (madeCells #[.bool false] bs.length) 4)).setCell ⟨w2.heap.size,0,none⟩ (.bool true)=w2.alloc (.cells ((madeCells #[.bool false] bs.length).setIfInBounds 0 (.bool true)) 4):=by
        rw [World.setCell_alloc_at _ _ _ _ _ rfl]
       rw [h2] at h1;refine (h1.alloc _).congr (fun b hb=>?_)
       by_cases hb0:b=0
       . subst hb0;simp [abq]
       . simp [abq,hb0]
     . have h:=World.ownsRow_lit (base:=w2.heap.size+1) (e:=3) (size:=1) (w2.alloc (.cells ((madeCells #[.bool false] bs.length).setIfInBounds 0 (.bool true)) 4)) #[.int .i64 0] 1 (by simp) (by decide) rfl
       simpa [akP] using h
     . exact ((cZ.out.trans (cV.out.mono (by omega))).alloc (by omega) _).alloc (by simp;omega) _
     . rw [World.cell?_alloc_past _ _ _ (by simp;omega),World.cell?_alloc_past _ _ _ cS];exact e3
     . intro b hb;simp at hb;omega
    obtain⟨W3,cC⟩:∃W3,W3=(w2.alloc (.cells ((madeCells #[.bool false] bs.length).setIfInBounds 0 (.bool true)) 4)).alloc (.cells #[.int .i64 0] 3):=⟨_,rfl⟩
    rw [<-cC] at bN ⊢;have cX:=hid bN;generalize hH:w2.heap.size=H at *;clear cC e3 cS bX cz b9 hH
    go_loopg [8] (left [0] bs.length) (fun g v8 wr => ∃ (pre : List Nat) (x m : Nat) (a : Nat -> Nat) (o ae f : Nat), v8 = .slice (some ⟨o, 0, none⟩) (pre.length + 1) ae ∧ afL w wr G cap H bs.length ba bc (.slice ca C.length cc) (aaB C) pre x m a o ae ∧
     pre.length + 1 + left (pre ++ [x]) bs.length <= bs.length ∧ g = left (pre ++ [x]) bs.length ∧ left (pre ++ [x]) bs.length <= f ∧ adv bs (aaB C) f (pre ++ [x]) = afq bs (aaB C))
    case atStart =>
     obtain⟨m,a,bN⟩:=cX.out;exact⟨[],0,m,a,H+1,1,bs.length,rfl,bN,by have h1:=af5 (out:=[]) (n:=bs.length) (b:=0) cg rfl;have h2:=afT (fun b=>!abq [] b) bs.length;unfold left at *;simp only [Abf,Abn] at *;omega,rfl,afT _ _,rfl⟩
    case round =>
     obtain⟨pre,x,m,a,o,ae,f,rfl,hs,hlen,hg,hf,bF⟩:=hrel;have bj:=hid hlen;have Hs:=hid hs;have Hg:=hid hg;have Hf:=hid hf;have bp:=hid bF;have bO:x<bs.length:=hs.lt x (by simp);have e3:=hs.box;have o1:wr.cell? ⟨o,pre.length,none⟩=some (.int .i64 x):=by
      rw [hs.own.cellAt pre.length (by omega)];simp
     obtain⟨b,off,cs,rfl,-,hx,-,ar⟩:=Hb.out.get bO;obtain⟨pa,pc,la,lc,ta,tc,rfl,-,-,cM,-,-,dD,-,-⟩:=hx.opens;obtain⟨d0,d1,d2,d3,d4,d5⟩:=(ar.later hs.below).get6;have cY:=hid cM;have dE:w.heap.size<wr.heap.size:=aac e3;have dA:pre.length+1<=9223372036854775807:=by omega
     clear hlen hs hg hf bF ar hx cM d0 d1 d2 d3 d4;go_wp2_with fail;go_quiet (fail);go_wp2_with fail;obtain⟨T,hT⟩:∃T,T=aaX bs x:=⟨_,rfl⟩
     have cA:aaX bs x=bs[x].fin.to.map Int.toNat:=by unfold aaX;rw [Aaa bO]
     have HT:=hid (hT.trans cA);have cn:=hid hT;have be:Hid (∀b∈T,b<bs.length):=fun b hb=>by
      rw [HT.out] at hb;obtain⟨z,hz,rfl⟩:=Aau.1 hb;have:=cw.out x _ (Aaa bO) z hz;omega
     clear hT cA o1 d5;go_loopw [9,56] (fun v9 i wi=>∃(j:Nat) (q:Nat),j<=bs[x].fin.to.length∧i = .int .i64 j∧v9 = .int .i64 (aeB (pick (aaB C) (abq (pre++[x])) (T.take j)))∧wr.drewN q=wi) (fun _ i _=>bs[x].fin.to.length - (intOf i).toNat)
     case atStart=>exact⟨0,_,Aah _,rfl,rfl,rfl⟩
     case round =>
      obtain⟨j,q,hj,rfl,rfl,rfl⟩:=hrel;have hs:=Hs.out
      by_cases hjl:j<bs[x].fin.to.length
      . obtain⟨b2,dp,cs,rfl,-,⟨rfl,-⟩,-,ar⟩:=(cY.out.later aae hs.below).get hjl
        have t0:=ar.get1;rw [Aan] at t0;have cK:=cw.out x _ (Aaa bO) bs[x].fin.to[j] (Aaf hjl);obtain⟨t,ht⟩:=Aas cK.1;have cj:t<bs.length:=by omega
        rw [ht] at t0;have dk:Hid (T[j]?=some t):=by show _=_;rw [HT.out,Aak,Aaa hjl,ht];rfl
        have Ht:=hid ht;have ak:Hid (pick (aaB C) (abq (pre++[x])) (T.take (j+1))=aaN (aaB C) (abq (pre++[x])) (pick (aaB C) (abq (pre++[x])) (T.take j)) t):=by
         obtain⟨h1,h2⟩:=Aae.1 dk.out;show _=_;rw [al9 _ _ _ _ h1,h2]
        have u0:wr.cell? ⟨H,t,none⟩=some (.bool (abq (pre++[x]) t)):=hs.had.cell cj;have cm:=hid (HC.out.later aae hs.below);obtain⟨cb,c4,rfl,y0⟩:=an9 cm.out (t:=t) (by rw [a8.out];exact cj);obtain⟨out,an⟩:∃out,out=pre++[x]:=⟨_,rfl⟩
        rw [<-an] at u0 ak ⊢;have aw:Hid (∀b,pick (aaB C) (abq out) (T.take j)=some b->b<bs.length):=fun b hb=>be.out b (List.mem_of_mem_take (ac5 _ _ _ b hb).1);generalize hbe:pick (aaB C) (abq out) (T.take j)=best at *;have dq:=hid hbe;have ag:=hid an;clear hs ar cK ht an hbe
        by_cases hh:abq out t=true
        . have Hn:Hid (aaN (aaB C) (abq out) best t=best):=by
           show _=_;unfold aaN;cases best <;> simp [hh]
          cases best with
          | none =>
            have hq:(decide ((-1:Int)<0))=true:=by decide
            simp only [aeB];go_wp2_with fail;go_quiet (fail);go_wp2_with fail;go_roundw
            case rel=>exact⟨j+1,_,by omega,by go_num,by rw [ak.out,Hn.out],rfl⟩
            case measure=>simp [intOf];omega
          | some b =>
            have hq:(decide ((b:Int)<0))=false:=decide_eq_false (by omega);simp only [aeB];go_wp2_with fail;go_quiet (fail);go_wp2_with fail;go_roundw
            case rel=>exact⟨j+1,_,by omega,by go_num,by rw [ak.out,Hn.out],rfl⟩
            case measure=>simp [intOf];omega
        . have cG:abq out t=false:=by simpa using hh
          clear hh;cases best with
          | none =>
            have Hn:Hid (aaN (aaB C) (abq out) none t=some t):=by
             show _=_;unfold aaN;simp [cG]
            have hq:(decide ((-1:Int)<0))=true:=by decide
            simp only [aeB];go_wp2_with fail;go_quiet (fail);go_wp2_with fail;go_roundw
            case rel=>exact⟨j+1,_,by omega,by go_num,by rw [ak.out,Hn.out] <;> rfl,rfl⟩
            case measure=>simp [intOf];omega
          | some b3 =>
            obtain⟨dr,cx,b4,z0⟩:=an9 cm.out (t:=b3) (by rw [a8.out];exact aw.out b3 rfl);cases b4;have bZ:=aw.out b3 rfl;have dB:t<C.length:=by rw [a8.out];exact cj
            have dt:b3<C.length:=by rw [a8.out];exact bZ
            have dj:(t:Int)<(C.length:Int):=by omega
            have c8:(b3:Int)<(C.length:Int):=by omega
            have hq:(decide ((b3:Int)<0))=false:=decide_eq_false (by omega)
            by_cases hcmp:aaB C b3<aaB C t
            . have Hn:Hid (aaN (aaB C) (abq out) (some b3) t=some t):=by
               show _=_;unfold aaN;simp [cG,hcmp]
              have di:decide (aaB C b3<aaB C t)=true:=decide_eq_true hcmp;simp only [aeB];go_wp2_with fail;go_quiet (fail);go_wp2_with fail;go_roundw
              case rel=>exact⟨j+1,_,by omega,by go_num,by rw [ak.out,Hn.out] <;> rfl,rfl⟩
              case measure=>simp [intOf];omega
            . have Hn:Hid (aaN (aaB C) (abq out) (some b3) t=some b3):=by
               show _=_;unfold aaN;simp [hcmp]
              have di:decide (aaB C b3<aaB C t)=false:=decide_eq_false hcmp;simp only [aeB];go_wp2_with fail;go_quiet (fail);go_wp2_with fail;go_roundw
              case rel=>exact⟨j+1,_,by omega,by go_num,by rw [ak.out,Hn.out] <;> rfl,rfl⟩
              case measure=>simp [intOf];omega
      . have cB:T.take j=T:=Aby (by rw [HT.out,Aal];omega)
        rw [cB];have ay:Hid (∀b,pick (aaB C) (abq (pre++[x])) T=some b->b<bs.length∧abq (pre++[x]) b=false):=fun b hb=>⟨be.out b (ac5 _ _ _ b hb).1,(ac5 _ _ _ b hb).2⟩
        obtain⟨bt,b1⟩:∃bt,bt=pick (aaB C) (abq (pre++[x])) T:=⟨_,rfl⟩
        rw [<-b1] at ay ⊢;have cp:=hid b1;clear cB hs b1;go_wp2_with fail;obtain⟨out,an⟩:∃out,out=pre++[x]:=⟨_,rfl⟩
        have ag:=hid an;have a1:Hid (∀b,bt=some b->aa4 bs (aaB C) out=some b):=fun b hb=>by
         unfold aa4;rw [an,List.getLastD_eq_getLast?,List.getLast?_concat,Abd,<-cn.out,<-cp.out,hb]
        have aA:Hid (bt=none->aa4 bs (aaB C) out=pick (aaB C) (abq out) (List.range bs.length)):=fun hb=>by
         unfold aa4;rw [an,List.getLastD_eq_getLast?,List.getLast?_concat,Abd,<-cn.out,<-cp.out,hb]
        have aq:Hid (afL w (wr.drewN q) G cap H bs.length (some ⟨b,off,none⟩) bc (.slice ca C.length cc) (aaB C) pre x m a o ae):=Hs.out.drewN q;obtain⟨wd,cO⟩:∃wd,wd=wr.drewN q:=⟨_,rfl⟩
        rw [<-cO] at aq ⊢;have cf:=ae0;clear cO an
        go_loopg [9] m (fun g v9 wi => ∃ (bo : Option Nat) (a' : Nat -> Nat), v9 = .int .i64 (aeB bo) ∧ g <= bs.length ∧ HS wi (w.heap.size + 1) G cap g a' (.slice ca C.length cc) ∧ Two (w.heap.size + 1) G wd wi ∧
         (bo = none -> bt = none ∧ ae8 (aaB C) bs.length g a' (abq out)) ∧ (∀ b, bo = some b -> aa4 bs (aaB C) out = some b ∧ b < bs.length ∧ abq out b = false ∧ ae8 (aaB C) bs.length g a' (fun y => abq out y || y == b)))
        case atStart =>
         refine⟨bt,a,rfl,aq.out.mn,aq.out.hs,Two.refl _ _ _,fun h=>⟨h,by rw [ag.out];exact aq.out.inv⟩,fun b hb=>⟨a1.out b hb,(ay.out b hb).1,by rw [ag.out];exact (ay.out b hb).2,?_⟩⟩;have h:=aq.out.inv;rw [<-ag.out] at h;exact⟨h.heap,h.inj,h.lt,fun y hy aR=>h.all y hy (by simp only [Abj] at aR;exact aR.1)⟩
        case round =>
         obtain⟨bo,a',rfl,cF,bB,cN,aN,aQ⟩:=hrel;have bJ:=hid cF;have aI:=hid bB;have aX:=hid cN;have aJ:=hid aN;have bq:=hid aQ;clear cF bB cN aN aQ;cases bo with
         | none =>
           simp only [aeB];cases gk with
           | zero =>
             have hq:(decide ((-1:Int)<0))=true:=by decide
             have Hr:Hid (afq bs (aaB C)=out):=by
              have h1:=aJ.out rfl
              have h2 : pick (aaB C) (abq out) (List.range bs.length) = none := (acn _ _ _).2 (fun y hy => by
               by_cases aR : abq out y = true
               . exact aR
               . obtain ⟨k, hk, _⟩ := h1.2.all y (by simpa using hy) (by simpa using aR)
                 omega)
              have h3:=bp.out;rw [<-ag.out,aee ((aA.out h1.1).trans h2)] at h3;exact h3.symm
             obtain⟨p1,p2,p3,p4,p5⟩:=aq.out.two aX.out;have P2:=hid p2;have P3:=hid p3;clear p1 p2 p3 p4;go_wp2_with (go_at_call 60;((with_reducible refine (aev _ aI.out).mono ?_);rintro e w' ⟨rfl,rfl⟩));go_ret;refine⟨_,rfl,?_,P3.out⟩;rw [Hr.out,ag.out];have h:wr.ownsRow (H+1) 3 1 (.slice (some ⟨o,0,none⟩) (pre.length+1) ae) ((pre++[x]).map fun b:Nat=>(b:Int)).length (((pre++[x]).map fun b:Nat=>(b:Int)).map (Value.int .i64)):=by
              rw [show ((pre++[x]).map fun b:Nat=>(b:Int)).length=pre.length+1 by simp,show ((pre++[x]).map fun b:Nat=>(b:Int)).map (Value.int .i64)=(pre++[x]).map akP by rw [List.map_map];rfl];exact P2.out
             refine (afG h (fun y hy=>?_)).mono aae (fun b hb=>by have:=aq.out.gH;have:=aq.out.gw;omega) (aav.refl _ _);obtain⟨z,hz,rfl⟩:=Aau.1 hy;have:=aq.out.lt z hz;unfold I64;omega
           | succ m' =>
             have hq:(decide ((-1:Int)<0))=true:=by decide
             have h1:=aJ.out rfl;have bD:=h1.2.pop (Nat.succ_pos m');have aT:=hid bD;have H1:=hid h1;have cr:Hid (m'+1<=1048576):=by have:=bJ.out;show _<=_;omega
             have bI:Hid (∀k,k<m'+1->a' k<C.length):=fun k hk=>by rw [a8.out];exact H1.out.2.lt k hk
             have bW:Hid (a' 0<bs.length):=H1.out.2.lt 0 (Nat.succ_pos m');obtain⟨p1,p2,p3,p4,p5⟩:=aq.out.two aX.out;have cl:=hid ((afl HC.out).mono aae (fun _ h=>h) (aav.below p3));have P1:=hid p1;clear p1 p2 p3 p4 h1 bD;have dC:∀(n:Int) (w:World),(Instr.typeAssert (.iface 3 (.int .i64 n)) 20 3 false).run Tryz.prog w = .ok (.int .i64 n) w:=fun _ _=>by kernel_rfl
             by_cases hb9:abq (pre++[x]) (a' 0)=true
             . go_wp2_with (first | (go_at_call 60;((with_reducible refine (aev _ aI.out).mono ?_);rintro e w' ⟨rfl,rfl⟩)) | (go_at_call 61;go_must ((with_reducible refine (ajK _ aI.out cl.out bP.out (Nat.succ_pos m') cr.out bI.out).mono ?_);rintro e w5 ⟨rfl,bG,a7⟩;have da:w5.cell? ⟨H,a' 0,none⟩=some (.bool (abq (pre++[x]) (a' 0))):=(aq.out.two (aX.out.trans a7)).1.cell bW.out;have bT:=hid bG;have bV:=hid a7;clear bG a7)))
               go_roundg m'
               case measure=>omega
               case rel =>
                have bA:abq out (a' 0)=true:=by rw [ag.out];exact hb9
                exact⟨none,_,rfl,by have:=bJ.out;omega,bT.out,aX.out.trans bV.out,fun _=>⟨H1.out.1,aT.out.1 bA⟩,fun b hb=>by cases hb⟩
             . have c7:abq (pre++[x]) (a' 0)=false:=by simpa using hb9
               clear hb9;go_wp2_with (first | (go_at_call 60;((with_reducible refine (aev _ aI.out).mono ?_);rintro e w' ⟨rfl,rfl⟩)) | (go_at_call 61;go_must ((with_reducible refine (ajK _ aI.out cl.out bP.out (Nat.succ_pos m') cr.out bI.out).mono ?_);rintro e w5 ⟨rfl,bG,a7⟩;have da:w5.cell? ⟨H,a' 0,none⟩=some (.bool (abq (pre++[x]) (a' 0))):=(aq.out.two (aX.out.trans a7)).1.cell bW.out;have bT:=hid bG;have bV:=hid a7;clear bG a7)));go_roundg m'
               case measure=>omega
               case rel =>
                have bA:abq out (a' 0)=false:=by rw [ag.out];exact c7
                refine⟨some (a' 0),_,rfl,by have:=bJ.out;omega,bT.out,aX.out.trans bV.out,fun h=>(by cases h),fun b hb=>?_⟩;cases hb;exact⟨(aA.out H1.out.1).trans (aT.out.2 bA).1,bW.out,bA,(aT.out.2 bA).2⟩
         | some bb =>
           have hq:(decide ((bb:Int)<0))=false:=decide_eq_false (by omega);obtain⟨p1,p2,p3,p4,p5⟩:=aq.out.two aX.out;obtain⟨k1,k2,k3,k4⟩:=bq.out bb rfl;have u1:wr.cell? ⟨H,bb,none⟩=some (.bool (abq (pre++[x]) bb)):=p1.cell k2;have u2:=p1.frozen bb;have P1:=hid p1;have P2:=hid p2;have P3:=hid p3;have P4:=hid p4;have K1:=hid k1;have K3:=hid k3;have K4:=hid k4;have ct:Hid (pre.length+1<=1048576):=by have:=bj.out;show _<=_;omega
           clear p1 p2 p3 p4 k1 k3 k4;simp only [aeB];go_wp2_with (at_builtin;refine wpList_append_own _ rfl _ _ 26 rfl (H+1) 3 i0 (.int .i64 0) 1 8 Tryz.underlying26 hi cP cQ cR rfl (by decide) _ _ _ rfl (((ownsRow_setCell_below P2.out (Abc H) _)).alloc _) ⟨wr.heap.size,0,none⟩ 1 1 [akP bb] rfl rfl ?_ ?_ ?_ ?_ ?_ ?_)
           . have h:=cell_one_new (wr.setCell ⟨H,bb,none⟩ (.bool true)) (akP bb) 3
             rw [show (wr.setCell ⟨H,bb,none⟩ (.bool true)).heap.size=wr.heap.size by simp [World.setCell]] at h;exact h
           . intro u hu;simp at hu;subst hu;rfl
           . have:=ct.out;(try simp);unfold maxLen;omega
           . have:=ct.out;(try simp);omega
           . (try simp [World.setCell]);omega
           . intro v' w1 aj ad a6
             obtain⟨dg,dh⟩:=P2.out.lt o rfl;obtain⟨o',al,rfl,bH⟩:=afL.next aI.out (by rw [<-ag.out];exact K4.out) P1.out P2.out P3.out P4.out aq.out.lt k2 bJ.out aq.out.gH aq.out.gw _ (by simpa using aj) ad dg dh;have bU:=hid bH;have cH:left (pre++[x]++[bb]) bs.length<left (pre++[x]) bs.length:=af5 k2 (by rw [<-ag.out];exact K3.out);have bS:=hid cH;obtain⟨f',cE⟩:∃f',f=f'+1:=⟨f - 1,by have:=Hf.out;omega⟩
             have cq:=hid cE;clear aj ad a6 bH cH cE;go_wp2_with fail;go_roundg (left (pre++[x]++[bb]) bs.length)
             case measure=>have h1:=bS.out;have h2:=Hg.out;omega
             case rel =>
              refine⟨pre++[x],bb,gk,a',o',al,f',rfl,bU.out,?_,rfl,?_,?_⟩
              . have h1:=bS.out;have h2:=bj.out;rw [Aai];simp only [Aao,Abn];omega
              . have h1:=bS.out;have h2:=Hf.out;have h3:=cq.out;omega
              . have h1:=bp.out
                have h2:=K1.out;rw [ag.out] at h2;rw [cq.out,aef h2] at h1;exact h1
end
end Go.Proofs.YtnkfdeiigplhoaaGreatDoor
