import Derived.Test.YtgekbfgplclmeaaDoorPRunWf
/- How many rounds a loop of one block takes, in plain Lean; and that in static single assignment the merges of a block write different registers. No program in sight. A loop of one block goes round just as often as is said, in plain Lean: first, that in static single assignment a block's writes go to different registers. No program in sight. A loop of one block goes round just as often as is said, in plain Lean: what is known of registers holds of a frame in the loop. No program in sight. A loop of one block goes round just as often as is said, in plain Lean: the counts of a run that is done. No program in sight. -/
namespace Go.Proofs.YtgekbfgplclmeaaDoor
section
abbrev Km:=Nat->Option (BitVec 64)
def aaI(m:Km)(v:ab3):Option (BitVec 64):=if v.reg=true then m v.n.toNat else some (af8 v.n)
def ahb(m:Km)(d:Nat)(x:BitVec 64):Km:=fun r=>if r=d then some x else m r
def aic:Km:=fun _=>none
def abb(k:Nat)(m nx:Km)(p:adO):Km:=match aaI m (p.src.getD k ⟨false,0⟩) with | some x=>ahb nx p.dst.toNat x | none=>nx
def agP(k:Nat)(m:Km)(l:List adO):Km:=l.foldl (abb k m) aic
def amw (op : Int) : Option (BitVec 64) -> Option (BitVec 64) -> Option (BitVec 64)
 | some a,some b=>aaV op a b
 | _,_=>none
def aaN(m:Km)(y:abo):Km:=if 17<y.op then m else match amw y.op (aaI m y.a) (aaI m y.b) with | some v=>ahb m y.dst.toNat v | none=>m
def ad7(m:Km)(l:List abo):Km:=l.foldl aaN m
def abA(x:aad)(k:Nat)(m:Km):Km:=ad7 (agP k m x.phis) x.list
def ajT(x:aad)(on:BitVec 64):Int:=if bi on=0 then x.fin.to.getD 1 0 else x.fin.to.getD 0 0
def ahJ (x : aad) (b : Int) (back : Nat) : Nat -> Nat -> Nat -> Km -> Int
 | 0,_,_,_=>0
 | f+1,n,k,m =>
   match aaI (abA x k m) x.fin.on with
   | none=>0
   | some on=>if ajT x on≠b then (n:Int) else ahJ x b back f (n+1) back (abA x k m)
def aa8(x:aad)(b:Int)(before:Nat):Int:=ahJ x b (1 - before) 8 1 before aic
def acg(bs:List aad)(b:Nat):Option Nat :=
 match bs[b]? with
 | none=>none
 | some x=>if x.fin.kind=3∧(x.fin.to.getD 0 0=(b:Int)∨x.fin.to.getD 1 0=(b:Int))∧(aag bs 0 b).length=2 then some (if (aag bs 0 b).getD 0 0=(b:Int) then 1 else 0) else none
def unrF(bs:List aad)(b:Nat):Int:=match bs[b]?,acg bs b with
 | some x,some k=>aa8 x (b:Int) k
 | _,_=>0
theorem afp (x : aad) (b : Int) (back : Nat) : ∀ (f n k : Nat) (m : Km), 0 <= ahJ x b back f n k m ∧ ahJ x b back f n k m <= (n : Int) + f - 1 ∨ ahJ x b back f n k m = 0
 | 0,n,k,m => .inr rfl
 | f+1,n,k,m=>by
   rw [ahJ];cases aaI (abA x k m) x.fin.on with
   | none=>exact .inr rfl
   | some on =>
     dsimp only
     by_cases h:ajT x on≠b
     . rw [if_pos h];exact .inl (by omega)
     . rw [if_neg h]
       rcases afp x b back f (n+1) back (abA x k m) with h1 | h1
       . exact .inl (by omega)
       . exact .inr h1
theorem afW(x:aad)(b:Int)(k:Nat):0<=aa8 x b k∧aa8 x b k<=8:=by
 unfold aa8;rcases afp x b (1 - k) 8 1 k aic with h | h <;> omega
theorem aip(bs:List aad)(b:Nat):0<=unrF bs b∧unrF bs b<=8:=by
 unfold unrF;split
 . exact afW _ _ _
 . omega
variable {k:Nat}
theorem akw{bs:List aad}{b:Nat}(h:acg bs b=some k):k<2:=by
 unfold acg at h;split at h
 . cases h
 . split at h
   . injection h with h
     split at h <;> omega
   . cases h
variable {l:List adO}{j:Nat}
theorem aje{m:Km}(h:j<l.length):agP k m (l.take (j+1))=abb k m (agP k m (l.take j)) l[j]:=by
 unfold agP;rw [Aaz h,List.foldl_append];rfl
theorem agw{m:Km}{l:List abo}(h:j<l.length):ad7 m (l.take (j+1))=aaN (ad7 m (l.take j)) l[j]:=by
 unfold ad7;rw [Aaz h,List.foldl_append];rfl
variable {s:WSt}
theorem adL{r b a:Int}(h:(wrF s r b a).2=true):s.2=true∧(s.1.getD r.toNat (-1,-1)).1<0:=by
 unfold wrF at h
 by_cases hc:0<=(s.1.getD r.toNat (-1,-1)).1
 . rw [if_pos hc] at h;cases h
 . rw [if_neg hc] at h;exact⟨h,by omega⟩
theorem ahO{r b a:Int}{q:Nat}(hq:q<s.1.length)(hb:0<=b):(0<=(s.1.getD q (-1,-1)).1->0<=((wrF s r b a).1.getD q (-1,-1)).1)∧(r.toNat=q->0<=((wrF s r b a).1.getD q (-1,-1)).1):=by
 unfold wrF
 by_cases hc:0<=(s.1.getD r.toNat (-1,-1)).1
 . rw [if_pos hc]
   exact⟨id,fun h=>by rw [<-h];exact hc⟩
 . rw [if_neg hc]
   dsimp only;rw [Aab,Aab,Abe]
   by_cases h:r.toNat=q
   . rw [if_pos h,if_pos (by omega)]
     exact⟨fun _=>hb,fun _=>hb⟩
   . rw [if_neg h];exact⟨id,fun e=>absurd e h⟩
variable {i:Nat}
theorem ado: ∀ {k : Nat}, (abh i l k s).2 = true -> ∀ j, j <= k -> (abh i l j s).2 = true
 | 0,h,j,hj=>by rw [show j=0 by omega];exact h
 | k+1,h,j,hj=>by
   by_cases e:j=k+1
   . rw [e];exact h
   . exact ado (adL (by rw [abh] at h;exact h)).1 j (by omega)
theorem ad2 {i : Nat} {l : List adO} {s : WSt} (hl : ∀ p ∈ l, p.dst.toNat < s.1.length) : ∀ (k : Nat), k <= l.length -> ∀ j, j < k -> 0 <= ((abh i l k s).1.getD (l.getD j acQ).dst.toNat (-1, -1)).1
 | 0,_,j,hj=>by omega
 | k+1,hk,j,hj=>by
   have hm:l.getD j acQ∈l:=by
    rw [Aab,Aaa (by omega)];exact Aai _
   have hlen:(l.getD j acQ).dst.toNat<(abh i l k s).1.length:=by rw [ack];exact hl _ hm
   rw [abh];have h:=ahO (s:=abh i l k s) (r:=(l.getD k acQ).dst) (b:=(i:Int)) (a := -1) hlen (by omega)
   by_cases e:j=k
   . subst e;exact h.2 rfl
   . exact h.1 (ad2 hl k (by omega) j (by omega))
theorem aid(hl:∀p∈l,p.dst.toNat<s.1.length)(h:(abh i l l.length s).2=true)(hj:j<k)(hk:k<l.length):(l.getD j acQ).dst.toNat≠(l.getD k acQ).dst.toNat:=by
 have h1:=ado h (k+1) (by omega);rw [abh] at h1;have h2:=(adL h1).2;have h3:=ad2 hl k (by omega) j hj (i:=i) (s:=s);intro e;rw [e] at h3;omega
theorem acD{l : List abo}  : ∀ {k : Nat}, (aa4 i l k s).2 = true -> s.2 = true
 | 0,h=>h
 | k+1,h=>by
   rw [aa4,adM] at h
   by_cases hc:(l.getD k ab1).dst<0
   . rw [if_pos hc] at h;exact acD h
   . rw [if_neg hc] at h;exact acD (adL h).1
theorem acB {bs : List aad} {s : WSt} : ∀ {k : Nat}, (aaO bs k s).2 = true -> ∀ j, j <= k -> (aaO bs j s).2 = true
 | 0,h,j,hj=>by rw [show j=0 by omega];exact h
 | k+1,h,j,hj=>by
   by_cases e:j=k+1
   . rw [e];exact h
   . have h0:(aaO bs (k+1) s).2=true:=h
     rw [aaO,ad0] at h0;exact acB (ado (acD h0) 0 (Aaf _)) j (by omega)
theorem aky{f:aal}(hf:agQ f)(hs:acG f=0){b:Nat}{x:aad}(hx:f.blocks[b]?=some x)(hj:j<k)(hk:k<x.phis.length):(x.phis.getD j acQ).dst.toNat≠(x.phis.getD k acQ).dst.toNat:=by
 have hb:=(Aae.1 hx).1;unfold acG at hs
 by_cases c1:(aaL f.blocks).length<f.blocks.length
 . rw [if_pos c1] at hs;omega
 rw [if_neg c1] at hs
 by_cases c2:(aaW f).2=false
 . rw [if_pos c2] at hs;omega
 have c2:(aaW f).2=true:=by simpa using c2
 unfold aaW at c2;have h1:=acB c2 (b+1) (by omega);have hg:f.blocks.getD b adU=x:=by rw [Aab,hx];rfl
 rw [aaO,ad0,hg] at h1;have h2:=acD h1;refine aid (fun p hp=>?_) h2 hj hk;have hd:=(hf.phi b x hx p hp).1;have hl:(aaO f.blocks b (adN f.params.toNat (List.replicate f.regs.toNat (-1,-1),true))).1.length=f.regs.toNat:=by
  rw [abY,acj,Aar]
 rw [hl];omega
end
section
theorem afx {i : Nat} {l : List abo} {s : WSt} : ∀ {k : Nat}, (aa4 i l k s).2 = true -> ∀ j, j <= k -> (aa4 i l j s).2 = true
 | 0,h,j,hj=>by rw [show j=0 by omega];exact h
 | k+1,h,j,hj=>by
   by_cases e:j=k+1
   . rw [e];exact h
   . refine afx (k:=k) ?_ j (by omega)
     rw [aa4,adM] at h
     by_cases hc:(l.getD k ab1).dst<0
     . rw [if_pos hc] at h;exact h
     . rw [if_neg hc] at h;exact (adL h).1
theorem acC (i : Nat) (l : List abo) (s : WSt) : ∀ k, (aa4 i l k s).1.length = s.1.length
 | 0=>rfl
 | k+1=>by
   rw [aa4,adM];split
   . exact acC i l s k
   . rw [ad1];exact acC i l s k
theorem adn {i : Nat} {l : List abo} {s : WSt} {r : Nat} (hr : r < s.1.length) (h : 0 <= (s.1.getD r (-1, -1)).1) : ∀ k, 0 <= ((aa4 i l k s).1.getD r (-1, -1)).1
 | 0=>h
 | k+1=>by
   rw [aa4,adM];split
   . exact adn hr h k
   . exact (ahO (by rw [acC];exact hr) (by omega)).1 (adn hr h k)
theorem afy {i : Nat} {l : List abo} {s : WSt} (hl : ∀ y ∈ l, 0 <= y.dst -> y.dst.toNat < s.1.length) : ∀ (k : Nat), k <= l.length -> ∀ j, j < k -> 0 <= (l.getD j ab1).dst -> 0 <= ((aa4 i l k s).1.getD (l.getD j ab1).dst.toNat (-1, -1)).1
 | 0,_,j,hj=>by omega
 | k+1,hk,j,hj=>by
   intro hd;have hm:l.getD j ab1∈l:=by
    rw [Aab,Aaa (by omega)];exact Aai _
   have hlen:(l.getD j ab1).dst.toNat<(aa4 i l k s).1.length:=by rw [acC];exact hl _ hm hd
   rw [aa4,adM]
   by_cases e:j=k
   . subst e
     rw [if_neg (by omega)];exact (ahO hlen (by omega)).2 rfl
   . have h:=afy hl k (by omega) j (by omega) hd (i:=i)
     split
     . exact h
     . exact (ahO hlen (by omega)).1 h
structure amJ (x:aad):Prop where
 phis:∀j k,j<k->k<x.phis.length->(x.phis.getD j acQ).dst.toNat≠(x.phis.getD k acQ).dst.toNat
 mix:∀j k,j<x.phis.length->k<x.list.length->0<=(x.list.getD k ab1).dst->(x.phis.getD j acQ).dst.toNat≠(x.list.getD k ab1).dst.toNat
 list:∀j k,j<k->k<x.list.length->0<=(x.list.getD j ab1).dst->0<=(x.list.getD k ab1).dst->(x.list.getD j ab1).dst.toNat≠(x.list.getD k ab1).dst.toNat
theorem akx {f:aal}(hf:agQ f)(hs:acG f=0){b:Nat}{x:aad}(hx:f.blocks[b]?=some x):amJ x:=by
 refine⟨fun j k=>aky hf hs hx,?_,?_⟩ <;>
 . have hb:=(Aae.1 hx).1
   unfold acG at hs
   by_cases c1:(aaL f.blocks).length<f.blocks.length
   . rw [if_pos c1] at hs;omega
   rw [if_neg c1] at hs
   by_cases c2:(aaW f).2=false
   . rw [if_pos c2] at hs;omega
   have c2:(aaW f).2=true:=by simpa using c2
   unfold aaW at c2;have h1:=acB c2 (b+1) (by omega);have hg:f.blocks.getD b adU=x:=by rw [Aab,hx];rfl
   rw [aaO,ad0,hg] at h1;obtain⟨s,bf⟩:∃s,s=aaO f.blocks b (adN f.params.toNat (List.replicate f.regs.toNat (-1,-1),true)):=⟨_,rfl⟩
   have hl:s.1.length=f.regs.toNat:=by
    rw [bf,abY,acj,Aar]
   rw [<-bf] at h1;have bd:∀p∈x.phis,p.dst.toNat<s.1.length:=fun p hp=>by
    have hd:=(hf.phi b x hx p hp).1;rw [hl];omega
   have bq:∀y∈x.list,0<=y.dst->y.dst.toNat<(abh b x.phis x.phis.length s).1.length:=fun y hy h0=>by
    have hd:=(hf.ins b x hx y hy).dst;rw [ack,hl];omega
   have bg:∀k,k<x.list.length->0<=(x.list.getD k ab1).dst->((aa4 b x.list k (abh b x.phis x.phis.length s)).1.getD (x.list.getD k ab1).dst.toNat (-1,-1)).1<0:=fun k hk h0=>by
    have h2:=afx h1 (k+1) (by omega);rw [aa4,adM,if_neg (by omega)] at h2;exact (adL h2).2
   intro j k
   first
   | intro hj hk h0 e
     have h3:=ad2 (i:=b) bd x.phis.length (Aad _) j hj;have br:(x.phis.getD j acQ).dst.toNat<(abh b x.phis x.phis.length s).1.length:=by
      rw [ack];refine bd _ ?_;rw [Aab,Aaa hj];exact Aai _
     have h4:=adn (i:=b) (l:=x.list) br h3 k;have h5:=bg k hk h0;rw [e] at h4;omega
   | intro hj hk hd h0 e
     have h4:=afy (i:=b) bq k (by omega) j hj hd;have h5:=bg k hk h0;rw [e] at h4;omega
end
section
def aby(m:Km)(regs:List Int):Prop:=∀r v,m r=some v->r<regs.length∧regs.getD r 0=bi v
theorem aby.no(regs:List Int):aby aic regs:=fun r v h=>by cases h
variable {m:Km}{regs:List Int}
theorem aby.val(h:aby m regs){v:ab3}(hv:I64 v.n){z:BitVec 64}(e:aaI m v=some z):aaX regs v=bi z:=by
 unfold aaI at e;unfold aaX
 by_cases hr:v.reg=true
 . rw [if_pos hr] at e ⊢;exact (h _ _ e).2
 . rw [if_neg hr] at e ⊢
   injection e with e;rw [<-e,aiH hv]
theorem aby.put(h:aby m regs){d:Nat}(hd:d<regs.length)(z:BitVec 64):aby (ahb m d z) (regs.set d (bi z)):=fun r v e=>by
 unfold ahb at e;rw [List.length_set,Aab,Abe]
 by_cases hr:r=d
 . rw [if_pos hr] at e
   injection e with e;subst e hr;exact⟨hd,by simp [hd]⟩
 . rw [if_neg hr] at e
   obtain⟨h1,h2⟩:=h r v e;rw [if_neg (Ne.symm hr),<-Aab];exact⟨h1,h2⟩
theorem aby.off(h:aby m regs){d:Nat}(hd:m d=none)(n:Int):aby m (regs.set d n):=fun r v e=>by
 have hr:r≠d:=fun e2=>by rw [e2,hd] at e;cases e
 obtain⟨h1,h2⟩:=h r v e;rw [List.length_set,Aab,Abe,if_neg (Ne.symm hr),<-Aab];exact⟨h1,h2⟩
theorem ae9(h:aby m regs)(k:Nat):∀(ps:List adO) (nx:Km) (r:List Int),aby nx r->(∀p∈ps,nx p.dst.toNat=none)->ps.Pairwise (fun a b=>a.dst.toNat≠b.dst.toNat)->(∀p∈ps,p.dst.toNat<r.length) ->
 (∀p∈ps,I64 (p.src.getD k ⟨false,0⟩).n)->aby (ps.foldl (abb k m) nx) (afT ps (ps.map fun p=>aaX regs (p.src.getD k ⟨false,0⟩)) r)
 | [],nx,r,h1,_,_,_,_=>h1
 | p :: ps,nx,r,h1,h2,h3,h4,h5=>by
   rw [List.foldl_cons,Aa2,afT];rw [List.pairwise_cons] at h3;have hp:=Aa6 (a:=p) (l:=ps);have hl:=h4 p hp;refine ae9 h k ps _ _ ?_ (fun p' aj=>?_) h3.2 (fun p' aj=>by rw [List.length_set];exact h4 p' (Aa3 _ aj)) (fun p' aj=>h5 p' (Aa3 _ aj))
   . unfold abb
     cases e:aaI m (p.src.getD k ⟨false,0⟩) with
     | none=>exact h1.off (h2 p hp) _
     | some z =>
       dsimp only;rw [h.val (h5 p hp) e];exact h1.put hl z
   . have hn:=h2 p' (Aa3 _ aj)
     unfold abb;cases e:aaI m (p.src.getD k ⟨false,0⟩) with
     | none=>exact hn
     | some z =>
       dsimp only;unfold ahb;rw [if_neg (fun e2=>h3.1 p' aj e2.symm)];exact hn
theorem ahD (k : Nat) (m : Km) : ∀ (ps : List adO) (nx : Km) (r : Nat), ps.foldl (abb k m) nx r ≠ none -> nx r ≠ none ∨ ∃ p ∈ ps, p.dst.toNat = r
 | [],nx,r,h => .inl h
 | p :: ps,nx,r,h=>by
   rw [List.foldl_cons] at h;rcases ahD k m ps _ r h with h1 | ⟨p',aj,e⟩
   . unfold abb at h1
     cases e:aaI m (p.src.getD k ⟨false,0⟩) with
     | none=>rw [e] at h1;exact .inl h1
     | some z =>
       rw [e] at h1;dsimp only at h1;unfold ahb at h1
       by_cases hr:r=p.dst.toNat
       . exact .inr ⟨p,Aa6 ..,hr.symm⟩
       . rw [if_neg hr] at h1;exact .inl h1
   . exact .inr ⟨p',Aa3 _ aj,e⟩
theorem ag2 {m:Km}{y:abo}{r:Nat}(h:aaN m y r≠none):m r≠none∨(y.op<=17∧y.dst.toNat=r):=by
 unfold aaN at h
 by_cases ay:17<y.op
 . rw [if_pos ay] at h;exact .inl h
 . rw [if_neg ay] at h
   cases e:amw y.op (aaI m y.a) (aaI m y.b) with
   | none=>rw [e] at h;exact .inl h
   | some z =>
     rw [e] at h;dsimp only at h;unfold ahb at h
     by_cases hr:r=y.dst.toNat
     . exact .inr ⟨by omega,hr.symm⟩
     . rw [if_neg hr] at h;exact .inl h
section
variable (x : aad) (q : Nat)
def kkU(j:Nat):Nat:=if j=0 then q else 1 - q
def ajg : Nat -> Km
 | 0=>aic
 | j+1=>abA x (kkU q j) (ajg j)
def mAt(j pos:Nat):Km:=ad7 (agP (kkU q j) (ajg x q j) x.phis) (x.list.take pos)
theorem ai7(j:Nat):mAt x q j x.list.length=ajg x q (j+1):=by unfold mAt;rw [Aa0];rfl
theorem afN(j:Nat){pos:Nat}{y:abo}(hy:x.list[pos]?=some y):mAt x q j (pos+1)=aaN (mAt x q j pos) y:=by
 obtain⟨h1,h2⟩:=Aae.1 hy;unfold mAt;rw [agw h1,h2]
theorem ag4 (j : Nat) : ∀ pos r, pos <= x.list.length -> mAt x q j pos r ≠ none -> (∃ p ∈ x.phis, p.dst.toNat = r) ∨ ∃ i y, i < pos ∧ x.list[i]? = some y ∧ y.op <= 17 ∧ y.dst.toNat = r
 | 0,r,_,h=>by
   rcases ahD _ _ x.phis aic r h with h1 | h1
   . exact absurd rfl h1
   . exact .inl h1
 | pos+1,r,hp,h=>by
   have hy:x.list[pos]?=some x.list[pos]:=Aaa (by omega);rw [afN x q j hy] at h;rcases ag2 h with h1 | ⟨h1,h2⟩
   . rcases ag4 j pos r (by omega) h1 with h2 | ⟨i,y,hi,h2⟩
     . exact .inl h2
     . exact .inr ⟨i,y,by omega,h2⟩
   . exact .inr ⟨pos,_,by omega,hy,h1,h2⟩
def akM(b n:Nat):Prop:=0<n∧∀j,j<n->∃z,aaI (ajg x q (j+1)) x.fin.on=some z∧(ajT x z=(b:Int)↔j+1<n)
variable {x} {q}
theorem afq {b : Int} : ∀ (f n j : Nat) (N : Int), ahJ x b (1 - q) f n (kkU q j) (ajg x q j) = N -> N ≠ 0 -> ∃ i : Nat, N = (n : Int) + i ∧ (∀ d : Nat, d <= i -> ∃ z, aaI (ajg x q (j + d + 1)) x.fin.on = some z ∧ (ajT x z = b ↔ d < i))
 | 0,n,j,N,h,hN=>absurd h.symm hN
 | f+1,n,j,N,h,hN=>by
   rw [ahJ] at h;have hp:abA x (kkU q j) (ajg x q j)=ajg x q (j+1):=rfl;rw [hp] at h;cases e:aaI (ajg x q (j+1)) x.fin.on with
   | none=>rw [e] at h;exact absurd h.symm hN
   | some z =>
     rw [e] at h;dsimp only at h
     by_cases hg:ajT x z≠b
     . rw [if_pos hg] at h
       exact ⟨0, by omega, fun d hd => by
        obtain rfl : d = 0 := by omega
        exact ⟨z, e, fun h => absurd h hg, fun h => by omega⟩⟩
     . rw [if_neg hg] at h
       have hk:kkU q (j+1)=1 - q:=if_neg (by omega);obtain⟨i,h1,h2⟩:=afq f (n+1) (j+1) N (by rw [hk];exact h) hN;refine⟨i+1,by omega,fun d hd=>?_⟩;cases d with
       | zero=>exact⟨z,e,fun _=>by omega,fun _=>Classical.not_not.1 hg⟩
       | succ d =>
         obtain⟨z',h3,h4⟩:=h2 d (by omega);refine⟨z',by rw [show j+(d+1)+1=j+1+d+1 by omega];exact h3,?_⟩;rw [h4];omega
theorem agH {b:Nat}{N:Int}(h:aa8 x (b:Int) q=N)(hN:N≠0):∃n:Nat,N=(n:Int)∧akM x q b n:=by
 obtain⟨i,h1,h2⟩:=afq (x:=x) (q:=q) (b:=(b:Int)) 8 1 0 N h hN;refine⟨i+1,by omega,by omega,fun j hj=>?_⟩;obtain⟨z,h3,h4⟩:=h2 j (by omega);refine⟨z,by rw [Aac] at h3;exact h3,?_⟩;rw [h4];omega
end
structure LpU (u:aax)(k0 b0 q p:Nat)(f:aal)(x:aad)(n:Nat):Prop where
 chk:aak u=(0,0)
 num:aiw u
 fn:u.funcs[k0]?=some f
 blk:f.blocks[b0]?=some x
 once:amJ x
 kind:x.fin.kind=3
 low:b0≠0
 apart:p≠b0
 fromP:whence f.blocks b0 p=q
 fromB:whence f.blocks b0 b0=1 - q
 alone:∀(b:Nat) y,f.blocks[b]?=some y->(b0:Int)∈y.fin.to->b=p∨b=b0
 one:∀y,f.blocks[p]?=some y->y.fin.kind=2->y.fin.to.getD 0 0=(b0:Int)
 takes:akM x q b0 n
section
variable {u : aax} {k0 b0 q p : Nat} {f : aal} {x : aad} {n : Nat}
theorem LpU.next (h : LpU u k0 b0 q p f x n) {t : RnF} (ht : FrW u t f x) {j pos : Nat} {y : abo} (hy : x.list[pos]? = some y) (ha : aby (mAt x q j pos) t.regs)
 {v:Int} (ay:y.op<=17->ajU y.op (aaX t.regs y.a) (aaX t.regs y.b)=some v):aby (mAt x q j (pos+1)) (adG t.regs y.dst v):=by
 have hf:=afF h.chk h.fn;have be:=(Aae.1 hy).1;have bh:=Aah hy;have bj:=hf.ins _ x h.blk y bh;obtain⟨-,n2,-⟩:=h.num.vals f (Aah h.fn) x (Aah h.blk);have aO:x.list.getD pos ab1=y:=by rw [Aab,hy];rfl
 have ax:0<=y.dst->mAt x q j pos y.dst.toNat=none:=fun h0=>by
  refine Classical.byContradiction fun hc=>?_;rcases ag4 x q j pos _ (by omega) hc with⟨p',aj,e⟩ | ⟨i,y',hi,av,h18,e⟩
  . obtain⟨a,aZ,rfl⟩:=Aav aj
    have:=h.once.mix a pos aZ be (by rw [aO];exact h0);rw [aO,Aab,Aaa aZ] at this;exact this e
  . have a7:=(Aae.1 av).1
    have aH:x.list.getD i ab1=y':=by rw [Aab,av];rfl
    have aY:=hf.ins _ x h.blk y' (Aah av);have aL:0<=y'.dst:=aY.low (by omega);have:=h.once.list i pos hi be (by rw [aH];exact aL) (by rw [aO];exact h0);rw [aO,aH] at this;exact this e
 rw [afN x q j hy];unfold aaN
 by_cases h1:17<y.op
 . rw [if_pos h1]
   unfold adG;split
   case isTrue h0=>exact ha.off (ax h0) _
   case isFalse=>exact ha
 . rw [if_neg h1]
   have h0:0<=y.dst:=bj.low (by omega);have hd:y.dst.toNat<t.regs.length:=by have:=bj.dst.2;have:=ht.regs;have:=hf.pr;omega
   unfold adG;rw [if_pos h0];cases e:amw y.op (aaI (mAt x q j pos) y.a) (aaI (mAt x q j pos) y.b) with
   | none=>exact ha.off (ax h0) _
   | some z =>
     dsimp only;obtain⟨m1,m2,-⟩:=n2 y bh;cases ea:aaI (mAt x q j pos) y.a with
     | none=>rw [ea] at e;cases hb:aaI (mAt x q j pos) y.b <;> rw [hb] at e <;> cases e
     | some za =>
       cases eb:aaI (mAt x q j pos) y.b with
       | none=>rw [ea,eb] at e;cases e
       | some zb =>
         rw [ea,eb] at e;have hv:=ay (by omega);unfold ajU at hv;rw [ha.val m1 ea,ha.val m2 eb,amk,amk] at hv;have e':aaV y.op za zb=some z:=e;rw [e'] at hv;have bx:bi z=v:=by simpa using hv
         rw [<-bx];exact ha.put hd z
theorem LpU.phis(h:LpU u k0 b0 q p f x n){t:RnF}{g:aad}(ht:FrW u t f g)(_hk:t.fn=k0){j:Nat}(hq:whence f.blocks b0 t.blk=kkU q j)(ha:aby (ajg x q j) t.regs):aby (mAt x q j 0) (ab9 u b0 t).regs:=by
 have hf:=afF h.chk h.fn;obtain⟨n1,-,-⟩:=h.num.vals f (Aah h.fn) x (Aah h.blk);have hb:aiI u t.fn b0=x:=by
  unfold aiI;rw [ht.funcR,Aab,h.blk];rfl
 have hm:mAt x q j 0=x.phis.foldl (abb (kkU q j) (ajg x q j)) aic:=rfl;rw [hm];show aby _ (agB _ _ _);unfold agB;rw [hb,ht.funcR,hq];refine ae9 ha _ x.phis aic t.regs (aby.no _) (fun _ _=>rfl) ?_ (fun p' aj=>?_) (fun p' aj=>?_)
 . rw [List.pairwise_iff_getElem]
   intro i j' hi a8 bp;have:=h.once.phis i j' bp a8;rw [Aab,Aab,Aaa hi,Aaa a8] at this;exact this
 . have:=(hf.phi _ x h.blk p' aj).1
   have:=ht.regs;omega
 . rw [Aab]
   cases e:p'.src[kkU q j]? with
   | none=>exact abF
   | some v=>exact n1 p' aj v (Aah e)
theorem LpU.told(h:LpU u k0 b0 q p f x n){regs:List Int}{j pos:Nat}(hp:pos<=x.list.length){y:abo}(hy:y∈x.list)(az:y.op=20)(ha:aby (mAt x q j pos) regs)(v:Int):aby (mAt x q j pos) (adG regs y.dst v):=by
 have hf:=afF h.chk h.fn;unfold adG;split
 case isFalse=>exact ha
 case isTrue h0 =>
  refine ha.off (Classical.byContradiction fun hc=>?_) _;obtain⟨a,aQ,rfl⟩:=Aav hy;have aF:x.list.getD a ab1=x.list[a]:=by rw [Aab,Aaa aQ];rfl
  rcases ag4 x q j pos _ hp hc with⟨p',aj,e⟩ | ⟨i,y',hi,av,ay,e⟩
  . obtain⟨c,aG,rfl⟩:=Aav aj
    have:=h.once.mix c a aG aQ (by rw [aF];exact h0);rw [aF,Aab,Aaa aG] at this;exact this e
  . obtain⟨a7,he⟩:=Aae.1 av
    have aN:x.list.getD i ab1=y':=by rw [Aab,av];rfl
    have aL:0<=y'.dst:=(hf.ins _ x h.blk y' (Aah av)).low (by omega);have aC:i≠a:=fun e2=>by subst e2;rw [he] at az;omega
    rcases Nat.lt_or_gt_of_ne aC with hl | hl
    . have:=h.once.list i a hl aQ (by rw [aN];exact aL) (by rw [aF];exact h0)
      rw [aN,aF] at this;exact this e
    . have:=h.once.list a i hl a7 (by rw [aF];exact h0) (by rw [aN];exact aL)
      rw [aN,aF] at this;exact this e.symm
end
end
section
def cAt(c:List (List Int))(k b:Nat):Int:=(c.getD k []).getD b 0
theorem ads {u:aax}{m:Nat}{c:List (List Int)}(h:ajQ u m c){k fn b ae:Nat}{f:aal}(hf:u.funcs[fn]?=some f)(ht:ae<f.blocks.length):cAt (ab7 c fn ae) k b=cAt c k b+if fn=k∧ae=b then 1 else 0:=by
 obtain⟨r,h1,h2,-⟩:=h.2 fn f hf;have hk:(ab7 c fn ae).getD k []=if fn=k then (c.getD k []).modify ae (·+1) else c.getD k []:=by
  unfold ab7;rw [Aab,Aab,Abj]
  by_cases e:fn=k
  . subst e;rw [h1];simp
  . cases c[k]? <;> simp [e]
 unfold cAt;rw [hk]
 by_cases e:fn=k
 . subst e
   have hr:c.getD fn []=r:=by rw [Aab,h1];rfl
   rw [if_pos rfl,hr,Aab,Aab,Abj]
   by_cases e2:ae=b
   . subst e2
     rw [Aaa (by omega)];simp
   . cases r[b]? <;> simp [e2]
 . simp [e]
section
variable (u : aax) (k0 b0 q p : Nat) (f : aal) (x : aad) (n : Nat)
structure FrU (t:RnF)(a c:Nat):Prop where
 inn:t.fn=k0->t.blk=b0->∃j,j<n∧a+j+1=n∧t.pos<=x.list.length∧aby (mAt x q j t.pos) t.regs
 out:¬(t.fn=k0∧t.blk=b0)->a=0
 ahd:c=if t.fn=k0∧t.blk=p then 1 else 0
def amK(t c:RnF):Prop:=c.fn=k0->c.blk=b0->t.dst<0∨∃y∈x.list,y.op=20∧y.dst=t.dst
inductive amy : List RnF -> Nat -> Nat -> Prop
 | nil:amy [] 0 0
 | cons (t:RnF) (r:List RnF) (A P a c A' P':Nat) (hr:amy r A P) (ht:FrU k0 b0 q p x n t a c) (hp:∀d r',r=d :: r'->amK k0 b0 x t d) (hA:A'=A+a) (hP:P'=P+c):amy (t :: r) A' P'
def alS(s:RnS):Prop:=∃A P E:Nat,amy k0 b0 q p x n s.frs A P∧cAt s.cnt k0 b0+A=n * E∧(E:Int)+P<=cAt s.cnt k0 p∧(∀y,f.blocks[p]?=some y->y.fin.kind=2->(E:Int)+P=cAt s.cnt k0 p)
end
section
variable {u : aax} {k0 b0 q p : Nat} {f : aal} {x : aad} {n : Nat}
theorem FrU.far {t:RnF}(h:¬(t.fn=k0∧t.blk=b0)):FrU k0 b0 q p x n t 0 (if t.fn=k0∧t.blk=p then 1 else 0):=⟨fun h1 h2=>absurd ⟨h1,h2⟩ h,fun _=>rfl,rfl⟩
theorem amu(h:LpU u k0 b0 q p f x n){s:RnS}{t:RnF}{r:List RnF}{g:aal}{z:aad}(hs:RnW u s)(aB:s.frs=t :: r)(ht:FrW u t g z){pr:RnS×Bool}(aP:aeq u t r z s pr)(hi:alS k0 b0 q p f x n s) :
 (pr.2=true->alS k0 b0 q p f x n pr.1)∧(pr.2=false->pr.1.state≠0∨(pr.1.frs=[]∧alS k0 b0 q p f x n pr.1)):=by
 have hg:=afF h.chk ht.fn;obtain⟨A,P,E,aJ,h1,h2,h3⟩:=hi;rw [aB] at aJ;cases aJ with | cons _ _ A0 P0 a c _ _ hr hfu hpd hA hP =>
 have ai:t.fn=k0->g=f:=fun e=>by
  have:=ht.fn;rw [e,h.fn] at this;exact (Option.some.inj this).symm
 have ad:t.fn=k0->t.blk=b0->z=x:=fun e e2=>by
  have:=ht.blk;rw [ai e,e2,h.blk] at this;exact (Option.some.inj this).symm
 cases aP with
 | jump ae hp hto hk =>
   refine⟨fun _=>?_,fun e=>(by cases e)⟩;obtain⟨g',bF,bo⟩:=ahx h.chk h.num ht hto;have aI:=(Aae.1 bo).1;have an:=ads hs.cnt (k:=k0) (b:=b0) ht.fn aI;have ak:=ads hs.cnt (k:=k0) (b:=p) ht.fn aI;have au:∀d r',r=d :: r'->amK k0 b0 x (ab9 u ae t) d:=fun d r' e=>hpd d r' e
   by_cases hk0:t.fn=k0
   case neg =>
    have aq:FrU k0 b0 q p x n (ab9 u ae t) 0 0:=by
     have:=FrU.far (k0:=k0) (b0:=b0) (q:=q) (p:=p) (x:=x) (n:=n) (t:=ab9 u ae t) (fun e=>hk0 e.1);rw [if_neg (fun e=>hk0 e.1)] at this;exact this
    have ha:=hfu.out (fun e=>hk0 e.1);have hc:=hfu.ahd;rw [if_neg (fun e=>hk0 e.1)] at hc;rw [if_neg (fun e=>hk0 e.1)] at an ak;refine⟨A,P,E,.cons _ _ A0 P0 0 0 _ _ hr aq au (by omega) (by omega),?_,?_,fun y hy af=>?_⟩
    . dsimp only;rw [an];omega
    . dsimp only;rw [ak];omega
    . dsimp only;rw [ak];have:=h3 y hy af;omega
   obtain rfl:=ai hk0;have bu:(t.fn=k0∧ae=b0)↔ae=b0:=⟨fun e=>e.2,fun e=>⟨hk0,e⟩⟩
   have bw:(t.fn=k0∧ae=p)↔ae=p:=⟨fun e=>e.2,fun e=>⟨hk0,e⟩⟩
   simp only [bu] at an;simp only [bw] at ak;have aM:=h.apart
   by_cases htb:ae=b0
   . subst htb
     rw [if_pos rfl] at an;rw [if_neg (fun e=>aM e.symm)] at ak;have aG:∀a',(∃j,j<n∧a'+j+1=n∧aby (mAt x q j 0) (ab9 u ae t).regs)->FrU k0 ae q p x n (ab9 u ae t) a' 0:=fun a' hj=>by
      obtain⟨j,ao,ar,al⟩:=hj;exact⟨fun _ _=>⟨j,ao,ar,Aaf _,al⟩,fun e=>absurd ⟨hk0,rfl⟩ e,(if_neg (fun e=>aM e.2.symm)).symm⟩
     rcases h.alone t.blk z ht.blk hto with hb | hb
     . -- from the block ahead
       have ha:=hfu.out (fun e=>aM (hb.symm.trans e.2));have hc:=hfu.ahd;rw [if_pos ⟨hk0,hb⟩] at hc;have aA:=h.phis (j:=0) ht hk0 (by rw [hb];exact h.fromP) (aby.no t.regs);refine⟨A+(n - 1),P0,E+1,.cons _ _ A0 P0 (n - 1) 0 _ _ hr (aG _ ⟨0,h.takes.1,by have:=h.takes.1;omega,aA⟩) au (by omega) (by omega),?_,?_,fun y hy af=>?_⟩
       . dsimp only
         rw [an];have hm:((n * (E+1:Nat):Nat):Int)=(n:Int) * E+n:=by rw [Nat.mul_add,Aam];push_cast;rfl
         have:=h.takes.1;have bk:(n:Int) * ((E+1:Nat):Int)=(n:Int) * E+n:=by push_cast;rw [Int.mul_add,Int.mul_one]
         rw [bk];omega
       . dsimp only;rw [ak];omega
       . dsimp only;rw [ak];have:=h3 y hy af;omega
     . -- from itself
       obtain rfl:=ad hk0 hb;obtain⟨j,ao,ar,-,al⟩:=hfu.inn hk0 hb;rw [hp,ai7] at al;have hc:=hfu.ahd;rw [if_neg (fun e=>aM (e.2.symm.trans hb))] at hc;obtain⟨w,aW,aX⟩:=h.takes.2 j ao;have aV:I64 z.fin.on.n:=(h.num.vals _ (Aah h.fn) _ (Aah h.blk)).2.2;have aE:=al.val aV aW;have aU:ajT z w=(ae:Int):=by
        rcases hk with⟨hk,-⟩ | ⟨-,hk⟩
        . have:=h.kind;omega
        . unfold ajT
          rw [aE] at hk
          by_cases e:bi w=0
          . rw [if_pos e];rw [if_neg (fun e2=>e2 e)] at hk;exact hk
          . rw [if_neg e];rw [if_pos e] at hk;exact hk
       have aw:=aX.1 aU;have bt:kkU q (j+1)=1 - q:=if_neg (by omega);have aA:=h.phis (j:=j+1) ht hk0 (by rw [hb,bt];exact h.fromB) al;refine⟨A - 1,P,E,.cons _ _ A0 P0 (a - 1) 0 _ _ hr (aG _ ⟨j+1,aw,by omega,aA⟩) au (by omega) (by omega),?_,?_,fun y hy af=>?_⟩
       . dsimp only;rw [an];omega
       . dsimp only;rw [ak];omega
       . dsimp only;rw [ak];have:=h3 y hy af;omega
   . rw [if_neg htb] at an
     have aq:=FrU.far (k0:=k0) (b0:=b0) (q:=q) (p:=p) (x:=x) (n:=n) (t:=ab9 u ae t) (fun e=>htb e.2);have bl:(if (ab9 u ae t).fn=k0∧(ab9 u ae t).blk=p then 1 else 0)=if ae=p then 1 else 0:=by
      by_cases e:ae=p
      . rw [if_pos e,if_pos ⟨hk0,e⟩]
      . rw [if_neg e,if_neg (fun e2=>e e2.2)]
     rw [bl] at aq
     -- nothing is left to do
     have ha:a=0:=by
      by_cases hb:t.blk=b0
      . obtain rfl:=ad hk0 hb
        obtain⟨j,ao,ar,-,al⟩:=hfu.inn hk0 hb;rw [hp,ai7] at al;obtain⟨w,aW,aX⟩:=h.takes.2 j ao;have aV:I64 z.fin.on.n:=(h.num.vals _ (Aah h.fn) _ (Aah h.blk)).2.2;have aE:=al.val aV aW;have aU:ajT z w=(ae:Int):=by
         rcases hk with⟨hk,-⟩ | ⟨-,hk⟩
         . have:=h.kind;omega
         . unfold ajT
           rw [aE] at hk
           by_cases e:bi w=0
           . rw [if_pos e];rw [if_neg (fun e2=>e2 e)] at hk;exact hk
           . rw [if_neg e];rw [if_pos e] at hk;exact hk
        have:¬(j+1<n):=fun e=>by
         have:=aX.2 e;rw [aU] at this;exact htb (by omega)
        omega
      . exact hfu.out (fun e=>hb e.2)
     have hc:=hfu.ahd;have a6:c<=1:=by rw [hc];split <;> omega
     have ag:∀y,g.blocks[p]?=some y->y.fin.kind=2->c=0:=fun y hy af=>by
      rw [hc]
      by_cases e:t.blk=p
      . exfalso
        have aK:z=y:=by
         have:=ht.blk;rw [e,hy] at this;exact (Option.some.inj this).symm
        subst aK;have:=h.one z hy af;rcases hk with⟨-,hk⟩ | ⟨hk,-⟩ <;> omega
      . rw [if_neg (fun e2=>e e2.2)]
     refine⟨A,P0+(if ae=p then 1 else 0),E,.cons _ _ A0 P0 0 _ _ _ hr aq au (by omega) rfl,?_,?_,fun y hy af=>?_⟩
     . dsimp only;rw [an];omega
     . dsimp only;rw [ak];split <;> omega
     . dsimp only
       rw [ak];have:=h3 y hy af;have:=ag y hy af;split <;> omega
 | ret d r' hp hk hrd =>
   refine⟨fun _=>?_,fun e=>(by cases e)⟩;subst hrd;have aC:¬(t.fn=k0∧t.blk=b0):=fun e=>by
    obtain rfl:=ad e.1 e.2;have:=h.kind;omega
   have ha:=hfu.out aC;have hc:=hfu.ahd;have a6:c<=1:=by rw [hc];split <;> omega
   have ag:∀y,f.blocks[p]?=some y->y.fin.kind=2->c=0:=fun y hy af=>by
    rw [hc]
    by_cases e:t.fn=k0∧t.blk=p
    . exfalso
      have aK:z=y:=by
       have:=ht.blk;rw [ai e.1,e.2,hy] at this;exact (Option.some.inj this).symm
      subst aK;omega
    . rw [if_neg e]
   cases hr with | cons _ _ A1 P1 a1 c1 _ _ hr1 hf1 hp1 hA1 hP1 =>
   have aS:FrU k0 b0 q p x n { d with regs:=adG d.regs t.dst (aaX t.regs z.fin.on) } a1 c1:=by
    refine⟨fun e1 e2=>?_,hf1.out,hf1.ahd⟩;obtain⟨j,ao,ar,al,aw⟩:=hf1.inn e1 e2;refine⟨j,ao,ar,al,?_⟩;rcases hpd d r' rfl e1 e2 with hd | ⟨y,hy,az,hyd⟩
    . show aby _ (adG d.regs t.dst _)
      rw [afZ hd];exact aw
    . show aby _ (adG d.regs t.dst _)
      rw [<-hyd];exact h.told al hy az aw _
   refine⟨A0,P0,E,.cons _ _ A1 P1 a1 c1 _ _ hr1 aS (fun e bA he=>hp1 e bA he) hA1 hP1,?_,?_,fun y hy af=>?_⟩
   . dsimp only;omega
   . dsimp only;omega
   . dsimp only;have:=h3 y hy af;have:=ag y hy af;omega
 | done hp hk hrd =>
   refine⟨fun e=>(by cases e),fun _ => .inr ⟨rfl,?_⟩⟩;subst hrd;have aC:¬(t.fn=k0∧t.blk=b0):=fun e=>by
    obtain rfl:=ad e.1 e.2;have:=h.kind;omega
   have ha:=hfu.out aC;have hc:=hfu.ahd;have a6:c<=1:=by rw [hc];split <;> omega
   have ag:∀y,f.blocks[p]?=some y->y.fin.kind=2->c=0:=fun y hy af=>by
    rw [hc]
    by_cases e:t.fn=k0∧t.blk=p
    . exfalso
      have aK:z=y:=by
       have:=ht.blk;rw [ai e.1,e.2,hy] at this;exact (Option.some.inj this).symm
      subst aK;omega
    . rw [if_neg e]
   refine⟨A0,P0,E,hr,?_,?_,fun y hy af=>?_⟩
   . dsimp only;omega
   . dsimp only;omega
   . dsimp only;have:=h3 y hy af;have:=ag y hy af;omega
 | stop st y hy hst0=>exact⟨fun e=>(by cases e),fun _ => .inl hst0⟩
 | ins y mem inp out v hy az ay hout hn' hm hml hi =>
   refine⟨fun _=>?_,fun e=>(by cases e)⟩;refine⟨A,P,E,.cons _ _ A0 P0 a c _ _ hr ⟨fun e1 e2=>?_,hfu.out,hfu.ahd⟩ (fun d r' e=>hpd d r' e) hA hP,h1,h2,h3⟩;obtain rfl:=ad e1 e2;obtain⟨j,ao,ar,al,aw⟩:=hfu.inn e1 e2;obtain rfl:=ai e1;exact⟨j,ao,ar,(Aae.1 hy).1,h.next ht hy aw fun e=>(ay e).1⟩
 | call y hy az hd =>
   refine⟨fun _=>?_,fun e=>(by cases e)⟩;obtain⟨-,g1,aT,-⟩:=(aej h.chk ht.fn ht.blk (Aah hy)).1 az;have aI:0<g1.blocks.length:=by have:=(afF h.chk aT).len.1;omega
   have an:=ads hs.cnt (k:=k0) (b:=b0) aT aI;have ak:=ads hs.cnt (k:=k0) (b:=p) aT aI;rw [if_neg (fun e=>h.low e.2.symm)] at an;have hold:FrU k0 b0 q p x n { t with pos:=t.pos+1 } a c:=by
    refine⟨fun e1 e2=>?_,hfu.out,hfu.ahd⟩;obtain rfl:=ad e1 e2;obtain⟨j,ao,ar,al,aw⟩:=hfu.inn e1 e2;refine⟨j,ao,ar,(Aae.1 hy).1,?_⟩;rw [afN z q j hy];unfold aaN;rw [if_pos (by omega)];exact aw
   have aD:=FrU.far (k0:=k0) (b0:=b0) (q:=q) (p:=p) (x:=x) (n:=n) (t:=⟨y.fn.toNat,0,0,abf u y.fn.toNat (y.args.map (aaX t.regs)),y.dst⟩) (fun e=>h.low e.2.symm);refine⟨A,P+(if y.fn.toNat=k0∧0=p then 1 else 0),E,.cons _ _ A P 0 _ _ _ (.cons _ _ A0 P0 a c _ _ hr hold (fun d r' e=>hpd d r' e) hA hP) aD (fun d r' e=>?_) rfl rfl,?_,?_,fun y' av af=>?_⟩
   . injection e with e1 e2
     subst e1;intro e1 e2;obtain rfl:=ad e1 e2;exact .inr ⟨y,Aah hy,az,rfl⟩
   . dsimp only;rw [an];omega
   . dsimp only;rw [ak];split <;> omega
   . dsimp only
     rw [ak];have:=h3 y' av af;split <;> omega
theorem amM (h : LpU u k0 b0 q p f x n) : ∀ (m : Nat) (s : RnS), RnW u s -> s.frs ≠ [] -> alS k0 b0 q p f x n s -> (RnS.go u m s).state = 0 -> (RnS.go u m s).frs = [] ∧ alS k0 b0 q p f x n (RnS.go u m s)
 | 0,s,_,_,_,h0=>by
   have:(1:Int)=0:=h0;omega
 | m+1,s,hs,aC,hi,h0=>by
   cases aB:s.frs with
   | nil=>exact absurd aB aC
   | cons t r =>
     obtain⟨g,z,ht⟩:=hs.frs t (by rw [aB];exact Aa6 ..);have aP:=af0 h.chk h.num hs aB ht;obtain⟨w1,w2,-⟩:=af1 h.chk h.num hs aB ht aP;obtain⟨i1,i2⟩:=amu h hs aB ht aP hi;rw [RnS.go] at h0 ⊢
     by_cases e:(s.step u).2=true
     . rw [if_pos e] at h0 ⊢
       exact amM h m _ w1 (w2 e) (i1 e) h0
     . rw [if_neg e] at h0 ⊢
       rcases i2 (by simpa using e) with h4 | h4
       . exact absurd h0 h4
       . exact h4
theorem amH(h:LpU u k0 b0 q p f x n){inp:List Int}(hi:∀v∈inp,I64 v){g:aal}(hm:u.funcs[mainAt u.funcs]?=some g)(hp:g.params=0){m:Nat}(h0:(runR u inp m).state=0) :
 ∃E:Nat,cAt (runR u inp m).cnt k0 b0=n * E∧(E:Int)<=cAt (runR u inp m).cnt k0 p∧(∀y,f.blocks[p]?=some y->y.fin.kind=2->(E:Int)=cAt (runR u inp m).cnt k0 p):=by
 have hw:=ahj h.chk h.num hi hm hp;have aR:∀k b,cAt (RnS.start u inp).cnt k b=if mainAt u.funcs=k∧0=b then 1 else 0:=fun k b=>by
  have bz:∀k b,cAt (u.funcs.map fun f=>List.replicate f.blocks.length (0:Int)) k b=0:=fun k b=>by
   unfold cAt;rw [Aab (i:=k),Aap];cases u.funcs[k]? with
   | none=>rfl
   | some f =>
     show (List.replicate f.blocks.length (0:Int)).getD b 0=0;rw [Aab,List.getElem?_replicate];split <;> rfl
  have bm:ajQ u 0 (u.funcs.map fun f=>List.replicate f.blocks.length (0:Int)):=⟨by rw [Aal],fun k f hf=>⟨_,by rw [Aap,hf];rfl,by rw [Aar],fun v hv=>by rw [Abd hv];omega⟩⟩
  show cAt (ab7 _ _ _) _ _=_;rw [ads bm hm (by have:=(afF h.chk hm).len.1;omega),bz,Int.zero_add]
 have aD:=FrU.far (k0:=k0) (b0:=b0) (q:=q) (p:=p) (x:=x) (n:=n) (t:=⟨mainAt u.funcs,0,0,abf u (mainAt u.funcs) [],-1⟩) (fun e=>h.low e.2.symm);have hinv:alS k0 b0 q p f x n (RnS.start u inp):=by
  refine⟨0,_,0,.cons _ _ 0 0 0 _ _ _ .nil aD (fun d r' e=>by cases e) rfl rfl,?_,?_,fun y hy af=>?_⟩
  . rw [aR,if_neg (fun e=>h.low e.2.symm)];rfl
  . rw [aR]
    dsimp only
    by_cases e:mainAt u.funcs=k0∧0=p
    . rw [if_pos e,if_pos e];decide
    . rw [if_neg e,if_neg e];decide
  . rw [aR]
    dsimp only
    by_cases e:mainAt u.funcs=k0∧0=p
    . rw [if_pos e,if_pos e];rfl
    . rw [if_neg e,if_neg e];rfl
 obtain⟨hf,A,P,E,h1,h2,h3,h4⟩:=amM h m _ hw (by intro e;cases e) hinv h0;rw [hf] at h1;cases h1;exact⟨E,by have bB:cAt (runR u inp m).cnt k0 b0+(0:Nat)=n * E:=h2;omega,by have bC:(E:Int)+(0:Nat)<=cAt (runR u inp m).cnt k0 p:=h3;omega,fun y hy af=>by have bD:(E:Int)+(0:Nat)=cAt (runR u inp m).cnt k0 p:=h4 y hy af;omega⟩
end
end
end Go.Proofs.YtgekbfgplclmeaaDoor
