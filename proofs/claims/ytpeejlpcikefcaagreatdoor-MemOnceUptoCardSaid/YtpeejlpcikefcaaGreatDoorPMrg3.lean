import Derived.Test.YtpeejlpcikefcaaGreatDoorPDelIns
import Derived.Test.YtpeejlpcikefcaaGreatDoorPKeep1
/- slices.Index and slices.Contains of ints. tidy.rename, plain: what comes from one block comes from another one; and what the rows hold meanwhile. tidy.ChainsOf, plain: a block goes into the one ahead of it. tidy.ChainsOf: what the rows hold while one block goes into another one. tidy.ChainsOf: append of one own row onto another one; the steps of a merge, in memory. -/
namespace Go.Proofs.YtpeejlpcikefcaaGreatDoor
section
open Go.RowKit
def ae6(l:List Int)(s:Int):Int:=match l.findIdx? (fun x=>decide (s=x)) with | some k=>k | none => -1
set_option maxHeartbeats 1000000 in
theorem akI {S:Nat->Prop}(ao:Option Addr)(n c:Nat)(l:List Int)(s:Int)(w:World)(h:SlAt S w 1 acx (.slice ao n c) l)(hn:l.length=n)(bk:n<=1048576) :
 Calls Tryz.prog 109 #[.slice ao n c,.int .i64 s] w fun e w'=>e = .returned (.int .i64 (ae6 l s))∧w=w':=by
 have Hh:=hid h;have Hn:=hid hn;clear h hn;go_enter Tryz.func109,Tryz.ntmps109;go_wp2_with fail;go_loop [8] (fun i=>∃k:Nat,k<=n∧i = .int .i64 k∧∀j,j<k->∀x,l[j]?=some x->decide (s=x)=false) (fun i=>n - (intOf i).toNat)
 case atStart=>exact⟨0,Aaj _,rfl,fun j hj=>by omega⟩
 case round =>
  obtain⟨k,hk,rfl,aG⟩:=hrel;have H:=hid aG;clear aG
  by_cases hlt:k<n
  . have aC:k<l.length:=by rw [Hn.out];exact hlt
    obtain⟨b,off,rfl,av⟩:=adw Hh.out aC;obtain⟨x,hx⟩:∃x,l[k]=x:=⟨_,rfl⟩
    rw [hx] at av;have Hx:Hid (l[k]?=some x):=by show _=_;rw [Aaa aC,hx]
    have zb:b<w.heap.size:=aac av;clear hx aC
    by_cases he:s=x
    . have Hi:Hid (ae6 l s=k):=by show _=_;unfold ae6;rw [ad3 Hx.out (decide_eq_true he) H.out]
      have q0:(decide (s<=x)&&decide (x<=s))=true:=amn he;clear he;go_wp2_with fail;go_ret;exact⟨aaK Hi.out.symm,rfl⟩
    . have He:Hid (decide (s=x)=false):=decide_eq_false he
      have q0:(decide (s<=x)&&decide (x<=s))=false:=abI he;clear he;go_wp2_with fail;go_round
      case rel=>exact⟨k+1,by omega,by go_num,abY H.out (fun y hy=>by rw [Hx.out] at hy;cases hy;exact He.out)⟩
      case measure=>simp [intOf];omega
  . have Hi:Hid (ae6 l s = -1):=by
     show _=_;unfold ae6;rw [ad2 (fun j x hx=>H.out j (by have:=(Aad.1 hx).1;have:=Hn.out;omega) x hx)]
    go_wp2_with fail;go_ret;exact⟨aaK Hi.out.symm,rfl⟩
end
section
open Go.RowKit
def cntJ(A:List Int)(t b:Nat)(j:Nat):Nat:=((A.take j).filter fun a=>decide (a<(b:Int))&&decide (a≠(t:Int))).length
variable {A:List Int}{t b:Nat}
theorem apg{j:Nat}{a:Int}(h:A[j]?=some a):cntJ A t b (j+1)=cntJ A t b j+if a<(b:Int)∧a≠(t:Int) then 1 else 0:=by
 unfold cntJ;rw [Acb,h,List.filter_append,Aau]
 congr 1
 by_cases h1:a<(b:Int)∧a≠(t:Int)
 . rw [if_pos h1];simp [h1.1,h1.2]
 . rw [if_neg h1]
   have:(decide (a<(b:Int))&&decide (a≠(t:Int)))=false:=by
    rw [Bool.eq_false_iff];intro e;rw [Abg] at e;exact h1 ⟨of_decide_eq_true e.1,of_decide_eq_true e.2⟩
   rw [Option.toList_some,List.filter_cons_of_neg (by rw [this];exact Bool.false_ne_true)];rfl
theorem asE(A:List Int)(t b j:Nat):cntJ A t b j<=j:=by
 unfold cntJ;exact Aai (Aci _ _) (by rw [Aar];omega)
theorem aph(h:(t:Int)∈A):cntJ A t b A.length+1<=A.length:=by
 unfold cntJ;rw [Aa1];exact List.length_filter_lt_length_iff_exists.2 ⟨(t:Int),h,by simp⟩
theorem ahX {l:List Int}{s:Int}(h:s∈l):∃k:Nat,ae6 l s=(k:Int)∧k<l.length∧l[k]?=some s:=by
 unfold ae6;cases hf:l.findIdx? (fun x=>decide (s=x)) with
 | none =>
   rw [List.findIdx?_eq_none_iff] at hf;have:=hf s h;simp at this
 | some k =>
   rw [Aco] at hf;obtain⟨h1,h2,-⟩:=hf;exact⟨k,rfl,h1,by rw [Aaa h1];have:=of_decide_eq_true h2;rw [<-this]⟩
theorem acB {l:List DBlock}{s u:Nat}{x:Int}:x∈aaf l s u↔∃i y,l[i]?=some y∧(u:Int)∈y.fin.to∧x=((s+i:Nat):Int):=by
 induction l generalizing s with
 | nil=>simp [aaf]
 | cons b l ih =>
   rw [aaf,Aa7,ih];have hh:x∈ae8 b.fin.to u s↔(u:Int)∈b.fin.to∧x=(s:Int):=by
    unfold ae8;rw [Aal];constructor
    . rintro⟨y,hy,rfl⟩
      obtain⟨h1,h2⟩:=List.mem_filter.1 hy;have h3:=of_decide_eq_true h2;exact⟨by rw [<-h3];exact h1,rfl⟩
    . rintro⟨h1,rfl⟩
      exact⟨(u:Int),List.mem_filter.2 ⟨h1,by simp⟩,rfl⟩
   rw [hh];constructor
   . rintro (⟨h1,h2⟩ | ⟨i,y,h1,h2,h3⟩)
     . exact⟨0,b,rfl,h1,by simpa using h2⟩
     . exact⟨i+1,y,by simpa using h1,h2,by rw [h3];congr 1;omega⟩
   . rintro⟨i,y,h1,h2,h3⟩
     cases i with
     | zero=>cases h1;exact .inl ⟨h2,by simpa using h3⟩
     | succ i=>exact .inr ⟨i,y,by simpa using h1,h2,by rw [h3];congr 1;omega⟩
theorem afn : ∀ (l : List DBlock) (s t : Nat), (∀ x ∈ l, x.fin.to.Nodup) -> (aaf l s t).length <= l.length
 | [],_,_,_=>by simp [aaf]
 | b :: l,s,t,h=>by
   rw [aaf,Aau,Aba];have h1:=agh (h b (Aa2 ..)) t s;have h2:=afn l (s+1) t (fun x hx=>h x (Aa0 _ hx));omega
theorem ad9 {l:List DBlock}{i u:Nat}{y:DBlock}(h:l[i]?=some y)(hu:(u:Int)∈y.fin.to):(i:Int)∈aaf l 0 u:=acB.2 ⟨i,y,h,hu,by simp⟩
def arP(A:List Int)(t b:Nat)(l:List aay):List aay:=arF (aqm l (ae6 A (t:Int)).toNat) (cntJ A t b A.length) (l.getD (ae6 A (t:Int)).toNat ⟨false,0⟩)
def as1(A:List Int)(t b:Nat)(p:acn):acn:=⟨p.dst,arP A t b p.src⟩
def afo(A:List Int)(t b:Nat)(x:DBlock)(i:Nat):DBlock:={ x with phis:=x.phis.mapIdx fun m p=>if m<i then as1 A t b p else p }
def ap4(A:List Int)(t b:Nat)(x:DBlock):DBlock:={ x with phis:=x.phis.map (as1 A t b) }
theorem anA(A:List Int)(t b:Nat)(x:DBlock):afo A t b x 0=x:=by
 have:(x.phis.mapIdx fun m p=>if m<0 then as1 A t b p else p)=x.phis:=by
  apply Aap;intro i;rw [aai];simp
 unfold afo;rw [this]
theorem api(A:List Int)(t b:Nat)(x:DBlock):afo A t b x x.phis.length=ap4 A t b x:=by
 have h1:(x.phis.mapIdx fun m p=>if m<x.phis.length then as1 A t b p else p)=x.phis.map (as1 A t b):=by
  apply Aap;intro i;rw [aai,Aak]
  by_cases hi:i<x.phis.length
  . simp only [if_pos hi]
  . rw [Aas (by omega)];rfl
 unfold afo ap4;rw [h1]
theorem apj{x:DBlock}{i:Nat}{p:acn}(hp:x.phis[i]?=some p):aeI (afo A t b x i) i (arP A t b p.src)=afo A t b x (i+1):=by
 have hi:=(Aad.1 hp).1;unfold aeI afo
 congr 1
 apply Aap;intro m;rw [Aa5,Abf,aai,aai]
 by_cases e:i=m
 . subst e
   rw [if_pos rfl,if_pos hi,hp,Aaf,aai,hp];simp [as1]
 . rw [if_neg e]
   congr 1
   funext q
   by_cases h:m<i
   . rw [if_pos h,if_pos (by omega)]
   . rw [if_neg h,if_neg (by omega)]
def ajF(al:Nat->List Int)(t b:Nat)(bs:List DBlock)(u:Int):List DBlock:=bs.set u.toNat (ap4 (al u.toNat) t b (blkOf bs u.toNat))
def agS(bs:List DBlock)(t b:Nat)(k:Nat):List DBlock:=((blkOf bs t).fin.to.take k).foldl (ajF (aaf bs 0) t b) bs
theorem apk{bs:List DBlock}{k:Nat}{u:Int}(h:(blkOf bs t).fin.to[k]?=some u):agS bs t b (k+1)=ajF (aaf bs 0) t b (agS bs t b k) u:=by
 unfold agS;rw [Acb,h,List.foldl_append];rfl
theorem aeG (al : Nat -> List Int) (t b : Nat) : ∀ (l : List Int) (bs : List DBlock), (l.foldl (ajF al t b) bs).length = bs.length
 | [],_=>rfl
 | u :: l,bs=>by rw [List.foldl_cons,aeG al t b l];simp [ajF]
theorem amK(bs:List DBlock)(t b k:Nat):(agS bs t b k).length=bs.length:=aeG _ _ _ _ _
theorem ae7 (al : Nat -> List Int) (t b : Nat) : ∀ (l : List Int) (bs : List DBlock), (∀ u ∈ l, 0 <= u ∧ u < (bs.length : Int)) -> l.Nodup -> ∀ v : Nat, blkOf (l.foldl (ajF al t b) bs) v = if (v : Int) ∈ l then ap4 (al v) t b (blkOf bs v) else blkOf bs v
 | [],bs,_,_,v=>by simp
 | u :: l,bs,h,hn,v=>by
   have hu:=h u (Aa2 ..);have hl:(ajF al t b bs u).length=bs.length:=by simp [ajF]
   rw [List.foldl_cons,ae7 al t b l _ (fun x hx=>by rw [hl];exact h x (Aa0 _ hx)) (List.nodup_cons.1 hn).2 v];have hb:blkOf (ajF al t b bs u) v=if v=u.toNat then ap4 (al u.toNat) t b (blkOf bs u.toNat) else blkOf bs v:=aaT (by omega) _ _
   rw [hb]
   by_cases e:v=u.toNat
   . have aQ:(v:Int)=u:=by omega
     rw [if_pos e,if_neg (by rw [aQ];exact (List.nodup_cons.1 hn).1),if_pos (by rw [aQ];exact Aa2 ..),<-e]
   . have aQ:(v:Int)≠u:=by omega
     rw [if_neg e]
     by_cases hm:(v:Int)∈l
     . rw [if_pos hm,if_pos (Aa0 _ hm)]
     . rw [if_neg hm,if_neg fun h2=>(Aam.1 h2).elim aQ hm]
theorem apl{bs:List DBlock}(hto:∀x∈bs,∀t∈x.fin.to,0<=t∧t<(bs.length:Int))(aE:∀x∈bs,x.fin.to.Nodup)(ht:t<bs.length)(b k v:Nat):blkOf (agS bs t b k) v=if (v:Int)∈(blkOf bs t).fin.to.take k then ap4 (aaf bs 0 v) t b (blkOf bs v) else blkOf bs v:=by
 have hm:=Aae (aap bs ht);exact ae7 _ _ _ _ _ (fun u hu=>hto _ hm u (List.mem_of_mem_take hu)) ((aE _ hm).sublist (List.take_sublist _ _)) v
def afU (bs : List DBlock) (V : Pth -> Value) (C : Pth -> List (List Value)) : Pth -> List (List Value)
 | .src u i=>aae bs V (.src u i)
 | q=>C q
section
variable {W3 W W' : World} {base : Nat} {X : Nat -> Prop} {ok : Pth -> Prop} {V : Pth -> Value} {C : Pth -> List (List Value)} {bs : List DBlock}
theorem abB.srcSame {u i g P c pn pc m : Nat} {d : Value} (h : abB W3 W base X ok V (afU bs V C)) (hu : u < bs.length) (hi : i < (blkOf bs u).phis.length) (ae : ok (.src u i)) (aR : ok (.phis u)) (hv : V (.src u i) = .slice (some ⟨g, 0, none⟩) m c) (hp : V (.phis u) = .slice (some ⟨P, 0, none⟩) pn pc)
 (hc:(C (.phis u))[i]?=some [d,V (.src u i)]) {l:List aay} (hl:l.length=m) (ho:W'.ownsRow base 41 2 (.slice (some ⟨g,0,none⟩) m c) m (l.map aaA).flatten) (hg:W.grownBy W' (some g)) :
 abB W3 (W'.setCell ⟨P,i * 2+1,none⟩ (.slice (some ⟨g,0,none⟩) m c)) base X ok V (afU (bs.set u (aeI (blkOf bs u) i l)) V C):=by
 have h1:=h.turn (p := .src u i) ae (v' := .slice (some ⟨g,0,none⟩) m c) (xss:=l.map aaA) (by rw [Aah,hl];exact ho) (ab8 l) (by rw [hv];exact hg) (fun k hk=>by rw [hv];exact .inl hk);have h2:=h1.set (p := .phis u) aR (g:=P) (n:=pn) (c:=pc) (i:=i) (j:=1) (by rw [aag _ _ (by simp)];exact hp) (cs:=[d,V (.src u i)]) (by rw [aag _ _ (by simp)];exact hc) (by simp [Pth.sz]) (.slice (some ⟨g,0,none⟩) m c);refine h2.congr (fun q _=>?_) (fun q _=>?_)
 . by_cases e:q = .src u i
   . subst e;rw [aaj,hv]
   . rw [aag _ _ e]
 . by_cases e:q = .phis u
   . subst e
     rw [aaj,aag _ _ (by simp)];show C (.phis u)=(C (.phis u)).set i _;rw [<-hv];exact (abV hc).symm
   . rw [aag _ _ e]
     cases q with
     | src v j =>
       by_cases e2:v=u∧j=i
       . obtain⟨rfl,rfl⟩:=e2
         rw [aaj];simp only [afU,aae];rw [aaT hu,if_pos rfl];simp only [aeI];rw [Aaf,Aa6 hi];rfl
       . rw [aag _ _ (by simp;intro h3 h4;exact e2 ⟨h3,h4⟩)]
         simp only [afU,aae];rw [aaT hu]
         by_cases e3:v=u
         . subst e3
           rw [if_pos rfl];simp only [aeI];rw [Aaf,Ack (fun h5=>e2 ⟨rfl,h5.symm⟩),<-Aaf]
         . rw [if_neg e3]
     | _=>exact (aag _ _ (by simp)).symm
end
end
section
open Go.RowKit
def adv:DBlock:=⟨[],[],⟨1,⟨false,0⟩,[]⟩⟩
def toJ(bs:List DBlock)(b:Nat):Nat:=((blkOf bs b).fin.to.getD 0 0).toNat
def aca(bs:List DBlock)(b:Nat):Bool:=decide ((blkOf bs b).fin.kind=2)&&decide (toJ bs b≠b)&&decide ((blkOf bs (toJ bs b)).phis.length=0)&&decide ((aaf bs 0 (toJ bs b)).length<=1)
def adF(bs:List DBlock)(t b:Nat):List DBlock:=agS bs t b (blkOf bs t).fin.to.length
def ag6(bs:List DBlock)(t b:Nat):DBlock:=⟨(blkOf (adF bs t b) b).phis,(blkOf bs b).list++(blkOf bs t).list,(blkOf bs t).fin⟩
def aaL(bs:List DBlock)(b:Nat):List DBlock:=((adF bs (toJ bs b) b).set b (ag6 bs (toJ bs b) b)).set (toJ bs b) adv
def jN(bs:List DBlock):Nat:=bs.countP fun x=>decide (x.fin.kind=2)
def abL : Nat -> List DBlock -> Nat -> List DBlock
 | 0,bs,_=>bs
 | f+1,bs,b=>if aca bs b=true then abL f (aaL bs b) b else bs
def abA(bs:List DBlock)(k:Nat):List DBlock:=(List.range k).foldl (fun l b=>abL (jN l) l b) bs
def acC(bs:List DBlock):List DBlock:=abA bs bs.length
theorem abn(bs:List DBlock)(k:Nat):abA bs (k+1)=abL (jN (abA bs k)) (abA bs k) k:=by
 unfold abA;rw [List.range_succ,List.foldl_append];rfl
structure afA (bs:List DBlock):Prop where
 ok:acU bs
 jump:∀x∈bs,x.fin.kind=2->x.fin.to.length=1
 sum:(bs.map fun x=>x.list.length).sum<=1048576
def asF(u:Nat)(x:DBlock):Bool:=decide ((u:Int)∈x.fin.to)
theorem anB {tg:List Int}(h:tg.Nodup)(u i:Nat):(ae8 tg u i).length=if (u:Int)∈tg then 1 else 0:=by
 have h1:=agh h u i
 by_cases hm:(u:Int)∈tg
 . rw [if_pos hm]
   have:0<(ae8 tg u i).length:=by
    unfold ae8;rw [Aah];exact List.length_pos_of_mem (List.mem_filter.2 ⟨hm,by simp⟩)
   omega
 . rw [if_neg hm]
   unfold ae8;rw [Aah,Acd,List.filter_eq_nil_iff];intro a ha h2;have:=of_decide_eq_true h2;exact hm (by rw [<-this];exact ha)
theorem afp : ∀ (l : List DBlock) (s u : Nat), (∀ x ∈ l, x.fin.to.Nodup) -> (aaf l s u).length = l.countP (asF u)
 | [],_,_,_=>by simp [aaf]
 | b :: l,s,u,h=>by
   rw [aaf,Aau,anB (h b (Aa2 ..)),afp l (s+1) u (fun x hx=>h x (Aa0 _ hx)),List.countP_cons,Nat.add_comm]
   congr 1
   unfold asF
   by_cases hm:(u:Int)∈b.fin.to
   . simp [hm]
   . simp [hm]
theorem abR {bs:List DBlock}{x:DBlock}(h:x∈bs):∃c,c<bs.length∧x=blkOf bs c:=by
 obtain⟨i,hi,rfl⟩:=Aav h;exact⟨i,hi,(aa2 (Aaa hi)).symm⟩
theorem aas {bs:List DBlock}{c:Nat}(h:c<bs.length):blkOf bs c∈bs:=Aae (aap bs h)
theorem acV {bs:List DBlock}{c:Nat}(h:c<bs.length):bs[c]=blkOf bs c:=(aa2 (Aaa h)).symm
section
variable {bs : List DBlock} {t b : Nat}
theorem abo(bs:List DBlock)(t b:Nat):(adF bs t b).length=bs.length:=amK _ _ _ _
theorem alO(ae:acU bs)(ht:t<bs.length)(c:Nat):blkOf (adF bs t b) c=if (c:Int)∈(blkOf bs t).fin.to then ap4 (aaf bs 0 c) t b (blkOf bs c) else blkOf bs c:=by
 unfold adF;rw [apl ae.toIn ae.toNd ht,Aa1]
theorem aaR(ae:acU bs)(ht:t<bs.length)(c:Nat):(blkOf (adF bs t b) c).fin=(blkOf bs c).fin∧(blkOf (adF bs t b) c).list=(blkOf bs c).list∧(blkOf (adF bs t b) c).phis.length=(blkOf bs c).phis.length:=by
 rw [alO ae ht];split
 . exact⟨rfl,rfl,by simp [ap4]⟩
 . exact⟨rfl,rfl,rfl⟩
theorem ahY(ae:acU bs)(ht:t<bs.length)(p:asX->Bool):(adF bs t b).countP (fun x=>p x.fin)=bs.countP (fun x=>p x.fin):=by
 have e:(adF bs t b).map (·.fin)=bs.map (·.fin):=by
  apply Aap;intro i;rw [Aak,Aak]
  by_cases hi:i<bs.length
  . rw [aap bs hi,aap (adF bs t b) (by rw [abo];exact hi),Aaw,Aaw,(aaR ae ht i).1]
  . rw [Aas (by rw [abo];omega),Aas (by omega)]
 have h:=congrArg (List.countP p) e;rw [List.countP_map,List.countP_map] at h;exact h
theorem aaV(bs:List DBlock)(b:Nat):(aaL bs b).length=bs.length:=by unfold aaL;rw [Aat,Aat,abo]
theorem afV(hb:b<bs.length)(ht:toJ bs b<bs.length)(c:Nat):blkOf (aaL bs b) c=if c=toJ bs b then adv else if c=b then ag6 bs (toJ bs b) b else blkOf (adF bs (toJ bs b) b) c:=by
 unfold aaL;rw [aaT (by rw [Aat,abo];exact ht),aaT (by rw [abo];exact hb)]
theorem abh(ae:afA bs)(hb:b<bs.length)(h:aca bs b=true):(blkOf bs b).fin.kind=2∧toJ bs b≠b∧(blkOf bs (toJ bs b)).phis=[]∧(blkOf bs b).fin.to=[((toJ bs b:Nat):Int)]∧toJ bs b<bs.length∧(∀c,c<bs.length->((toJ bs b:Nat):Int)∈(blkOf bs c).fin.to->c=b):=by
 unfold aca at h;simp only [Abg,decide_eq_true_eq] at h;obtain⟨⟨⟨h1,h2⟩,h3⟩,h4⟩:=h;have hl:=ae.jump _ (aas hb) h1;have hto:(blkOf bs b).fin.to=[((toJ bs b:Nat):Int)]∧toJ bs b<bs.length:=by
  match hh:(blkOf bs b).fin.to,hl with
  | [u],_ =>
    have hu:=ae.ok.toIn _ (aas hb) u (by rw [hh];simp);have e:((toJ bs b:Nat):Int)=u:=by unfold toJ;rw [hh];simp;omega
    exact⟨by rw [e],by omega⟩
 refine⟨h1,h2,Aa9 h3,hto.1,hto.2,fun c hc hm=>?_⟩;have aS:=ad9 (u:=toJ bs b) (aap bs hb) (by rw [hto.1];simp);have aY:=ad9 (u:=toJ bs b) (aap bs hc) hm
 match hh:aaf bs 0 (toJ bs b),h4 with
 | [],_=>rw [hh] at aS;exact absurd aS (Aao)
 | [x],_ =>
   rw [hh,Aax] at aS aY;omega
theorem ag7(ae:afA bs)(hb:b<bs.length)(h:aca bs b=true):jN (aaL bs b)+1=jN bs:=by
 obtain⟨h1,h2,-,-,h5,-⟩:=abh ae hb h;have hr:=ahY (b:=b) ae.ok h5 (fun x=>decide (x.kind=2));have ak:b<(adF bs (toJ bs b) b).length:=by rw [abo];exact hb
 have aq:toJ bs b<((adF bs (toJ bs b) b).set b (ag6 bs (toJ bs b) b)).length:=by rw [Aat,abo];exact h5
 have e1:(adF bs (toJ bs b) b)[b].fin.kind=2:=by rw [acV ak,(aaR ae.ok h5 b).1];exact h1
 have e2:(((adF bs (toJ bs b) b).set b (ag6 bs (toJ bs b) b))[toJ bs b]'aq).fin.kind=(blkOf bs (toJ bs b)).fin.kind:=by
  rw [acV aq,aaT ak,if_neg h2,(aaR ae.ok h5 _).1]
 have aU:0<(adF bs (toJ bs b) b).countP (fun x=>decide (x.fin.kind=2)):=List.countP_pos_iff.2 ⟨_,Aaq ak,by simp [e1]⟩;have e3:(ag6 bs (toJ bs b) b).fin=(blkOf bs (toJ bs b)).fin:=rfl;unfold jN aaL;rw [List.countP_set aq,List.countP_set ak,hr];rw [hr] at aU;simp only [e1,e2,e3,adv]
 by_cases hk:(blkOf bs (toJ bs b)).fin.kind=2
 . simp [hk];omega
 . simp [hk];omega
theorem ahZ(ae:afA bs)(hb:b<bs.length)(h:aca bs b=true){c:Nat}(hc:c≠toJ bs b)(aE:∀x∈aaL bs b,x.fin.to.Nodup):(aaf (aaL bs b) 0 c).length=(aaf bs 0 c).length:=by
 obtain⟨h1,h2,-,h4,h5,h6⟩:=abh ae hb h;have hr:=ahY (b:=b) ae.ok h5 (fun x=>decide ((c:Int)∈x.to));have ak:b<(adF bs (toJ bs b) b).length:=by rw [abo];exact hb
 have aq:toJ bs b<((adF bs (toJ bs b) b).set b (ag6 bs (toJ bs b) b)).length:=by rw [Aat,abo];exact h5
 have e1:(adF bs (toJ bs b) b)[b].fin.to=[((toJ bs b:Nat):Int)]:=by rw [acV ak,(aaR ae.ok h5 b).1];exact h4
 have e2:(((adF bs (toJ bs b) b).set b (ag6 bs (toJ bs b) b))[toJ bs b]'aq).fin.to=(blkOf bs (toJ bs b)).fin.to:=by
  rw [acV aq,aaT ak,if_neg h2,(aaR ae.ok h5 _).1]
 rw [afp _ _ _ aE,afp _ _ _ ae.ok.toNd];have e3:(ag6 bs (toJ bs b) b).fin=(blkOf bs (toJ bs b)).fin:=rfl;have aB:¬((c:Int)∈[((toJ bs b:Nat):Int)]):=by
  rw [Aax];omega
 unfold aaL asF;rw [List.countP_set aq,List.countP_set ak,hr];simp only [e1,e2,e3,adv,aB,Aao,decide_false,Aca,if_false,Nat.sub_zero,Nat.add_zero]
 by_cases hm:(c:Int)∈(blkOf bs (toJ bs b)).fin.to
 . simp only [hm,decide_true,if_true];omega
 . simp only [hm,decide_false,Aca,if_false];omega
end
theorem aq0 {A:List Int}{t b:Nat}{l:List aay}(h:(t:Int)∈A)(hl:l.length=A.length):(arP A t b l).length=l.length:=by
 obtain⟨k,h1,h2,-⟩:=ahX h;have h3:=aph (b:=b) h;unfold arP;rw [h1,Aan,amj (by rw [ajp (by omega)];omega),ajp (by omega)];omega
theorem aq1 {A:List Int}{t b:Nat}{l:List aay}(h:(t:Int)∈A)(hl:l.length=A.length){v:aay}(hv:v∈arP A t b l):v∈l:=by
 obtain⟨k,h1,h2,-⟩:=ahX h;unfold arP at hv;rw [h1,Aan] at hv;have hd:∀v,v∈aqm l k->v∈l:=fun v hv=>by
  unfold aqm at hv;rcases Aa7.1 hv with h | h
  . exact List.mem_of_mem_take h
  . exact List.mem_of_mem_drop h
 unfold arF at hv;rcases Aa7.1 hv with hv | hv
 . rcases Aa7.1 hv with hv | hv
   . exact hd v (List.mem_of_mem_take hv)
   . rw [Aax] at hv
     rw [hv,Aaf,Aaa (by omega)];exact Aaq _
 . exact hd v (List.mem_of_mem_drop hv)
theorem adg {α : Type} (f : α -> Nat) : ∀ (l : List α) (i : Nat) (a : α) (h : i < l.length), ((l.set i a).map f).sum + f l[i] = (l.map f).sum + f a
 | x :: l,0,a,_=>by simp;omega
 | x :: l,i+1,a,h=>by
   have:=adg f l i a (by simpa using h);simp only [List.set_cons_succ,Aa3,List.sum_cons,List.getElem_cons_succ];omega
theorem ai4 {α : Type} (f : α -> Nat) : ∀ {l : List α} {x : α}, x ∈ l -> f x <= (l.map f).sum
 | y :: l,x,h=>by
   rw [Aa3,List.sum_cons];rcases Aam.1 h with rfl | h
   . omega
   . have:=ai4 f h;omega
section
variable {bs : List DBlock} {t b : Nat}
theorem ah0(ae:acU bs)(ht:t<bs.length){c:Nat}(hc:c<bs.length){p:acn}(hp:p∈(blkOf (adF bs t b) c).phis):∃p0∈(blkOf bs c).phis,p.dst=p0.dst∧p.src.length=p0.src.length∧∀v∈p.src,v∈p0.src:=by
 rw [alO ae ht] at hp;split at hp
 . rename_i hm
   obtain⟨p0,h0,rfl⟩:=Aal.1 hp;have hA:=ad9 (aap bs ht) hm;have hl:=ae.src c hc p0 h0;exact⟨p0,h0,rfl,aq0 hA hl,fun v hv=>aq1 hA hl hv⟩
 . exact⟨p,hp,rfl,rfl,fun v hv=>hv⟩
theorem abS(hb:b<bs.length)(ht:toJ bs b<bs.length)(c:Nat):(c=toJ bs b∧blkOf (aaL bs b) c=adv)∨(c≠toJ bs b∧c=b∧blkOf (aaL bs b) c=ag6 bs (toJ bs b) b)∨(c≠toJ bs b∧c≠b∧blkOf (aaL bs b) c=blkOf (adF bs (toJ bs b) b) c):=by
 rw [afV hb ht]
 by_cases h1:c=toJ bs b
 . exact .inl ⟨h1,if_pos h1⟩
 . rw [if_neg h1]
   by_cases h2:c=b
   . exact .inr (.inl ⟨h1,h2,if_pos h2⟩)
   . exact .inr (.inr ⟨h1,h2,if_neg h2⟩)
theorem apm(ae:afA bs)(hb:b<bs.length)(h:aca bs b=true):((aaL bs b).map fun x=>x.list.length).sum=(bs.map fun x=>x.list.length).sum:=by
 obtain⟨h1,h2,-,-,h5,-⟩:=abh ae hb h;have ak:b<(adF bs (toJ bs b) b).length:=by rw [abo];exact hb
 have aq:toJ bs b<((adF bs (toJ bs b) b).set b (ag6 bs (toJ bs b) b)).length:=by rw [Aat,abo];exact h5
 have hr:(adF bs (toJ bs b) b).map (fun x=>x.list.length)=bs.map (fun x=>x.list.length):=by
  apply Aap;intro i;rw [Aak,Aak]
  by_cases hi:i<bs.length
  . rw [aap bs hi,aap (adF bs (toJ bs b) b) (by rw [abo];exact hi),Aaw,Aaw,(aaR ae.ok h5 i).2.1]
  . rw [Aas (by rw [abo];omega),Aas (by omega)]
 have s1:=adg (fun x:DBlock=>x.list.length) (adF bs (toJ bs b) b) b (ag6 bs (toJ bs b) b) ak;have s2:=adg (fun x:DBlock=>x.list.length) ((adF bs (toJ bs b) b).set b (ag6 bs (toJ bs b) b)) (toJ bs b) adv aq;rw [acV ak,(aaR ae.ok h5 b).2.1,hr] at s1;rw [acV aq,aaT ak,if_neg h2,(aaR ae.ok h5 _).2.1] at s2;have s3:(ag6 bs (toJ bs b) b).list.length=(blkOf bs b).list.length+(blkOf bs (toJ bs b)).list.length:=by simp [ag6]
 have s4:adv.list.length=0:=rfl;unfold aaL;omega
theorem ac9(ae:afA bs)(hb:b<bs.length)(h:aca bs b=true):afA (aaL bs b):=by
 obtain⟨h1,h2,h3,h4,h5,h6⟩:=abh ae hb h;have aM:=apm ae hb h;have af:∀c,c<bs.length->(blkOf (aaL bs b) c).fin=adv.fin∨∃d,d<bs.length∧(blkOf (aaL bs b) c).fin=(blkOf bs d).fin:=fun c hc=>by
  rcases abS hb h5 c with⟨-,e⟩ | ⟨-,-,e⟩ | ⟨-,-,e⟩
  . exact .inl (by rw [e])
  . exact .inr ⟨_,h5,by rw [e];rfl⟩
  . exact .inr ⟨c,hc,by rw [e,(aaR ae.ok h5 c).1]⟩
 have ai:∀c,c<bs.length->∀p∈(blkOf (aaL bs b) c).phis,c≠toJ bs b∧∃p0∈(blkOf bs c).phis,p.dst=p0.dst∧p.src.length=p0.src.length∧∀v∈p.src,v∈p0.src:=fun c hc p hp=>by
  rcases abS hb h5 c with⟨-,e⟩ | ⟨e0,rfl,e⟩ | ⟨e0,-,e⟩
  . rw [e] at hp;exact absurd hp (Aao)
  . rw [e] at hp;exact⟨e0,ah0 ae.ok h5 hc hp⟩
  . rw [e] at hp;exact⟨e0,ah0 ae.ok h5 hc hp⟩
 have aw:∀c,c<bs.length->∀y∈(blkOf (aaL bs b) c).list,∃d,d<bs.length∧y∈(blkOf bs d).list:=fun c hc y hy=>by
  rcases abS hb h5 c with⟨-,e⟩ | ⟨-,rfl,e⟩ | ⟨-,-,e⟩
  . rw [e] at hy;exact absurd hy (Aao)
  . rw [e] at hy
    rcases Aa7.1 (show y∈_++_ from hy) with hy | hy
    . exact⟨c,hc,hy⟩
    . exact⟨_,h5,hy⟩
  . rw [e,(aaR ae.ok h5 c).2.1] at hy;exact⟨c,hc,hy⟩
 have hlen:=aaV bs b;have aE:∀x∈aaL bs b,x.fin.to.Nodup:=fun x hx=>by
  obtain⟨c,hc,rfl⟩:=abR hx;rw [hlen] at hc;rcases af c hc with e | ⟨d,hd,e⟩
  . rw [e];simp [adv]
  . rw [e];exact ae.ok.toNd _ (aas hd)
 refine⟨⟨by rw [hlen];exact ae.ok.len,fun x hx=>?_,fun x hx=>?_,fun x hx=>?_,fun x hx=>?_,aE,fun c hc p hp=>?_⟩,fun x hx=>?_,by rw [aM];exact ae.sum⟩
 . obtain⟨c,hc,rfl⟩:=abR hx
   rw [hlen] at hc;refine⟨?_,?_,?_,fun p hp=>?_,fun y hy=>?_⟩
   . rcases af c hc with e | ⟨d,hd,e⟩
     . rw [e];exact⟨by decide,by decide⟩
     . rw [e];exact (ae.ok.num _ (aas hd)).kind
   . rcases af c hc with e | ⟨d,hd,e⟩
     . rw [e];exact⟨by decide,by decide⟩
     . rw [e];exact (ae.ok.num _ (aas hd)).on
   . rcases af c hc with e | ⟨d,hd,e⟩
     . rw [e];intro u hu;exact absurd hu (Aao)
     . rw [e];exact (ae.ok.num _ (aas hd)).to
   . obtain⟨-,p0,h0,e1,-,e3⟩:=ai c hc p hp
     have hn:=(ae.ok.num _ (aas hc)).phi p0 h0;exact⟨by rw [e1];exact hn.1,fun v hv=>hn.2 v (e3 v hv)⟩
   . obtain⟨d,hd,aT⟩:=aw c hc y hy
     exact (ae.ok.num _ (aas hd)).ins y aT
 . have a6:=ai4 (fun x:DBlock=>x.list.length) hx
   obtain⟨c,hc,rfl⟩:=abR hx;rw [hlen] at hc;refine⟨?_,?_,?_,fun p hp=>?_,fun y hy=>?_⟩
   . rcases abS hb h5 c with⟨-,e⟩ | ⟨-,rfl,e⟩ | ⟨-,-,e⟩
     . rw [e];exact Aaj _
     . rw [e];show (blkOf (adF bs (toJ bs c) c) c).phis.length<=_;rw [(aaR ae.ok h5 c).2.2];exact (ae.ok.small _ (aas hc)).phis
     . rw [e,(aaR ae.ok h5 c).2.2];exact (ae.ok.small _ (aas hc)).phis
   . exact Aai a6 (by rw [aM];exact ae.sum)
   . rcases af c hc with e | ⟨d,hd,e⟩
     . rw [e];exact Aaj _
     . rw [e];exact (ae.ok.small _ (aas hd)).to
   . obtain⟨-,p0,h0,-,e2,-⟩:=ai c hc p hp
     rw [e2];exact (ae.ok.small _ (aas hc)).src p0 h0
   . obtain⟨d,hd,aT⟩:=aw c hc y hy
     exact (ae.ok.small _ (aas hd)).args y aT
 . obtain⟨c,hc,rfl⟩:=abR hx
   rw [hlen] at hc;rcases af c hc with e | ⟨d,hd,e⟩
   . rw [e];exact Aaj _
   . rw [e];exact ae.ok.to2 _ (aas hd)
 . obtain⟨c,hc,rfl⟩:=abR hx
   rw [hlen] at hc ⊢;rcases af c hc with e | ⟨d,hd,e⟩
   . rw [e];intro u hu;exact absurd hu (Aao)
   . rw [e];exact ae.ok.toIn _ (aas hd)
 . rw [hlen] at hc
   obtain⟨e0,p0,h0,-,e2,-⟩:=ai c hc p hp;rw [e2,ahZ ae hb h e0 aE];exact ae.ok.src c hc p0 h0
 . obtain⟨c,hc,rfl⟩:=abR hx
   rw [hlen] at hc;rcases af c hc with e | ⟨d,hd,e⟩
   . rw [e];intro hk;exact absurd hk (by decide)
   . rw [e];exact ae.jump _ (aas hd)
end
end
section
open Go.RowKit
def atB(bs:List DBlock)(b t:Nat):DBlock:={ blkOf bs b with list:=(blkOf bs b).list++(blkOf bs t).list }
def ago(bs:List DBlock)(V:Pth->Value)(b t:Nat):Pth->List (List Value):=aaU (aae bs V) (.list b) (aae bs V (.list b)++aae bs V (.list t))
variable {bs:List DBlock}{V:Pth->Value}{b:Nat}
theorem abq{t:Nat}(q:Pth)(h:∀i,q ≠ .list i):ago bs V b t q=aae bs V q:=aag _ _ (h b)
theorem amL(bs:List DBlock)(b t:Nat)(hb:b<bs.length)(i:Nat):(blkOf (bs.set b (atB bs b t)) i).fin=(blkOf bs i).fin:=by
 rw [aaT hb];split
 . rename_i e;subst e;rfl
 . rfl
variable {W:World}{base:Nat}
theorem anC{t:Nat}(h:aah W base (okP bs) V (ago bs V b t))(hn:∀x∈bs,aos x)(hb:b<bs.length)(ht:t<bs.length) :
 SlAt (fun x=>base<=x∧x<W.heap.size) W 6 aa0 (V .blks) (bs.set b (atB bs b t)):=by
 have aV:∀c,blkOf (bs.set b (atB bs b t)) c=if c=b then atB bs b t else blkOf bs c:=aaT hb _
 refine aah.read (r:=aa0) h (p := .blks) trivial (by rw [abq _ (by simp)];simp [aae]) (fun c x hx=>?_);have hc:c<bs.length:=by have:=(Aad.1 hx).1;simpa using this
 have aO:=aa2 hx;have ax:=hn _ (aas hc);have af:x.fin=(blkOf bs c).fin:=by rw [<-aO,amL bs b t hb]
 have ai:x.phis=(blkOf bs c).phis:=by
  rw [<-aO,aV];split
  . rename_i e;subst e;rfl
  . rfl
 refine⟨_,by rw [abq _ (by simp)];show (bs.mapIdx _)[c]?=_;rw [aai,aap bs hc];rfl,V (.phis c),V (.list c),_,rfl,?_,?_,V (.to c),by rw [af],?_,by rw [af];exact ax.kind,by rw [af];exact ax.on⟩
 . refine aah.read (r:=amd) h (p := .phis c) hc (by rw [abq _ (by simp),ai];simp [aae]) (fun i p hp=>?_)
   rw [ai] at hp;refine⟨_,by rw [abq _ (by simp)];show ((blkOf bs c).phis.mapIdx _)[i]?=_;rw [aai,hp];rfl,V (.src c i),rfl,?_,(ax.phi p (Aae hp)).1⟩;have aI:(blkOf bs c).phis.getD i abu=p:=by rw [Aaf,hp];rfl
   refine aah.read (r:=agd) h (p := .src c i) (show i<(blkOf bs c).phis.length from (Aad.1 hp).1) (by rw [abq _ (by simp)];simp only [aae];rw [aI,Aah]) (fun j v hv=>?_);exact⟨aaA v,by rw [abq _ (by simp)];simp only [aae];rw [aI,Aak,hv];rfl,rfl,(ax.phi p (Aae hp)).2 v (Aae hv)⟩
 . have ins:∀d,d<bs.length->∀i y,(blkOf bs d).list[i]?=some y->acb (fun x=>base<=x∧x<W.heap.size) W (abN y (V (.args d i))) y:=fun d hd i y hy=>by
    obtain⟨n1,n2,n3,n4,n5,n6⟩:=(hn _ (aas hd)).ins y (Aae hy);refine⟨_,rfl,?_,n1,n2,n3,n4,n5⟩;have aI:(blkOf bs d).list.getD i abM=y:=by rw [Aaf,hy];rfl
    refine aah.read (r:=agd) h (p := .args d i) (show i<(blkOf bs d).list.length from (Aad.1 hy).1) (by rw [abq _ (by simp)];simp only [aae];rw [aI,Aah]) (fun j v hv=>?_);exact⟨aaA v,by rw [abq _ (by simp)];simp only [aae];rw [aI,Aak,hv];rfl,rfl,n6 v (Aae hv)⟩
   by_cases e:c=b
   . subst e
     have aL:x.list=(blkOf bs c).list++(blkOf bs t).list:=by rw [<-aO,aV,if_pos rfl];rfl
     have hC:ago bs V c t (.list c)=((blkOf bs c).list.mapIdx fun i x=>abN x (V (.args c i)))++((blkOf bs t).list.mapIdx fun i x=>abN x (V (.args t i))):=by unfold ago;rw [aaj];rfl
     refine aah.read (r:=acb) h (p := .list c) hc (by rw [hC,aL];simp) (fun i y hy=>?_);rw [aL] at hy;rw [hC]
     by_cases hi:i<(blkOf bs c).list.length
     . rw [Abj hi] at hy
       exact⟨_,by rw [Abj (by simpa using hi),aai,hy];rfl,ins c hc i y hy⟩
     . rw [Abu (by omega)] at hy
       refine⟨_,by rw [Abu (by simp;omega),Abf,aai,hy];rfl,ins t ht _ y hy⟩
   . have aL:x.list=(blkOf bs c).list:=by rw [<-aO,aV,if_neg e]
     have hC:ago bs V b t (.list c)=aae bs V (.list c):=aag _ _ (by simp [e]);refine aah.read (r:=acb) h (p := .list c) hc (by rw [hC,aL];simp [aae]) (fun i y hy=>?_);rw [aL] at hy;rw [hC];exact⟨_,by show ((blkOf bs c).list.mapIdx _)[i]?=_;rw [aai,hy];rfl,ins c hc i y hy⟩
 . refine aah.read (r:=acx) h (p := .to c) hc (by rw [abq _ (by simp),af];simp [aae]) (fun i u hu=>?_)
   rw [af] at hu;exact⟨[.int .i64 u],by rw [abq _ (by simp)];show ((blkOf bs c).fin.to.map _)[i]?=_;rw [Aak,hu];rfl,rfl,ax.to u (Aae hu)⟩
def ais (bs : List DBlock) (b t : Nat) : Pth -> Pth
 | .to c=>if c=b then .to t else .to c
 | .args c i=>if c=b∧(blkOf bs b).list.length<=i then .args t (i - (blkOf bs b).list.length) else .args c i
 | q=>q
def ap5(bs:List DBlock)(b t:Nat)(V:Pth->Value):Pth->Value:=aaU (aaU (aaU (fun q=>V (ais bs b t q)) (.phis t) (.slice none 0 0)) (.list t) (.slice none 0 0)) (.to t) (.slice none 0 0)
theorem abB.map{W3:World}{X:Nat->Prop}{ok ok':Pth->Prop}{C:Pth->List (List Value)}(h:abB W3 W base X ok V C)(f:Pth->Pth)(ht:∀p,(f p).ty=p.ty∧(f p).sz=p.sz)(ho:∀p,ok' p->ok (f p))(hi:∀p q,ok' p->ok' q->f p=f q->p=q):abB W3 W base X ok' (fun p=>V (f p)) (fun p=>C (f p)) :=
 ⟨h.rows.map f ht ho hi,fun p hp=>h.off (f p) (ho p hp),h.low,h.kept,h.old,h.le⟩
theorem anD{W3:World}  {X : Nat -> Prop}  {V : Pth -> Value}  {C : Pth -> List (List Value)} (ae : afA bs) (hb : b < bs.length) (hm : aca bs b = true)
 (h:abB W3 W base X (okP bs) V C) (hC:∀q,q ≠ .blks->C q=afU (adF bs (toJ bs b) b) V (ago bs V b (toJ bs b)) q)
 (hblk:C .blks=((aae bs V .blks).set b (abd (ag6 bs (toJ bs b) b) (V (.phis b)) (V (.list b)) (V (.to (toJ bs b))))).set (toJ bs b) (abd adv (.slice none 0 0) (.slice none 0 0) (.slice none 0 0))) :
 abB W3 W base X (okP (aaL bs b)) (ap5 bs b (toJ bs b) V) (aae (aaL bs b) (ap5 bs b (toJ bs b) V)):=by
 obtain⟨h1,h2,h3,h4,h5,h6⟩:=abh ae hb hm;obtain⟨t,ht⟩:∃t,t=toJ bs b:=⟨_,rfl⟩
 rw [<-ht] at h2 h3 h5 hC hblk ⊢;have ah:∀c,blkOf (aaL bs b) c=if c=t then adv else if c=b then ag6 bs t b else blkOf (adF bs t b) c:=fun c=>by rw [ht];exact afV hb (by rw [<-ht];exact h5) c
 have aj:=fun c=>aaR (b:=b) ae.ok h5 c;have hl:=aaV bs b;have aA:∀c,c≠t->(blkOf (aaL bs b) c).phis=(blkOf (adF bs t b) c).phis:=fun c hc=>by
  rw [ah,if_neg hc];split
  . rename_i e;subst e;rfl
  . rfl
 have aX := h.map (ok' := fun q => okP (aaL bs b) q ∧ q ≠ .phis t ∧ q ≠ .list t ∧ q ≠ .to t) (ais bs b t) (fun p => by
  cases p <;> first
   | exact ⟨rfl, rfl⟩
   | (simp only [ais]; split <;> exact ⟨rfl, rfl⟩)) (fun q hq => by
  obtain ⟨hq, n1, n2, n3⟩ := hq
  cases q with
  | blks => exact trivial
  | phis c => have : c < _ := hq; show c < bs.length; omega
  | src c i =>
    have ag : i < (blkOf (aaL bs b) c).phis.length := hq
    by_cases hc : c = t
    . rw [ah, if_pos hc] at ag; exact absurd ag (Aa4 _)
    . rw [aA c hc, (aj c).2.2] at ag; exact ag
  | list c => have : c < _ := hq; show c < bs.length; omega
  | args c i =>
    have ag : i < (blkOf (aaL bs b) c).list.length := hq
    rw [ah] at ag
    by_cases hc : c = t
    . rw [if_pos hc] at ag; exact absurd ag (Aa4 _)
    . rw [if_neg hc] at ag
      by_cases aB : c = b
      . rw [if_pos aB] at ag
        have bg : i < ((blkOf bs b).list ++ (blkOf bs t).list).length := ag
        rw [Aau] at bg
        simp only [ais]
        by_cases hi : (blkOf bs b).list.length <= i
        . rw [if_pos ⟨aB, hi⟩]; show _ < _; omega
        . rw [if_neg (fun h => hi h.2), aB]; show _ < _; omega
      . rw [if_neg aB, (aj c).2.1] at ag
        simp only [ais]
        rw [if_neg (fun h => aB h.1)]; exact ag
  | «to» c =>
    have ag : c < (aaL bs b).length := hq
    simp only [ais]
    split
    . exact h5
    . show c < bs.length; omega
  | vBlk => exact absurd hq id
  | vPhi => exact absurd hq id
  | vIns => exact absurd hq id) (fun p q hp hq e => by
  obtain ⟨hp, p1, p2, p3⟩ := hp
  obtain ⟨hq, q1, q2, q3⟩ := hq
  have au : ∀ c i, okP (aaL bs b) (.args c i) -> c ≠ t := fun c i h hc => by
   have h' : i < (blkOf (aaL bs b) c).list.length := h
   rw [ah, if_pos hc] at h'; exact absurd h' (Aa4 _)
  cases p <;> cases q <;> first
   | exact e
   | exact absurd hp id
   | exact absurd hq id
   | (simp only [ais] at e; done)
   | (simp only [ais] at e; split at e <;> simp only [reduceCtorEq] at e; done)
   | (simp only [ais] at e; split at e <;> split at e <;> simp only [reduceCtorEq] at e; done)
   | (rename_i c d
      simp only [ais] at e
      have hc : c ≠ t := fun h => p3 (by rw [h])
      have hd : d ≠ t := fun h => q3 (by rw [h])
      by_cases e1 : c = b <;> by_cases e2 : d = b <;> simp only [e1, e2, if_true, if_false, Pth.to.injEq] at e
      . rw [e1, e2]
      . exact absurd e.symm hd
      . exact absurd e hc
      . rw [e])
   | (rename_i c i d j
      simp only [ais] at e
      have hc := au c i hp
      have hd := au d j hq
      by_cases e1 : c = b ∧ (blkOf bs b).list.length <= i <;> by_cases e2 : d = b ∧ (blkOf bs b).list.length <= j
      . rw [if_pos e1, if_pos e2] at e
        simp only [Pth.args.injEq, true_and] at e
        rw [e1.1, e2.1]; congr 1; omega
      . rw [if_pos e1, if_neg e2] at e
        simp only [Pth.args.injEq] at e
        exact absurd e.1.symm hd
      . rw [if_neg e1, if_pos e2] at e
        simp only [Pth.args.injEq] at e
        exact absurd e.1 hc
      . rw [if_neg e1, if_neg e2] at e
        exact e))
 have bh:=((aX.nil (.phis t) (fun h=>h.2.1 rfl)).nil (.list t) (fun h=>h.elim (fun h=>h.2.2.1 rfl) (by simp))).nil (.to t) (fun h=>h.elim (fun h=>h.elim (fun h=>h.2.2.2 rfl) (by simp)) (by simp));refine (bh.less (ok':=okP (aaL bs b)) fun q hq=>?_).congr (fun q _=>rfl) (fun q hq=>?_)
 . by_cases e1:q = .to t
   . exact .inr e1
   . by_cases e2:q = .list t
     . exact .inl (.inr e2)
     . by_cases e3:q = .phis t
       . exact .inl (.inl (.inr e3))
       . exact .inl (.inl (.inl ⟨hq,e3,e2,e1⟩))
 . have hV:∀q,q ≠ .phis t->q ≠ .list t->q ≠ .to t->ap5 bs b t V q=V (ais bs b t q):=fun q n1 n2 n3=>by
    unfold ap5;rw [aag _ _ n3,aag _ _ n2,aag _ _ n1]
   have aW:ap5 bs b t V (.phis t) = .slice none 0 0∧ap5 bs b t V (.list t) = .slice none 0 0∧ap5 bs b t V (.to t) = .slice none 0 0:=by
    unfold ap5;refine⟨?_,?_,aaj _ _ _⟩
    . rw [aag _ _ (by simp),aag _ _ (by simp),aaj]
    . rw [aag _ _ (by simp),aaj]
   by_cases e1:q = .to t
   . subst e1
     rw [aaj];simp only [aae];rw [ah,if_pos rfl];rfl
   rw [aag _ _ e1]
   by_cases e2:q = .list t
   . subst e2
     rw [aaj];simp only [aae];rw [ah,if_pos rfl];rfl
   rw [aag _ _ e2]
   by_cases e3:q = .phis t
   . subst e3
     rw [aaj];simp only [aae];rw [ah,if_pos rfl];rfl
   rw [aag _ _ e3];cases q with
   | blks =>
     show _=C .blks;rw [hblk];simp only [aae];apply Aap;intro c;rw [aai,Aa5,Aat,Abf,Aa5,Abf,aai]
     by_cases hc:c<bs.length
     . rw [aap (aaL bs b) (by omega),aap bs hc,Aaw,Aaw,ah]
       by_cases ct:c=t
       . subst ct
         rw [if_pos rfl,if_pos rfl,if_pos hc,aW.1,aW.2.1,aW.2.2]
       . rw [if_neg ct,if_neg (show ¬t=c from fun h=>ct h.symm),hV (.phis c) (by simp [ct]) (by simp) (by simp),hV (.list c) (by simp) (by simp [ct]) (by simp),hV (.to c) (by simp) (by simp) (by simp [ct])]
         by_cases cb:c=b
         . subst cb
           rw [if_pos rfl,if_pos rfl,if_pos hc];simp only [ais,if_true]
         . rw [if_neg cb,if_neg (show ¬b=c from fun h=>cb h.symm)]
           simp only [ais,if_neg cb,abd,(aj c).1]
     . rw [Aas (l:=aaL bs b) (by omega),Aas (l:=bs) (by omega),if_neg (by omega),if_neg (by omega)];rfl
   | phis c =>
     have ar:c≠t:=fun h=>e3 (by rw [h]);show _=C (.phis c);rw [hC _ (by simp)];show _=ago bs V b t (.phis c);rw [abq _ (by simp)];simp only [aae];rw [aA c ar];apply Aap;intro i;rw [aai,aai,hV (.src c i) (by simp) (by simp) (by simp)];simp only [ais];rw [alO ae.ok h5];split
     . simp only [ap4,Aak,Option.map_map]
       congr 1
     . rfl
   | src c i =>
     have ar:c≠t:=fun h=>by
      have ag:i<(blkOf (aaL bs b) c).phis.length:=hq;rw [ah,if_pos h] at ag;exact absurd ag (Aa4 _)
     show _=C (.src c i);rw [hC _ (by simp)];simp only [afU,aae];rw [aA c ar]
   | list c =>
     have ar:c≠t:=fun h=>e2 (by rw [h]);show _=C (.list c);rw [hC _ (by simp)];show _=ago bs V b t (.list c);simp only [aae];rw [ah,if_neg ar]
     by_cases cb:c=b
     . subst cb
       rw [if_pos rfl];unfold ago;rw [aaj];simp only [ag6,aae];apply Aap;intro i;rw [aai,hV (.args c i) (by simp) (by simp) (by simp)];simp only [ais,true_and]
       by_cases hi:i<(blkOf bs c).list.length
       . rw [Abj hi,Abj (by simpa using hi),aai,if_neg (by omega)]
       . rw [Abu (by omega),Abu (by simp;omega),Abf,aai,if_pos (by omega)]
     . rw [if_neg cb]
       unfold ago;rw [aag _ _ (by simp [cb])];simp only [aae];rw [(aj c).2.1];apply Aap;intro i;rw [aai,aai,hV (.args c i) (by simp) (by simp) (by simp)];simp only [ais];rw [if_neg (fun h=>cb h.1)]
   | args c i =>
     have ar:c≠t:=fun h=>by
      have ag:i<(blkOf (aaL bs b) c).list.length:=hq;rw [ah,if_pos h] at ag;exact absurd ag (Aa4 _)
     show _=C (ais bs b t (.args c i));simp only [aae];rw [ah,if_neg ar]
     by_cases cb:c=b
     . subst cb
       rw [if_pos rfl];simp only [ais,true_and,ag6]
       by_cases hi:(blkOf bs c).list.length<=i
       . rw [if_pos hi,hC _ (by simp)]
         show _=ago bs V c t (.args t _);rw [abq _ (by simp)];simp only [aae];rw [Aaf,Abu hi,<-Aaf]
       . rw [if_neg hi,hC _ (by simp)]
         show _=ago bs V c t (.args c i);rw [abq _ (by simp)];simp only [aae];rw [Aaf,Abj (by omega),<-Aaf]
     . rw [if_neg cb]
       simp only [ais];rw [if_neg (fun h=>cb h.1),hC _ (by simp)];show _=ago bs V b t (.args c i);rw [abq _ (by simp)];simp only [aae];rw [(aj c).2.1]
   | «to» c =>
     have ar:c≠t:=fun h=>e1 (by rw [h]);show _=C (ais bs b t (.to c));simp only [aae];rw [ah,if_neg ar];simp only [ais]
     by_cases cb:c=b
     . subst cb
       rw [if_pos rfl,if_pos rfl,hC _ (by simp)];show _=ago bs V c t (.to t);rw [abq _ (by simp)];rfl
     . rw [if_neg cb,if_neg cb,hC _ (by simp)]
       show _=ago bs V b t (.to c);rw [abq _ (by simp)];simp only [aae];rw [(aj c).1]
   | vBlk=>exact absurd hq id
   | vPhi=>exact absurd hq id
   | vIns=>exact absurd hq id
end
section
open Go.RowKit
theorem ah1 {P:Program}{w:World}(base:Nat)(t ty e:TypeId)(i:TypeInfo)(size:Nat)(ht:P.underlying t=some (.slice e))(hi:P.info? e=some i)(v:Value)(n:Nat)(xs:List Value)(an:w.ownsRow base e size v n xs)(xa:Option Addr)(c:Nat) :
 (Builtin.append_ #[t,t] ty #[v,.slice xa 0 c]).run P w = .ok v w:=by
 have hl:∀(x:Addr),(loadCells x 0).run P w = .ok #[] w:=fun x=>by simpa using run_loadCells_list (P:=P) w x [] (by simp)
 rcases an.2 with⟨rfl,rfl⟩ | ⟨g,cap,cur,rfl,_,_,ax,_⟩
 . cases xa <;> simp [Builtin.append_,run_underlying ht,sizeOf,typeInfo,hi,Builtin.lenOf,Builtin.firstCells,hl]
 . cases xa <;> simp [Builtin.append_,run_underlying ht,sizeOf,typeInfo,hi,Builtin.lenOf,Builtin.firstCells,ax,storeCells,hl]
theorem ah2 {P : Program} {w : World} (base : Nat) (t ty e : TypeId) (i : TypeInfo) (z : Value) (size bytes : Nat) (ht : P.underlying t = some (.slice e)) (hi : P.info? e = some i) (hz : i.zero = some z)
 (aH:i.size=size) (be:i.bytes=bytes) (bj:z.cells.size=size) (aZ:0<size)
 (v:Value) (n:Nat) (xs:List Value) (an:w.ownsRow base e size v n xs) (xa:Option Addr) (m c:Nat) (news:List Value) (hl:news.length=m * size)
 (aK:0<m->∃ad,xa=some ad∧∀(j:Nat) u,news[j]?=some u->w.cell? (ad.add j)=some u) (h1:∀u∈news,u.oneCell'=true)
 (bd:n+m<=maxLen) (ay:(n+m) * bytes<=140737488355328) (aF:base<=w.heap.size) :
 ∃v' w',(Builtin.append_ #[t,t] ty #[v,.slice xa m c]).run P w = .ok v' w'∧w'.ownsRow base e size v' (n+m) (xs++news)∧w.grownBy w' v.ownBlock∧(v'.ownBlock=v.ownBlock∨v'.ownBlock=some w.heap.size):=by
 by_cases hm:m=0
 . subst hm
   have hn:news=[]:=Aa9 (by omega);subst hn;exact⟨v,w,ah1 base t ty e i size ht hi v n xs an xa c,by rw [Ab4,Nat.add_zero];exact an,⟨rfl,rfl,rfl,Aac _,fun _ _ _=>rfl⟩,.inl rfl⟩
 . obtain⟨ad,rfl,hn⟩:=aK (by omega)
   obtain⟨v',w',az,aJ,aN,-,ah⟩:=run_append_own_at (P:=P) w base t ty e i z size bytes ht hi hz aH be bj aZ v n xs an ad m c news hl hn h1 bd ay aF;exact⟨v',w',az,aJ,aN,ah⟩
theorem aix {P : Program} {w : World} {ops : Array Oper} {o : Oper} {a : Act} {K : Act -> World -> Prop} {Q : Exit -> Act -> World -> Prop} {E : Prop} (a7 : o.guard = none) (d s : Operand) (t t' : TypeId)
 (ho:o.op = .call { callee := .builtin .append,args:=#[d,s],argTypes:=#[t,t'] }) (v u:Value) (hd:a.eval d=v) (hs:a.eval s=u) {R:Value->World->Prop}
 (hr:∀ty,∃v' w',(Builtin.append_ #[t,t'] ty #[v,u]).run P w = .ok v' w'∧R v' w') (h:∀v' w',R v' w'->K (a.put o.dst v') w'):if Region.wanted o (yielded ops a.tmps)=true then Oper.wp P o a w K Q else E:=by
 have hw:Region.wanted o (yielded ops a.tmps)=true:=by simp [Region.wanted,a7]
 rw [if_pos hw];obtain⟨v',w',az,hR⟩:=hr o.type;unfold Oper.wp execOp;simp only [ho,resolve,invoke,builtin,Sem.run_bind,Sem.run_pure,Result.andThen_ok,List.map_toArray,Aa3,List.map_nil,hd,hs,az];exact h v' w' hR
section
variable {W3 W W' : World} {base : Nat} {X : Nat -> Prop} {bs : List DBlock} {V : Pth -> Value}
theorem abB.addList {b t R n bc : Nat} (h : abB W3 W base X (okP bs) V (aae bs V)) (hb : b < bs.length) (hv : V .blks = .slice (some ⟨R, 0, none⟩) n bc) {v' : Value} {m : Nat}
 (ho:W'.ownsRow base 49 8 v' m ((aae bs V (.list b)).flatten++(aae bs V (.list t)).flatten)) (hm:(aae bs V (.list b)).length+(aae bs V (.list t)).length=m)
 (hg:W.grownBy W' (V (.list b)).ownBlock) (a8:∀k,v'.ownBlock=some k->(V (.list b)).ownBlock=some k∨W.heap.size<=k) :
 abB W3 (W'.setCell ⟨R,b * 6+1,none⟩ v') base X (okP bs) (aaU V (.list b) v') (ago bs (aaU V (.list b) v') b t):=by
 have hw:∀c,∀cs∈aae bs V (.list c),cs.length=8:=fun c cs aP=>by
  simp only [aae] at aP;obtain⟨i,hi⟩:=List.mem_iff_getElem?.1 aP;rw [aai] at hi;cases hx:(blkOf bs c).list[i]? with
  | none=>rw [hx] at hi;cases hi
  | some y=>rw [hx] at hi;cases hi;rfl
 have h1 := h.turn (p := .list b) hb (v' := v') (xss := aae bs V (.list b) ++ aae bs V (.list t)) (by rw [Aau, Abs, hm]; exact ho) (fun cs aP => by
  rcases Aa7.1 aP with h | h
  . exact hw b cs h
  . exact hw t cs h) hg a8
 have bf:(aae bs V .blks)[b]?=some (abd (blkOf bs b) (V (.phis b)) (V (.list b)) (V (.to b))):=by
  simp only [aae];rw [aai,aap bs hb];rfl
 have h2:=h1.set (p := .blks) trivial (g:=R) (n:=n) (c:=bc) (i:=b) (j:=1) (by rw [aag _ _ (by simp)];exact hv) (cs:=abd (blkOf bs b) (V (.phis b)) (V (.list b)) (V (.to b))) (by rw [aag _ _ (by simp)];exact bf) (by decide) v';have hl:∀c,aae bs (aaU V (.list b) v') (.list c)=aae bs V (.list c):=fun c=>by simp [aae,aaU]
 refine h2.congr (fun q _=>rfl) (fun q _=>?_)
 by_cases e:q = .blks
 . subst e
   rw [abq _ (by simp),aaj,aag _ _ (by simp)];simp only [aae];apply Aap;intro c;rw [aai,Aa5,Abf,aai]
   by_cases ec:b=c
   . subst ec
     rw [if_pos rfl,if_pos hb,aap bs hb,Aaw,aaj,aag _ _ (by simp),aag _ _ (by simp)];rfl
   . rw [if_neg ec,aag _ _ (by simp),aag _ _ (by simp;omega),aag _ _ (by simp)]
 . rw [aag _ _ e]
   by_cases e2:q = .list b
   . subst e2
     rw [aaj];unfold ago;rw [aaj,hl,hl]
   . rw [aag _ _ e2]
     unfold ago;rw [aag _ _ e2];cases q with
     | blks=>exact absurd rfl e
     | _=>simp [aae,aaU]
theorem abB.set4 {ok:Pth->Prop}{C:Pth->List (List Value)}(h:abB W3 W base X ok V C)(hp:ok .blks){g n c i:Nat}(hv:V .blks = .slice (some ⟨g,0,none⟩) n c){a0 a1 a2 a3 a4 a5:Value}(hi:(C .blks)[i]?=some [a0,a1,a2,a3,a4,a5])(u2 u3 u4 u5:Value) :
 abB W3 ((((W.setCell ⟨g,i * 6+2,none⟩ u2).setCell ⟨g,i * 6+3,none⟩ u3).setCell ⟨g,i * 6+4,none⟩ u4).setCell ⟨g,i * 6+5,none⟩ u5) base X ok V (aaU C .blks ((C .blks).set i [a0,a1,u2,u3,u4,u5])):=by
 have aD:i<(C .blks).length:=(Aad.1 hi).1;have r2:=h.set (p := .blks) hp (g:=g) (n:=n) (c:=c) hv hi (j:=2) (by decide) u2;have r3:=r2.set (p := .blks) hp (g:=g) (n:=n) (c:=c) hv (cs:=[a0,a1,u2,a3,a4,a5]) (i:=i) (by rw [aaj];exact Aa6 aD) (j:=3) (by decide) u3;have r4:=r3.set (p := .blks) hp (g:=g) (n:=n) (c:=c) hv (cs:=[a0,a1,u2,u3,a4,a5]) (i:=i) (by rw [aaj,aaj,Aaz];exact Aa6 aD) (j:=4) (by decide) u4;have r5:=r4.set (p := .blks) hp (g:=g) (n:=n) (c:=c) hv (cs:=[a0,a1,u2,u3,u4,a5]) (i:=i) (by rw [aaj,aaj,aaj,Aaz,Aaz];exact Aa6 aD) (j:=5) (by decide) u5;refine r5.congr (fun q _=>rfl) (fun q _=>?_)
 by_cases e:q = .blks
 . subst e
   simp only [aaj,Aaz];rfl
 . simp only [aag _ _ e]
theorem abB.set6 {ok:Pth->Prop}{C:Pth->List (List Value)}(h:abB W3 W base X ok V C)(hp:ok .blks){g n c i:Nat}(hv:V .blks = .slice (some ⟨g,0,none⟩) n c){a0 a1 a2 a3 a4 a5:Value}(hi:(C .blks)[i]?=some [a0,a1,a2,a3,a4,a5])(u0 u1 u2 u3 u4 u5:Value) :
 abB W3 ((((((W.setCell ⟨g,i * 6,none⟩ u0).setCell ⟨g,i * 6+1,none⟩ u1).setCell ⟨g,i * 6+2,none⟩ u2).setCell ⟨g,i * 6+3,none⟩ u3).setCell ⟨g,i * 6+4,none⟩ u4).setCell ⟨g,i * 6+5,none⟩ u5) base X ok V (aaU C .blks ((C .blks).set i [u0,u1,u2,u3,u4,u5])):=by
 have aD:i<(C .blks).length:=(Aad.1 hi).1;have r0:=h.set (p := .blks) hp (g:=g) (n:=n) (c:=c) hv hi (j:=0) (by decide) u0;have r1:=r0.set (p := .blks) hp (g:=g) (n:=n) (c:=c) hv (cs:=[u0,a1,a2,a3,a4,a5]) (i:=i) (by rw [aaj];exact Aa6 aD) (j:=1) (by decide) u1;have r2:=r1.set4 hp hv (a0:=u0) (a1:=u1) (a2:=a2) (a3:=a3) (a4:=a4) (a5:=a5) (i:=i) (by rw [aaj,aaj,Aaz];exact Aa6 aD) u2 u3 u4 u5;refine r2.congr (fun q _=>rfl) (fun q _=>?_)
 by_cases e:q = .blks
 . subst e
   simp only [aaj,Aaz]
 . simp only [aag _ _ e]
end
theorem acW {bs : List DBlock} {b : Nat} (h : aca bs b = false) : ∀ f, abL f bs b = bs
 | 0=>rfl
 | f+1=>by unfold abL;rw [h];rfl
theorem akJ {bs:List DBlock}{b:Nat}(ae:afA bs)(hb:b<bs.length)(h:aca bs b=true):abL (jN bs) bs b=abL (jN (aaL bs b)) (aaL bs b) b:=by
 rw [<-ag7 ae hb h];show (if aca bs b=true then _ else _)=_;rw [if_pos h]
theorem ai5 {b : Nat} : ∀ (f : Nat) (bs : List DBlock), afA bs -> b < bs.length -> afA (abL f bs b) ∧ (abL f bs b).length = bs.length
 | 0,bs,h,_=>⟨h,rfl⟩
 | f+1,bs,h,hb=>by
   unfold abL
   by_cases hm:aca bs b=true
   . rw [if_pos hm]
     have h1:=ai5 f (aaL bs b) (ac9 h hb hm) (by rw [aaV];exact hb);exact⟨h1.1,by rw [h1.2,aaV]⟩
   . rw [if_neg hm];exact⟨h,rfl⟩
theorem acD {bs : List DBlock} (h : afA bs) : ∀ k, k <= bs.length -> afA (abA bs k) ∧ (abA bs k).length = bs.length
 | 0,_=>⟨h,rfl⟩
 | k+1,hk=>by
   obtain⟨h1,h2⟩:=acD h k (by omega);rw [abn];have h3:=ai5 (b:=k) (jN (abA bs k)) _ h1 (by omega);exact⟨h3.1,by rw [h3.2,h2]⟩
end
end Go.Proofs.YtpeejlpcikefcaaGreatDoor
