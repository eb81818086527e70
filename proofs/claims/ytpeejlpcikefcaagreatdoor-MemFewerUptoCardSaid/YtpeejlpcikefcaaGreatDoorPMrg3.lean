import Derived.Test.YtpeejlpcikefcaaGreatDoorPDelIns
import Derived.Test.YtpeejlpcikefcaaGreatDoorPKeep1
/- slices.Index and slices.Contains of ints. tidy.rename, plain: what comes from one block comes from another one; and what the rows hold meanwhile. tidy.ChainsOf, plain: a block goes into the one ahead of it. tidy.ChainsOf: what the rows hold while one block goes into another one. tidy.ChainsOf: append of one own row onto another one; the steps of a merge, in memory. -/
namespace Go.Proofs.YtpeejlpcikefcaaGreatDoor
section
open Go.RowKit
def ae9(l:List Int)(s:Int):Int:=match l.findIdx? (fun x=>decide (s=x)) with | some k=>k | none => -1
set_option maxHeartbeats 1000000 in
theorem akI {S:Nat->Prop}(ao:Option Addr)(n c:Nat)(l:List Int)(s:Int)(w:World)(h:SlAt S w 1 acz (.slice ao n c) l)(hn:l.length=n)(bk:n<=1048576) :
 Calls Tryz.prog 109 #[.slice ao n c,.int .i64 s] w fun e w'=>e = .returned (.int .i64 (ae9 l s))∧w=w':=by
 have Hh:=hid h;have Hn:=hid hn;clear h hn;go_enter Tryz.func109,Tryz.ntmps109;go_wp2_with fail;go_loop [8] (fun i=>∃k:Nat,k<=n∧i = .int .i64 k∧∀j,j<k->∀x,l[j]?=some x->decide (s=x)=false) (fun i=>n - (intOf i).toNat)
 case atStart=>exact⟨0,Aaj _,rfl,fun j hj=>by omega⟩
 case round =>
  obtain⟨k,hk,rfl,aI⟩:=hrel;have H:=hid aI;clear aI
  by_cases hlt:k<n
  . have az:k<l.length:=by rw [Hn.out];exact hlt
    obtain⟨b,off,rfl,au⟩:=adv Hh.out az;obtain⟨x,hx⟩:∃x,l[k]=x:=⟨_,rfl⟩
    rw [hx] at au;have Hx:Hid (l[k]?=some x):=by show _=_;rw [Aaa az,hx]
    have zb:b<w.heap.size:=aac au;clear hx az
    by_cases he:s=x
    . have Hi:Hid (ae9 l s=k):=by show _=_;unfold ae9;rw [ad3 Hx.out (decide_eq_true he) H.out]
      have q0:(decide (s<=x)&&decide (x<=s))=true:=aml he;clear he;go_wp2_with fail;go_ret;exact⟨aaL Hi.out.symm,rfl⟩
    . have He:Hid (decide (s=x)=false):=decide_eq_false he
      have q0:(decide (s<=x)&&decide (x<=s))=false:=ac0 he;clear he;go_wp2_with fail;go_round
      case rel=>exact⟨k+1,by omega,by go_num,abY H.out (fun y hy=>by rw [Hx.out] at hy;cases hy;exact He.out)⟩
      case measure=>simp [intOf];omega
  . have Hi:Hid (ae9 l s = -1):=by
     show _=_;unfold ae9;rw [ad2 (fun j x hx=>H.out j (by have:=(Aad.1 hx).1;have:=Hn.out;omega) x hx)]
    go_wp2_with fail;go_ret;exact⟨aaL Hi.out.symm,rfl⟩
end
section
open Go.RowKit
def cntJ(A:List Int)(t b:Nat)(j:Nat):Nat:=((A.take j).filter fun a=>decide (a<(b:Int))&&decide (a≠(t:Int))).length
variable {A:List Int}{t b:Nat}
theorem apk{j:Nat}{a:Int}(h:A[j]?=some a):cntJ A t b (j+1)=cntJ A t b j+if a<(b:Int)∧a≠(t:Int) then 1 else 0:=by
 unfold cntJ;rw [Ab7,h,List.filter_append,Aau]
 congr 1
 by_cases h1:a<(b:Int)∧a≠(t:Int)
 . rw [if_pos h1];simp [h1.1,h1.2]
 . rw [if_neg h1]
   have:(decide (a<(b:Int))&&decide (a≠(t:Int)))=false:=by
    rw [Bool.eq_false_iff];intro e;rw [Ab0] at e;exact h1 ⟨of_decide_eq_true e.1,of_decide_eq_true e.2⟩
   rw [Option.toList_some,List.filter_cons_of_neg (by rw [this];exact Bool.false_ne_true)];rfl
theorem asL(A:List Int)(t b j:Nat):cntJ A t b j<=j:=by
 unfold cntJ;exact Aai (Ack _ _) (by rw [Aat];omega)
theorem apl(h:(t:Int)∈A):cntJ A t b A.length+1<=A.length:=by
 unfold cntJ;rw [Aa0];exact List.length_filter_lt_length_iff_exists.2 ⟨(t:Int),h,by simp⟩
theorem ahU {l:List Int}{s:Int}(h:s∈l):∃k:Nat,ae9 l s=(k:Int)∧k<l.length∧l[k]?=some s:=by
 unfold ae9;cases hf:l.findIdx? (fun x=>decide (s=x)) with
 | none =>
   rw [List.findIdx?_eq_none_iff] at hf;have:=hf s h;simp at this
 | some k =>
   rw [Acq] at hf;obtain⟨h1,h2,-⟩:=hf;exact⟨k,rfl,h1,by rw [Aaa h1];have:=of_decide_eq_true h2;rw [<-this]⟩
theorem ab5 {l:List DBlock}{s u:Nat}{x:Int}:x∈aaf l s u↔∃i y,l[i]?=some y∧(u:Int)∈y.fin.to∧x=((s+i:Nat):Int):=by
 induction l generalizing s with
 | nil=>simp [aaf]
 | cons b l ih =>
   rw [aaf,Aa7,ih];have hh:x∈afb b.fin.to u s↔(u:Int)∈b.fin.to∧x=(s:Int):=by
    unfold afb;rw [Aal];constructor
    . rintro⟨y,hy,rfl⟩
      obtain⟨h1,h2⟩:=List.mem_filter.1 hy;have h3:=of_decide_eq_true h2;exact⟨by rw [<-h3];exact h1,rfl⟩
    . rintro⟨h1,rfl⟩
      exact⟨(u:Int),List.mem_filter.2 ⟨h1,by simp⟩,rfl⟩
   rw [hh];constructor
   . rintro (⟨h1,h2⟩ | ⟨i,y,h1,h2,h3⟩)
     . exact⟨0,b,rfl,h1,by simpa using h2⟩
     . exact⟨i+1,y,by simpa using h1,h2,by rw [h3];congr 1;omega⟩
   . rintro⟨i,y,h1,h2,h3⟩
     cases i with
     | zero=>cases h1;exact .inl ⟨h2,by simpa using h3⟩
     | succ i=>exact .inr ⟨i,y,by simpa using h1,h2,by rw [h3];congr 1;omega⟩
theorem afo : ∀ (l : List DBlock) (s t : Nat), (∀ x ∈ l, x.fin.to.Nodup) -> (aaf l s t).length <= l.length
 | [],_,_,_=>by simp [aaf]
 | b :: l,s,t,h=>by
   rw [aaf,Aau,Aa8];have h1:=agl (h b (Aa3 ..)) t s;have h2:=afo l (s+1) t (fun x hx=>h x (Aa2 _ hx));omega
theorem ad8 {l:List DBlock}{i u:Nat}{y:DBlock}(h:l[i]?=some y)(hu:(u:Int)∈y.fin.to):(i:Int)∈aaf l 0 u:=ab5.2 ⟨i,y,h,hu,by simp⟩
def arY(A:List Int)(t b:Nat)(l:List aaA):List aaA:=arP (aqr l (ae9 A (t:Int)).toNat) (cntJ A t b A.length) (l.getD (ae9 A (t:Int)).toNat ⟨false,0⟩)
def as9(A:List Int)(t b:Nat)(p:acr):acr:=⟨p.dst,arY A t b p.src⟩
def afp(A:List Int)(t b:Nat)(x:DBlock)(i:Nat):DBlock:={ x with phis:=x.phis.mapIdx fun m p=>if m<i then as9 A t b p else p }
def ap8(A:List Int)(t b:Nat)(x:DBlock):DBlock:={ x with phis:=x.phis.map (as9 A t b) }
theorem anu(A:List Int)(t b:Nat)(x:DBlock):afp A t b x 0=x:=by
 have:(x.phis.mapIdx fun m p=>if m<0 then as9 A t b p else p)=x.phis:=by
  apply Aao;intro i;rw [aai];simp
 unfold afp;rw [this]
theorem apm(A:List Int)(t b:Nat)(x:DBlock):afp A t b x x.phis.length=ap8 A t b x:=by
 have h1:(x.phis.mapIdx fun m p=>if m<x.phis.length then as9 A t b p else p)=x.phis.map (as9 A t b):=by
  apply Aao;intro i;rw [aai,Aak]
  by_cases hi:i<x.phis.length
  . simp only [if_pos hi]
  . rw [Aap (by omega)];rfl
 unfold afp ap8;rw [h1]
theorem apn{x:DBlock}{i:Nat}{p:acr}(hp:x.phis[i]?=some p):aeK (afp A t b x i) i (arY A t b p.src)=afp A t b x (i+1):=by
 have hi:=(Aad.1 hp).1;unfold aeK afp
 congr 1
 apply Aao;intro m;rw [Aa6,Abi,aai,aai]
 by_cases e:i=m
 . subst e
   rw [if_pos rfl,if_pos hi,hp,Aaf,aai,hp];simp [as9]
 . rw [if_neg e]
   congr 1
   funext q
   by_cases h:m<i
   . rw [if_pos h,if_pos (by omega)]
   . rw [if_neg h,if_neg (by omega)]
def ajz(al:Nat->List Int)(t b:Nat)(bs:List DBlock)(u:Int):List DBlock:=bs.set u.toNat (ap8 (al u.toNat) t b (blkOf bs u.toNat))
def agU(bs:List DBlock)(t b:Nat)(k:Nat):List DBlock:=((blkOf bs t).fin.to.take k).foldl (ajz (aaf bs 0) t b) bs
theorem apo{bs:List DBlock}{k:Nat}{u:Int}(h:(blkOf bs t).fin.to[k]?=some u):agU bs t b (k+1)=ajz (aaf bs 0) t b (agU bs t b k) u:=by
 unfold agU;rw [Ab7,h,List.foldl_append];rfl
theorem aeH (al : Nat -> List Int) (t b : Nat) : ∀ (l : List Int) (bs : List DBlock), (l.foldl (ajz al t b) bs).length = bs.length
 | [],_=>rfl
 | u :: l,bs=>by rw [List.foldl_cons,aeH al t b l];simp [ajz]
theorem amI(bs:List DBlock)(t b k:Nat):(agU bs t b k).length=bs.length:=aeH _ _ _ _ _
theorem afa (al : Nat -> List Int) (t b : Nat) : ∀ (l : List Int) (bs : List DBlock), (∀ u ∈ l, 0 <= u ∧ u < (bs.length : Int)) -> l.Nodup -> ∀ v : Nat, blkOf (l.foldl (ajz al t b) bs) v = if (v : Int) ∈ l then ap8 (al v) t b (blkOf bs v) else blkOf bs v
 | [],bs,_,_,v=>by simp
 | u :: l,bs,h,hn,v=>by
   have hu:=h u (Aa3 ..);have hl:(ajz al t b bs u).length=bs.length:=by simp [ajz]
   rw [List.foldl_cons,afa al t b l _ (fun x hx=>by rw [hl];exact h x (Aa2 _ hx)) (List.nodup_cons.1 hn).2 v];have hb:blkOf (ajz al t b bs u) v=if v=u.toNat then ap8 (al u.toNat) t b (blkOf bs u.toNat) else blkOf bs v:=aaR (by omega) _ _
   rw [hb]
   by_cases e:v=u.toNat
   . have aP:(v:Int)=u:=by omega
     rw [if_pos e,if_neg (by rw [aP];exact (List.nodup_cons.1 hn).1),if_pos (by rw [aP];exact Aa3 ..),<-e]
   . have aP:(v:Int)≠u:=by omega
     rw [if_neg e]
     by_cases hm:(v:Int)∈l
     . rw [if_pos hm,if_pos (Aa2 _ hm)]
     . rw [if_neg hm,if_neg fun h2=>(Aam.1 h2).elim aP hm]
theorem apq{bs:List DBlock}(hto:∀x∈bs,∀t∈x.fin.to,0<=t∧t<(bs.length:Int))(aE:∀x∈bs,x.fin.to.Nodup)(ht:t<bs.length)(b k v:Nat):blkOf (agU bs t b k) v=if (v:Int)∈(blkOf bs t).fin.to.take k then ap8 (aaf bs 0 v) t b (blkOf bs v) else blkOf bs v:=by
 have hm:=Aae (aan bs ht);exact afa _ _ _ _ _ (fun u hu=>hto _ hm u (List.mem_of_mem_take hu)) ((aE _ hm).sublist (List.take_sublist _ _)) v
def afY (bs : List DBlock) (V : Pth -> Value) (C : Pth -> List (List Value)) : Pth -> List (List Value)
 | .src u i=>aae bs V (.src u i)
 | q=>C q
section
variable {W3 W W' : World} {base : Nat} {X : Nat -> Prop} {ok : Pth -> Prop} {V : Pth -> Value} {C : Pth -> List (List Value)} {bs : List DBlock}
theorem abE.srcSame {u i g P c pn pc m : Nat} {d : Value} (h : abE W3 W base X ok V (afY bs V C)) (hu : u < bs.length) (hi : i < (blkOf bs u).phis.length) (ae : ok (.src u i)) (aT : ok (.phis u)) (hv : V (.src u i) = .slice (some ⟨g, 0, none⟩) m c) (hp : V (.phis u) = .slice (some ⟨P, 0, none⟩) pn pc)
 (hc:(C (.phis u))[i]?=some [d,V (.src u i)]) {l:List aaA} (hl:l.length=m) (ho:W'.ownsRow base 41 2 (.slice (some ⟨g,0,none⟩) m c) m (l.map aaz).flatten) (hg:W.grownBy W' (some g)) :
 abE W3 (W'.setCell ⟨P,i * 2+1,none⟩ (.slice (some ⟨g,0,none⟩) m c)) base X ok V (afY (bs.set u (aeK (blkOf bs u) i l)) V C):=by
 have h1:=h.turn (p := .src u i) ae (v' := .slice (some ⟨g,0,none⟩) m c) (xss:=l.map aaz) (by rw [Aah,hl];exact ho) (aca l) (by rw [hv];exact hg) (fun k hk=>by rw [hv];exact .inl hk);have h2:=h1.set (p := .phis u) aT (g:=P) (n:=pn) (c:=pc) (i:=i) (j:=1) (by rw [aag _ _ (by simp)];exact hp) (cs:=[d,V (.src u i)]) (by rw [aag _ _ (by simp)];exact hc) (by simp [Pth.sz]) (.slice (some ⟨g,0,none⟩) m c);refine h2.congr (fun q _=>?_) (fun q _=>?_)
 . by_cases e:q = .src u i
   . subst e;rw [aaj,hv]
   . rw [aag _ _ e]
 . by_cases e:q = .phis u
   . subst e
     rw [aaj,aag _ _ (by simp)];show C (.phis u)=(C (.phis u)).set i _;rw [<-hv];exact (abW hc).symm
   . rw [aag _ _ e]
     cases q with
     | src v j =>
       by_cases e2:v=u∧j=i
       . obtain⟨rfl,rfl⟩:=e2
         rw [aaj];simp only [afY,aae];rw [aaR hu,if_pos rfl];simp only [aeK];rw [Aaf,Aa5 hi];rfl
       . rw [aag _ _ (by simp;intro h3 h4;exact e2 ⟨h3,h4⟩)]
         simp only [afY,aae];rw [aaR hu]
         by_cases e3:v=u
         . subst e3
           rw [if_pos rfl];simp only [aeK];rw [Aaf,Acm (fun h5=>e2 ⟨rfl,h5.symm⟩),<-Aaf]
         . rw [if_neg e3]
     | _=>exact (aag _ _ (by simp)).symm
end
end
section
open Go.RowKit
def ac6:DBlock:=⟨[],[],⟨1,⟨false,0⟩,[]⟩⟩
def toJ(bs:List DBlock)(b:Nat):Nat:=((blkOf bs b).fin.to.getD 0 0).toNat
def acd(bs:List DBlock)(b:Nat):Bool:=decide ((blkOf bs b).fin.kind=2)&&decide (toJ bs b≠b)&&decide ((blkOf bs (toJ bs b)).phis.length=0)&&decide ((aaf bs 0 (toJ bs b)).length<=1)
def ac7(bs:List DBlock)(t b:Nat):List DBlock:=agU bs t b (blkOf bs t).fin.to.length
def afZ(bs:List DBlock)(t b:Nat):DBlock:=⟨(blkOf (ac7 bs t b) b).phis,(blkOf bs b).list++(blkOf bs t).list,(blkOf bs t).fin⟩
def aaJ(bs:List DBlock)(b:Nat):List DBlock:=((ac7 bs (toJ bs b) b).set b (afZ bs (toJ bs b) b)).set (toJ bs b) ac6
def jN(bs:List DBlock):Nat:=bs.countP fun x=>decide (x.fin.kind=2)
def abL : Nat -> List DBlock -> Nat -> List DBlock
 | 0,bs,_=>bs
 | f+1,bs,b=>if acd bs b=true then abL f (aaJ bs b) b else bs
def abD(bs:List DBlock)(k:Nat):List DBlock:=(List.range k).foldl (fun l b=>abL (jN l) l b) bs
def acm(bs:List DBlock):List DBlock:=abD bs bs.length
theorem abr(bs:List DBlock)(k:Nat):abD bs (k+1)=abL (jN (abD bs k)) (abD bs k) k:=by
 unfold abD;rw [List.range_succ,List.foldl_append];rfl
structure ae4 (bs:List DBlock):Prop where
 ok:acC bs
 jump:∀x∈bs,x.fin.kind=2->x.fin.to.length=1
 sum:(bs.map fun x=>x.list.length).sum<=1048576
def asM(u:Nat)(x:DBlock):Bool:=decide ((u:Int)∈x.fin.to)
theorem anv {tg:List Int}(h:tg.Nodup)(u i:Nat):(afb tg u i).length=if (u:Int)∈tg then 1 else 0:=by
 have h1:=agl h u i
 by_cases hm:(u:Int)∈tg
 . rw [if_pos hm]
   have:0<(afb tg u i).length:=by
    unfold afb;rw [Aah];exact List.length_pos_of_mem (List.mem_filter.2 ⟨hm,by simp⟩)
   omega
 . rw [if_neg hm]
   unfold afb;rw [Aah,Acg,List.filter_eq_nil_iff];intro a ha h2;have:=of_decide_eq_true h2;exact hm (by rw [<-this];exact ha)
theorem afq : ∀ (l : List DBlock) (s u : Nat), (∀ x ∈ l, x.fin.to.Nodup) -> (aaf l s u).length = l.countP (asM u)
 | [],_,_,_=>by simp [aaf]
 | b :: l,s,u,h=>by
   rw [aaf,Aau,anv (h b (Aa3 ..)),afq l (s+1) u (fun x hx=>h x (Aa2 _ hx)),List.countP_cons,Nat.add_comm]
   congr 1
   unfold asM
   by_cases hm:(u:Int)∈b.fin.to
   . simp [hm]
   . simp [hm]
theorem abS {bs:List DBlock}{x:DBlock}(h:x∈bs):∃c,c<bs.length∧x=blkOf bs c:=by
 obtain⟨i,hi,rfl⟩:=Aav h;exact⟨i,hi,(aaZ (Aaa hi)).symm⟩
theorem aar {bs:List DBlock}{c:Nat}(h:c<bs.length):blkOf bs c∈bs:=Aae (aan bs h)
theorem ab0 {bs:List DBlock}{c:Nat}(h:c<bs.length):bs[c]=blkOf bs c:=(aaZ (Aaa h)).symm
section
variable {bs : List DBlock} {t b : Nat}
theorem aa7(bs:List DBlock)(t b:Nat):(ac7 bs t b).length=bs.length:=amI _ _ _ _
theorem alO(ae:acC bs)(ht:t<bs.length)(c:Nat):blkOf (ac7 bs t b) c=if (c:Int)∈(blkOf bs t).fin.to then ap8 (aaf bs 0 c) t b (blkOf bs c) else blkOf bs c:=by
 unfold ac7;rw [apq ae.toIn ae.toNd ht,Aa0]
theorem aaN(ae:acC bs)(ht:t<bs.length)(c:Nat):(blkOf (ac7 bs t b) c).fin=(blkOf bs c).fin∧(blkOf (ac7 bs t b) c).list=(blkOf bs c).list∧(blkOf (ac7 bs t b) c).phis.length=(blkOf bs c).phis.length:=by
 rw [alO ae ht];split
 . exact⟨rfl,rfl,by simp [ap8]⟩
 . exact⟨rfl,rfl,rfl⟩
theorem ahV(ae:acC bs)(ht:t<bs.length)(p:as4->Bool):(ac7 bs t b).countP (fun x=>p x.fin)=bs.countP (fun x=>p x.fin):=by
 have e:(ac7 bs t b).map (·.fin)=bs.map (·.fin):=by
  apply Aao;intro i;rw [Aak,Aak]
  by_cases hi:i<bs.length
  . rw [aan bs hi,aan (ac7 bs t b) (by rw [aa7];exact hi),Aaw,Aaw,(aaN ae ht i).1]
  . rw [Aap (by rw [aa7];omega),Aap (by omega)]
 have h:=congrArg (List.countP p) e;rw [List.countP_map,List.countP_map] at h;exact h
theorem aaQ(bs:List DBlock)(b:Nat):(aaJ bs b).length=bs.length:=by unfold aaJ;rw [Aar,Aar,aa7]
theorem aeI(hb:b<bs.length)(ht:toJ bs b<bs.length)(c:Nat):blkOf (aaJ bs b) c=if c=toJ bs b then ac6 else if c=b then afZ bs (toJ bs b) b else blkOf (ac7 bs (toJ bs b) b) c:=by
 unfold aaJ;rw [aaR (by rw [Aar,aa7];exact ht),aaR (by rw [aa7];exact hb)]
theorem aba(ae:ae4 bs)(hb:b<bs.length)(h:acd bs b=true):(blkOf bs b).fin.kind=2∧toJ bs b≠b∧(blkOf bs (toJ bs b)).phis=[]∧(blkOf bs b).fin.to=[((toJ bs b:Nat):Int)]∧toJ bs b<bs.length∧(∀c,c<bs.length->((toJ bs b:Nat):Int)∈(blkOf bs c).fin.to->c=b):=by
 unfold acd at h;simp only [Ab0,decide_eq_true_eq] at h;obtain⟨⟨⟨h1,h2⟩,h3⟩,h4⟩:=h;have hl:=ae.jump _ (aar hb) h1;have hto:(blkOf bs b).fin.to=[((toJ bs b:Nat):Int)]∧toJ bs b<bs.length:=by
  match hh:(blkOf bs b).fin.to,hl with
  | [u],_ =>
    have hu:=ae.ok.toIn _ (aar hb) u (by rw [hh];simp);have e:((toJ bs b:Nat):Int)=u:=by unfold toJ;rw [hh];simp;omega
    exact⟨by rw [e],by omega⟩
 refine⟨h1,h2,Aba h3,hto.1,hto.2,fun c hc hm=>?_⟩;have aU:=ad8 (u:=toJ bs b) (aan bs hb) (by rw [hto.1];simp);have bg:=ad8 (u:=toJ bs b) (aan bs hc) hm
 match hh:aaf bs 0 (toJ bs b),h4 with
 | [],_=>rw [hh] at aU;exact absurd aU (Aaq)
 | [x],_ =>
   rw [hh,Aax] at aU bg;omega
theorem ag4(ae:ae4 bs)(hb:b<bs.length)(h:acd bs b=true):jN (aaJ bs b)+1=jN bs:=by
 obtain⟨h1,h2,-,-,h5,-⟩:=aba ae hb h;have hr:=ahV (b:=b) ae.ok h5 (fun x=>decide (x.kind=2));have ak:b<(ac7 bs (toJ bs b) b).length:=by rw [aa7];exact hb
 have aq:toJ bs b<((ac7 bs (toJ bs b) b).set b (afZ bs (toJ bs b) b)).length:=by rw [Aar,aa7];exact h5
 have e1:(ac7 bs (toJ bs b) b)[b].fin.kind=2:=by rw [ab0 ak,(aaN ae.ok h5 b).1];exact h1
 have e2:(((ac7 bs (toJ bs b) b).set b (afZ bs (toJ bs b) b))[toJ bs b]'aq).fin.kind=(blkOf bs (toJ bs b)).fin.kind:=by
  rw [ab0 aq,aaR ak,if_neg h2,(aaN ae.ok h5 _).1]
 have aW:0<(ac7 bs (toJ bs b) b).countP (fun x=>decide (x.fin.kind=2)):=List.countP_pos_iff.2 ⟨_,Aas ak,by simp [e1]⟩;have e3:(afZ bs (toJ bs b) b).fin=(blkOf bs (toJ bs b)).fin:=rfl;unfold jN aaJ;rw [List.countP_set aq,List.countP_set ak,hr];rw [hr] at aW;simp only [e1,e2,e3,ac6]
 by_cases hk:(blkOf bs (toJ bs b)).fin.kind=2
 . simp [hk];omega
 . simp [hk];omega
theorem ahW(ae:ae4 bs)(hb:b<bs.length)(h:acd bs b=true){c:Nat}(hc:c≠toJ bs b)(aE:∀x∈aaJ bs b,x.fin.to.Nodup):(aaf (aaJ bs b) 0 c).length=(aaf bs 0 c).length:=by
 obtain⟨h1,h2,-,h4,h5,h6⟩:=aba ae hb h;have hr:=ahV (b:=b) ae.ok h5 (fun x=>decide ((c:Int)∈x.to));have ak:b<(ac7 bs (toJ bs b) b).length:=by rw [aa7];exact hb
 have aq:toJ bs b<((ac7 bs (toJ bs b) b).set b (afZ bs (toJ bs b) b)).length:=by rw [Aar,aa7];exact h5
 have e1:(ac7 bs (toJ bs b) b)[b].fin.to=[((toJ bs b:Nat):Int)]:=by rw [ab0 ak,(aaN ae.ok h5 b).1];exact h4
 have e2:(((ac7 bs (toJ bs b) b).set b (afZ bs (toJ bs b) b))[toJ bs b]'aq).fin.to=(blkOf bs (toJ bs b)).fin.to:=by
  rw [ab0 aq,aaR ak,if_neg h2,(aaN ae.ok h5 _).1]
 rw [afq _ _ _ aE,afq _ _ _ ae.ok.toNd];have e3:(afZ bs (toJ bs b) b).fin=(blkOf bs (toJ bs b)).fin:=rfl;have ay:¬((c:Int)∈[((toJ bs b:Nat):Int)]):=by
  rw [Aax];omega
 unfold aaJ asM;rw [List.countP_set aq,List.countP_set ak,hr];simp only [e1,e2,e3,ac6,ay,Aaq,decide_false,Acd,if_false,Nat.sub_zero,Nat.add_zero]
 by_cases hm:(c:Int)∈(blkOf bs (toJ bs b)).fin.to
 . simp only [hm,decide_true,if_true];omega
 . simp only [hm,decide_false,Acd,if_false];omega
end
theorem aq9 {A:List Int}{t b:Nat}{l:List aaA}(h:(t:Int)∈A)(hl:l.length=A.length):(arY A t b l).length=l.length:=by
 obtain⟨k,h1,h2,-⟩:=ahU h;have h3:=apl (b:=b) h;unfold arY;rw [h1,Aan,amh (by rw [ajj (by omega)];omega),ajj (by omega)];omega
theorem ara {A:List Int}{t b:Nat}{l:List aaA}(h:(t:Int)∈A)(hl:l.length=A.length){v:aaA}(hv:v∈arY A t b l):v∈l:=by
 obtain⟨k,h1,h2,-⟩:=ahU h;unfold arY at hv;rw [h1,Aan] at hv;have hd:∀v,v∈aqr l k->v∈l:=fun v hv=>by
  unfold aqr at hv;rcases Aa7.1 hv with h | h
  . exact List.mem_of_mem_take h
  . exact List.mem_of_mem_drop h
 unfold arP at hv;rcases Aa7.1 hv with hv | hv
 . rcases Aa7.1 hv with hv | hv
   . exact hd v (List.mem_of_mem_take hv)
   . rw [Aax] at hv
     rw [hv,Aaf,Aaa (by omega)];exact Aas _
 . exact hd v (List.mem_of_mem_drop hv)
theorem ab6 {α : Type} (f : α -> Nat) : ∀ (l : List α) (i : Nat) (a : α) (h : i < l.length), ((l.set i a).map f).sum + f l[i] = (l.map f).sum + f a
 | x :: l,0,a,_=>by simp;omega
 | x :: l,i+1,a,h=>by
   have:=ab6 f l i a (by simpa using h);simp only [List.set_cons_succ,Aa1,Abj,List.getElem_cons_succ];omega
theorem aiY {α : Type} (f : α -> Nat) : ∀ {l : List α} {x : α}, x ∈ l -> f x <= (l.map f).sum
 | y :: l,x,h=>by
   rw [Aa1,Abj];rcases Aam.1 h with rfl | h
   . omega
   . have:=aiY f h;omega
section
variable {bs : List DBlock} {t b : Nat}
theorem ahX(ae:acC bs)(ht:t<bs.length){c:Nat}(hc:c<bs.length){p:acr}(hp:p∈(blkOf (ac7 bs t b) c).phis):∃p0∈(blkOf bs c).phis,p.dst=p0.dst∧p.src.length=p0.src.length∧∀v∈p.src,v∈p0.src:=by
 rw [alO ae ht] at hp;split at hp
 . rename_i hm
   obtain⟨p0,h0,rfl⟩:=Aal.1 hp;have hA:=ad8 (aan bs ht) hm;have hl:=ae.src c hc p0 h0;exact⟨p0,h0,rfl,aq9 hA hl,fun v hv=>ara hA hl hv⟩
 . exact⟨p,hp,rfl,rfl,fun v hv=>hv⟩
theorem abT(hb:b<bs.length)(ht:toJ bs b<bs.length)(c:Nat):(c=toJ bs b∧blkOf (aaJ bs b) c=ac6)∨(c≠toJ bs b∧c=b∧blkOf (aaJ bs b) c=afZ bs (toJ bs b) b)∨(c≠toJ bs b∧c≠b∧blkOf (aaJ bs b) c=blkOf (ac7 bs (toJ bs b) b) c):=by
 rw [aeI hb ht]
 by_cases h1:c=toJ bs b
 . exact .inl ⟨h1,if_pos h1⟩
 . rw [if_neg h1]
   by_cases h2:c=b
   . exact .inr (.inl ⟨h1,h2,if_pos h2⟩)
   . exact .inr (.inr ⟨h1,h2,if_neg h2⟩)
theorem apr(ae:ae4 bs)(hb:b<bs.length)(h:acd bs b=true):((aaJ bs b).map fun x=>x.list.length).sum=(bs.map fun x=>x.list.length).sum:=by
 obtain⟨h1,h2,-,-,h5,-⟩:=aba ae hb h;have ak:b<(ac7 bs (toJ bs b) b).length:=by rw [aa7];exact hb
 have aq:toJ bs b<((ac7 bs (toJ bs b) b).set b (afZ bs (toJ bs b) b)).length:=by rw [Aar,aa7];exact h5
 have hr:(ac7 bs (toJ bs b) b).map (fun x=>x.list.length)=bs.map (fun x=>x.list.length):=by
  apply Aao;intro i;rw [Aak,Aak]
  by_cases hi:i<bs.length
  . rw [aan bs hi,aan (ac7 bs (toJ bs b) b) (by rw [aa7];exact hi),Aaw,Aaw,(aaN ae.ok h5 i).2.1]
  . rw [Aap (by rw [aa7];omega),Aap (by omega)]
 have s1:=ab6 (fun x:DBlock=>x.list.length) (ac7 bs (toJ bs b) b) b (afZ bs (toJ bs b) b) ak;have s2:=ab6 (fun x:DBlock=>x.list.length) ((ac7 bs (toJ bs b) b).set b (afZ bs (toJ bs b) b)) (toJ bs b) ac6 aq;rw [ab0 ak,(aaN ae.ok h5 b).2.1,hr] at s1;rw [ab0 aq,aaR ak,if_neg h2,(aaN ae.ok h5 _).2.1] at s2;have s3:(afZ bs (toJ bs b) b).list.length=(blkOf bs b).list.length+(blkOf bs (toJ bs b)).list.length:=by simp [afZ]
 have s4:ac6.list.length=0:=rfl;unfold aaJ;omega
theorem adg(ae:ae4 bs)(hb:b<bs.length)(h:acd bs b=true):ae4 (aaJ bs b):=by
 obtain⟨h1,h2,h3,h4,h5,h6⟩:=aba ae hb h;have aJ:=apr ae hb h;have af:∀c,c<bs.length->(blkOf (aaJ bs b) c).fin=ac6.fin∨∃d,d<bs.length∧(blkOf (aaJ bs b) c).fin=(blkOf bs d).fin:=fun c hc=>by
  rcases abT hb h5 c with⟨-,e⟩ | ⟨-,-,e⟩ | ⟨-,-,e⟩
  . exact .inl (by rw [e])
  . exact .inr ⟨_,h5,by rw [e];rfl⟩
  . exact .inr ⟨c,hc,by rw [e,(aaN ae.ok h5 c).1]⟩
 have ai:∀c,c<bs.length->∀p∈(blkOf (aaJ bs b) c).phis,c≠toJ bs b∧∃p0∈(blkOf bs c).phis,p.dst=p0.dst∧p.src.length=p0.src.length∧∀v∈p.src,v∈p0.src:=fun c hc p hp=>by
  rcases abT hb h5 c with⟨-,e⟩ | ⟨e0,rfl,e⟩ | ⟨e0,-,e⟩
  . rw [e] at hp;exact absurd hp (Aaq)
  . rw [e] at hp;exact⟨e0,ahX ae.ok h5 hc hp⟩
  . rw [e] at hp;exact⟨e0,ahX ae.ok h5 hc hp⟩
 have aw:∀c,c<bs.length->∀y∈(blkOf (aaJ bs b) c).list,∃d,d<bs.length∧y∈(blkOf bs d).list:=fun c hc y hy=>by
  rcases abT hb h5 c with⟨-,e⟩ | ⟨-,rfl,e⟩ | ⟨-,-,e⟩
  . rw [e] at hy;exact absurd hy (Aaq)
  . rw [e] at hy
    rcases Aa7.1 (show y∈_++_ from hy) with hy | hy
    . exact⟨c,hc,hy⟩
    . exact⟨_,h5,hy⟩
  . rw [e,(aaN ae.ok h5 c).2.1] at hy;exact⟨c,hc,hy⟩
 have hlen:=aaQ bs b;have aE:∀x∈aaJ bs b,x.fin.to.Nodup:=fun x hx=>by
  obtain⟨c,hc,rfl⟩:=abS hx;rw [hlen] at hc;rcases af c hc with e | ⟨d,hd,e⟩
  . rw [e];simp [ac6]
  . rw [e];exact ae.ok.toNd _ (aar hd)
 refine⟨⟨by rw [hlen];exact ae.ok.len,fun x hx=>?_,fun x hx=>?_,fun x hx=>?_,fun x hx=>?_,aE,fun c hc p hp=>?_⟩,fun x hx=>?_,by rw [aJ];exact ae.sum⟩
 . obtain⟨c,hc,rfl⟩:=abS hx
   rw [hlen] at hc;refine⟨?_,?_,?_,fun p hp=>?_,fun y hy=>?_⟩
   . rcases af c hc with e | ⟨d,hd,e⟩
     . rw [e];exact⟨by decide,by decide⟩
     . rw [e];exact (ae.ok.num _ (aar hd)).kind
   . rcases af c hc with e | ⟨d,hd,e⟩
     . rw [e];exact⟨by decide,by decide⟩
     . rw [e];exact (ae.ok.num _ (aar hd)).on
   . rcases af c hc with e | ⟨d,hd,e⟩
     . rw [e];intro u hu;exact absurd hu (Aaq)
     . rw [e];exact (ae.ok.num _ (aar hd)).to
   . obtain⟨-,p0,h0,e1,-,e3⟩:=ai c hc p hp
     have hn:=(ae.ok.num _ (aar hc)).phi p0 h0;exact⟨by rw [e1];exact hn.1,fun v hv=>hn.2 v (e3 v hv)⟩
   . obtain⟨d,hd,aS⟩:=aw c hc y hy
     exact (ae.ok.num _ (aar hd)).ins y aS
 . have a6:=aiY (fun x:DBlock=>x.list.length) hx
   obtain⟨c,hc,rfl⟩:=abS hx;rw [hlen] at hc;refine⟨?_,?_,?_,fun p hp=>?_,fun y hy=>?_⟩
   . rcases abT hb h5 c with⟨-,e⟩ | ⟨-,rfl,e⟩ | ⟨-,-,e⟩
     . rw [e];exact Aaj _
     . rw [e];show (blkOf (ac7 bs (toJ bs c) c) c).phis.length<=_;rw [(aaN ae.ok h5 c).2.2];exact (ae.ok.small _ (aar hc)).phis
     . rw [e,(aaN ae.ok h5 c).2.2];exact (ae.ok.small _ (aar hc)).phis
   . exact Aai a6 (by rw [aJ];exact ae.sum)
   . rcases af c hc with e | ⟨d,hd,e⟩
     . rw [e];exact Aaj _
     . rw [e];exact (ae.ok.small _ (aar hd)).to
   . obtain⟨-,p0,h0,-,e2,-⟩:=ai c hc p hp
     rw [e2];exact (ae.ok.small _ (aar hc)).src p0 h0
   . obtain⟨d,hd,aS⟩:=aw c hc y hy
     exact (ae.ok.small _ (aar hd)).args y aS
 . obtain⟨c,hc,rfl⟩:=abS hx
   rw [hlen] at hc;rcases af c hc with e | ⟨d,hd,e⟩
   . rw [e];exact Aaj _
   . rw [e];exact ae.ok.to2 _ (aar hd)
 . obtain⟨c,hc,rfl⟩:=abS hx
   rw [hlen] at hc ⊢;rcases af c hc with e | ⟨d,hd,e⟩
   . rw [e];intro u hu;exact absurd hu (Aaq)
   . rw [e];exact ae.ok.toIn _ (aar hd)
 . rw [hlen] at hc
   obtain⟨e0,p0,h0,-,e2,-⟩:=ai c hc p hp;rw [e2,ahW ae hb h e0 aE];exact ae.ok.src c hc p0 h0
 . obtain⟨c,hc,rfl⟩:=abS hx
   rw [hlen] at hc;rcases af c hc with e | ⟨d,hd,e⟩
   . rw [e];intro hk;exact absurd hk (by decide)
   . rw [e];exact ae.jump _ (aar hd)
end
end
section
open Go.RowKit
def atG(bs:List DBlock)(b t:Nat):DBlock:={ blkOf bs b with list:=(blkOf bs b).list++(blkOf bs t).list }
def agq(bs:List DBlock)(V:Pth->Value)(b t:Nat):Pth->List (List Value):=aaU (aae bs V) (.list b) (aae bs V (.list b)++aae bs V (.list t))
variable {bs:List DBlock}{V:Pth->Value}{b:Nat}
theorem abt{t:Nat}(q:Pth)(h:∀i,q ≠ .list i):agq bs V b t q=aae bs V q:=aag _ _ (h b)
theorem amJ(bs:List DBlock)(b t:Nat)(hb:b<bs.length)(i:Nat):(blkOf (bs.set b (atG bs b t)) i).fin=(blkOf bs i).fin:=by
 rw [aaR hb];split
 . rename_i e;subst e;rfl
 . rfl
variable {W:World}{base:Nat}
theorem anw{t:Nat}(h:aah W base (okP bs) V (agq bs V b t))(hn:∀x∈bs,aoq x)(hb:b<bs.length)(ht:t<bs.length) :
 SlAt (fun x=>base<=x∧x<W.heap.size) W 6 aa2 (V .blks) (bs.set b (atG bs b t)):=by
 have aV:∀c,blkOf (bs.set b (atG bs b t)) c=if c=b then atG bs b t else blkOf bs c:=aaR hb _
 refine aah.read (r:=aa2) h (p := .blks) trivial (by rw [abt _ (by simp)];simp [aae]) (fun c x hx=>?_);have hc:c<bs.length:=by have:=(Aad.1 hx).1;simpa using this
 have aO:=aaZ hx;have aA:=hn _ (aar hc);have af:x.fin=(blkOf bs c).fin:=by rw [<-aO,amJ bs b t hb]
 have ai:x.phis=(blkOf bs c).phis:=by
  rw [<-aO,aV];split
  . rename_i e;subst e;rfl
  . rfl
 refine⟨_,by rw [abt _ (by simp)];show (bs.mapIdx _)[c]?=_;rw [aai,aan bs hc];rfl,V (.phis c),V (.list c),_,rfl,?_,?_,V (.to c),by rw [af],?_,by rw [af];exact aA.kind,by rw [af];exact aA.on⟩
 . refine aah.read (r:=amb) h (p := .phis c) hc (by rw [abt _ (by simp),ai];simp [aae]) (fun i p hp=>?_)
   rw [ai] at hp;refine⟨_,by rw [abt _ (by simp)];show ((blkOf bs c).phis.mapIdx _)[i]?=_;rw [aai,hp];rfl,V (.src c i),rfl,?_,(aA.phi p (Aae hp)).1⟩;have aK:(blkOf bs c).phis.getD i abw=p:=by rw [Aaf,hp];rfl
   refine aah.read (r:=agi) h (p := .src c i) (show i<(blkOf bs c).phis.length from (Aad.1 hp).1) (by rw [abt _ (by simp)];simp only [aae];rw [aK,Aah]) (fun j v hv=>?_);exact⟨aaz v,by rw [abt _ (by simp)];simp only [aae];rw [aK,Aak,hv];rfl,rfl,(aA.phi p (Aae hp)).2 v (Aae hv)⟩
 . have ins:∀d,d<bs.length->∀i y,(blkOf bs d).list[i]?=some y->acs (fun x=>base<=x∧x<W.heap.size) W (abN y (V (.args d i))) y:=fun d hd i y hy=>by
    obtain⟨n1,n2,n3,n4,n5,n6⟩:=(hn _ (aar hd)).ins y (Aae hy);refine⟨_,rfl,?_,n1,n2,n3,n4,n5⟩;have aK:(blkOf bs d).list.getD i abM=y:=by rw [Aaf,hy];rfl
    refine aah.read (r:=agi) h (p := .args d i) (show i<(blkOf bs d).list.length from (Aad.1 hy).1) (by rw [abt _ (by simp)];simp only [aae];rw [aK,Aah]) (fun j v hv=>?_);exact⟨aaz v,by rw [abt _ (by simp)];simp only [aae];rw [aK,Aak,hv];rfl,rfl,n6 v (Aae hv)⟩
   by_cases e:c=b
   . subst e
     have aM:x.list=(blkOf bs c).list++(blkOf bs t).list:=by rw [<-aO,aV,if_pos rfl];rfl
     have hC:agq bs V c t (.list c)=((blkOf bs c).list.mapIdx fun i x=>abN x (V (.args c i)))++((blkOf bs t).list.mapIdx fun i x=>abN x (V (.args t i))):=by unfold agq;rw [aaj];rfl
     refine aah.read (r:=acs) h (p := .list c) hc (by rw [hC,aM];simp) (fun i y hy=>?_);rw [aM] at hy;rw [hC]
     by_cases hi:i<(blkOf bs c).list.length
     . rw [Abl hi] at hy
       exact⟨_,by rw [Abl (by simpa using hi),aai,hy];rfl,ins c hc i y hy⟩
     . rw [Aby (by omega)] at hy
       refine⟨_,by rw [Aby (by simp;omega),Abi,aai,hy];rfl,ins t ht _ y hy⟩
   . have aM:x.list=(blkOf bs c).list:=by rw [<-aO,aV,if_neg e]
     have hC:agq bs V b t (.list c)=aae bs V (.list c):=aag _ _ (by simp [e]);refine aah.read (r:=acs) h (p := .list c) hc (by rw [hC,aM];simp [aae]) (fun i y hy=>?_);rw [aM] at hy;rw [hC];exact⟨_,by show ((blkOf bs c).list.mapIdx _)[i]?=_;rw [aai,hy];rfl,ins c hc i y hy⟩
 . refine aah.read (r:=acz) h (p := .to c) hc (by rw [abt _ (by simp),af];simp [aae]) (fun i u hu=>?_)
   rw [af] at hu;exact⟨[.int .i64 u],by rw [abt _ (by simp)];show ((blkOf bs c).fin.to.map _)[i]?=_;rw [Aak,hu];rfl,rfl,aA.to u (Aae hu)⟩
def aio (bs : List DBlock) (b t : Nat) : Pth -> Pth
 | .to c=>if c=b then .to t else .to c
 | .args c i=>if c=b∧(blkOf bs b).list.length<=i then .args t (i - (blkOf bs b).list.length) else .args c i
 | q=>q
def ap9(bs:List DBlock)(b t:Nat)(V:Pth->Value):Pth->Value:=aaU (aaU (aaU (fun q=>V (aio bs b t q)) (.phis t) (.slice none 0 0)) (.list t) (.slice none 0 0)) (.to t) (.slice none 0 0)
theorem abE.map{W3:World}{X:Nat->Prop}{ok ok':Pth->Prop}{C:Pth->List (List Value)}(h:abE W3 W base X ok V C)(f:Pth->Pth)(ht:∀p,(f p).ty=p.ty∧(f p).sz=p.sz)(ho:∀p,ok' p->ok (f p))(hi:∀p q,ok' p->ok' q->f p=f q->p=q):abE W3 W base X ok' (fun p=>V (f p)) (fun p=>C (f p)) :=
 ⟨h.rows.map f ht ho hi,fun p hp=>h.off (f p) (ho p hp),h.low,h.kept,h.old,h.le⟩
theorem anx{W3:World}  {X : Nat -> Prop}  {V : Pth -> Value}  {C : Pth -> List (List Value)} (ae : ae4 bs) (hb : b < bs.length) (hm : acd bs b = true)
 (h:abE W3 W base X (okP bs) V C) (hC:∀q,q ≠ .blks->C q=afY (ac7 bs (toJ bs b) b) V (agq bs V b (toJ bs b)) q)
 (hblk:C .blks=((aae bs V .blks).set b (abe (afZ bs (toJ bs b) b) (V (.phis b)) (V (.list b)) (V (.to (toJ bs b))))).set (toJ bs b) (abe ac6 (.slice none 0 0) (.slice none 0 0) (.slice none 0 0))) :
 abE W3 W base X (okP (aaJ bs b)) (ap9 bs b (toJ bs b) V) (aae (aaJ bs b) (ap9 bs b (toJ bs b) V)):=by
 obtain⟨h1,h2,h3,h4,h5,h6⟩:=aba ae hb hm;obtain⟨t,ht⟩:∃t,t=toJ bs b:=⟨_,rfl⟩
 rw [<-ht] at h2 h3 h5 hC hblk ⊢;have ah:∀c,blkOf (aaJ bs b) c=if c=t then ac6 else if c=b then afZ bs t b else blkOf (ac7 bs t b) c:=fun c=>by rw [ht];exact aeI hb (by rw [<-ht];exact h5) c
 have aj:=fun c=>aaN (b:=b) ae.ok h5 c;have hl:=aaQ bs b;have aC:∀c,c≠t->(blkOf (aaJ bs b) c).phis=(blkOf (ac7 bs t b) c).phis:=fun c hc=>by
  rw [ah,if_neg hc];split
  . rename_i e;subst e;rfl
  . rfl
 have bh := h.map (ok' := fun q => okP (aaJ bs b) q ∧ q ≠ .phis t ∧ q ≠ .list t ∧ q ≠ .to t) (aio bs b t) (fun p => by
  cases p <;> first
   | exact ⟨rfl, rfl⟩
   | (simp only [aio]; split <;> exact ⟨rfl, rfl⟩)) (fun q hq => by
  obtain ⟨hq, n1, n2, n3⟩ := hq
  cases q with
  | blks => exact trivial
  | phis c => have : c < _ := hq; show c < bs.length; omega
  | src c i =>
    have ag : i < (blkOf (aaJ bs b) c).phis.length := hq
    by_cases hc : c = t
    . rw [ah, if_pos hc] at ag; exact absurd ag (Aa4 _)
    . rw [aC c hc, (aj c).2.2] at ag; exact ag
  | list c => have : c < _ := hq; show c < bs.length; omega
  | args c i =>
    have ag : i < (blkOf (aaJ bs b) c).list.length := hq
    rw [ah] at ag
    by_cases hc : c = t
    . rw [if_pos hc] at ag; exact absurd ag (Aa4 _)
    . rw [if_neg hc] at ag
      by_cases ay : c = b
      . rw [if_pos ay] at ag
        have a7 : i < ((blkOf bs b).list ++ (blkOf bs t).list).length := ag
        rw [Aau] at a7
        simp only [aio]
        by_cases hi : (blkOf bs b).list.length <= i
        . rw [if_pos ⟨ay, hi⟩]; show _ < _; omega
        . rw [if_neg (fun h => hi h.2), ay]; show _ < _; omega
      . rw [if_neg ay, (aj c).2.1] at ag
        simp only [aio]
        rw [if_neg (fun h => ay h.1)]; exact ag
  | «to» c =>
    have ag : c < (aaJ bs b).length := hq
    simp only [aio]
    split
    . exact h5
    . show c < bs.length; omega
  | vBlk => exact absurd hq id
  | vPhi => exact absurd hq id
  | vIns => exact absurd hq id) (fun p q hp hq e => by
  obtain ⟨hp, p1, p2, p3⟩ := hp
  obtain ⟨hq, q1, q2, q3⟩ := hq
  have av : ∀ c i, okP (aaJ bs b) (.args c i) -> c ≠ t := fun c i h hc => by
   have h' : i < (blkOf (aaJ bs b) c).list.length := h
   rw [ah, if_pos hc] at h'; exact absurd h' (Aa4 _)
  cases p <;> cases q <;> first
   | exact e
   | exact absurd hp id
   | exact absurd hq id
   | (simp only [aio] at e; done)
   | (simp only [aio] at e; split at e <;> simp only [reduceCtorEq] at e; done)
   | (simp only [aio] at e; split at e <;> split at e <;> simp only [reduceCtorEq] at e; done)
   | (rename_i c d
      simp only [aio] at e
      have hc : c ≠ t := fun h => p3 (by rw [h])
      have hd : d ≠ t := fun h => q3 (by rw [h])
      by_cases e1 : c = b <;> by_cases e2 : d = b <;> simp only [e1, e2, if_true, if_false, Pth.to.injEq] at e
      . rw [e1, e2]
      . exact absurd e.symm hd
      . exact absurd e hc
      . rw [e])
   | (rename_i c i d j
      simp only [aio] at e
      have hc := av c i hp
      have hd := av d j hq
      by_cases e1 : c = b ∧ (blkOf bs b).list.length <= i <;> by_cases e2 : d = b ∧ (blkOf bs b).list.length <= j
      . rw [if_pos e1, if_pos e2] at e
        simp only [Pth.args.injEq, true_and] at e
        rw [e1.1, e2.1]; congr 1; omega
      . rw [if_pos e1, if_neg e2] at e
        simp only [Pth.args.injEq] at e
        exact absurd e.1.symm hd
      . rw [if_neg e1, if_pos e2] at e
        simp only [Pth.args.injEq] at e
        exact absurd e.1 hc
      . rw [if_neg e1, if_neg e2] at e
        exact e))
 have aZ:=((bh.nil (.phis t) (fun h=>h.2.1 rfl)).nil (.list t) (fun h=>h.elim (fun h=>h.2.2.1 rfl) (by simp))).nil (.to t) (fun h=>h.elim (fun h=>h.elim (fun h=>h.2.2.2 rfl) (by simp)) (by simp));refine (aZ.less (ok':=okP (aaJ bs b)) fun q hq=>?_).congr (fun q _=>rfl) (fun q hq=>?_)
 . by_cases e1:q = .to t
   . exact .inr e1
   . by_cases e2:q = .list t
     . exact .inl (.inr e2)
     . by_cases e3:q = .phis t
       . exact .inl (.inl (.inr e3))
       . exact .inl (.inl (.inl ⟨hq,e3,e2,e1⟩))
 . have hV:∀q,q ≠ .phis t->q ≠ .list t->q ≠ .to t->ap9 bs b t V q=V (aio bs b t q):=fun q n1 n2 n3=>by
    unfold ap9;rw [aag _ _ n3,aag _ _ n2,aag _ _ n1]
   have aR:ap9 bs b t V (.phis t) = .slice none 0 0∧ap9 bs b t V (.list t) = .slice none 0 0∧ap9 bs b t V (.to t) = .slice none 0 0:=by
    unfold ap9;refine⟨?_,?_,aaj _ _ _⟩
    . rw [aag _ _ (by simp),aag _ _ (by simp),aaj]
    . rw [aag _ _ (by simp),aaj]
   by_cases e1:q = .to t
   . subst e1
     rw [aaj];simp only [aae];rw [ah,if_pos rfl];rfl
   rw [aag _ _ e1]
   by_cases e2:q = .list t
   . subst e2
     rw [aaj];simp only [aae];rw [ah,if_pos rfl];rfl
   rw [aag _ _ e2]
   by_cases e3:q = .phis t
   . subst e3
     rw [aaj];simp only [aae];rw [ah,if_pos rfl];rfl
   rw [aag _ _ e3];cases q with
   | blks =>
     show _=C .blks;rw [hblk];simp only [aae];apply Aao;intro c;rw [aai,Aa6,Aar,Abi,Aa6,Abi,aai]
     by_cases hc:c<bs.length
     . rw [aan (aaJ bs b) (by omega),aan bs hc,Aaw,Aaw,ah]
       by_cases ct:c=t
       . subst ct
         rw [if_pos rfl,if_pos rfl,if_pos hc,aR.1,aR.2.1,aR.2.2]
       . rw [if_neg ct,if_neg (show ¬t=c from fun h=>ct h.symm),hV (.phis c) (by simp [ct]) (by simp) (by simp),hV (.list c) (by simp) (by simp [ct]) (by simp),hV (.to c) (by simp) (by simp) (by simp [ct])]
         by_cases cb:c=b
         . subst cb
           rw [if_pos rfl,if_pos rfl,if_pos hc];simp only [aio,if_true]
         . rw [if_neg cb,if_neg (show ¬b=c from fun h=>cb h.symm)]
           simp only [aio,if_neg cb,abe,(aj c).1]
     . rw [Aap (l:=aaJ bs b) (by omega),Aap (l:=bs) (by omega),if_neg (by omega),if_neg (by omega)];rfl
   | phis c =>
     have ar:c≠t:=fun h=>e3 (by rw [h]);show _=C (.phis c);rw [hC _ (by simp)];show _=agq bs V b t (.phis c);rw [abt _ (by simp)];simp only [aae];rw [aC c ar];apply Aao;intro i;rw [aai,aai,hV (.src c i) (by simp) (by simp) (by simp)];simp only [aio];rw [alO ae.ok h5];split
     . simp only [ap8,Aak,Option.map_map]
       congr 1
     . rfl
   | src c i =>
     have ar:c≠t:=fun h=>by
      have ag:i<(blkOf (aaJ bs b) c).phis.length:=hq;rw [ah,if_pos h] at ag;exact absurd ag (Aa4 _)
     show _=C (.src c i);rw [hC _ (by simp)];simp only [afY,aae];rw [aC c ar]
   | list c =>
     have ar:c≠t:=fun h=>e2 (by rw [h]);show _=C (.list c);rw [hC _ (by simp)];show _=agq bs V b t (.list c);simp only [aae];rw [ah,if_neg ar]
     by_cases cb:c=b
     . subst cb
       rw [if_pos rfl];unfold agq;rw [aaj];simp only [afZ,aae];apply Aao;intro i;rw [aai,hV (.args c i) (by simp) (by simp) (by simp)];simp only [aio,true_and]
       by_cases hi:i<(blkOf bs c).list.length
       . rw [Abl hi,Abl (by simpa using hi),aai,if_neg (by omega)]
       . rw [Aby (by omega),Aby (by simp;omega),Abi,aai,if_pos (by omega)]
     . rw [if_neg cb]
       unfold agq;rw [aag _ _ (by simp [cb])];simp only [aae];rw [(aj c).2.1];apply Aao;intro i;rw [aai,aai,hV (.args c i) (by simp) (by simp) (by simp)];simp only [aio];rw [if_neg (fun h=>cb h.1)]
   | args c i =>
     have ar:c≠t:=fun h=>by
      have ag:i<(blkOf (aaJ bs b) c).list.length:=hq;rw [ah,if_pos h] at ag;exact absurd ag (Aa4 _)
     show _=C (aio bs b t (.args c i));simp only [aae];rw [ah,if_neg ar]
     by_cases cb:c=b
     . subst cb
       rw [if_pos rfl];simp only [aio,true_and,afZ]
       by_cases hi:(blkOf bs c).list.length<=i
       . rw [if_pos hi,hC _ (by simp)]
         show _=agq bs V c t (.args t _);rw [abt _ (by simp)];simp only [aae];rw [Aaf,Aby hi,<-Aaf]
       . rw [if_neg hi,hC _ (by simp)]
         show _=agq bs V c t (.args c i);rw [abt _ (by simp)];simp only [aae];rw [Aaf,Abl (by omega),<-Aaf]
     . rw [if_neg cb]
       simp only [aio];rw [if_neg (fun h=>cb h.1),hC _ (by simp)];show _=agq bs V b t (.args c i);rw [abt _ (by simp)];simp only [aae];rw [(aj c).2.1]
   | «to» c =>
     have ar:c≠t:=fun h=>e1 (by rw [h]);show _=C (aio bs b t (.to c));simp only [aae];rw [ah,if_neg ar];simp only [aio]
     by_cases cb:c=b
     . subst cb
       rw [if_pos rfl,if_pos rfl,hC _ (by simp)];show _=agq bs V c t (.to t);rw [abt _ (by simp)];rfl
     . rw [if_neg cb,if_neg cb,hC _ (by simp)]
       show _=agq bs V b t (.to c);rw [abt _ (by simp)];simp only [aae];rw [(aj c).1]
   | vBlk=>exact absurd hq id
   | vPhi=>exact absurd hq id
   | vIns=>exact absurd hq id
end
section
open Go.RowKit
theorem ahY {P:Program}{w:World}(base:Nat)(t ty e:TypeId)(i:TypeInfo)(size:Nat)(ht:P.underlying t=some (.slice e))(hi:P.info? e=some i)(v:Value)(n:Nat)(xs:List Value)(an:w.ownsRow base e size v n xs)(xa:Option Addr)(c:Nat) :
 (Builtin.append_ #[t,t] ty #[v,.slice xa 0 c]).run P w = .ok v w:=by
 have hl:∀(x:Addr),(loadCells x 0).run P w = .ok #[] w:=fun x=>by simpa using run_loadCells_list (P:=P) w x [] (by simp)
 rcases an.2 with⟨rfl,rfl⟩ | ⟨g,cap,cur,rfl,_,_,aA,_⟩
 . cases xa <;> simp [Builtin.append_,run_underlying ht,sizeOf,typeInfo,hi,Builtin.lenOf,Builtin.firstCells,hl]
 . cases xa <;> simp [Builtin.append_,run_underlying ht,sizeOf,typeInfo,hi,Builtin.lenOf,Builtin.firstCells,aA,storeCells,hl]
theorem ahZ {P : Program} {w : World} (base : Nat) (t ty e : TypeId) (i : TypeInfo) (z : Value) (size bytes : Nat) (ht : P.underlying t = some (.slice e)) (hi : P.info? e = some i) (hz : i.zero = some z)
 (aG:i.size=size) (aX:i.bytes=bytes) (bd:z.cells.size=size) (a8:0<size)
 (v:Value) (n:Nat) (xs:List Value) (an:w.ownsRow base e size v n xs) (xa:Option Addr) (m c:Nat) (news:List Value) (hl:news.length=m * size)
 (aL:0<m->∃ad,xa=some ad∧∀(j:Nat) u,news[j]?=some u->w.cell? (ad.add j)=some u) (h1:∀u∈news,u.oneCell'=true)
 (aY:n+m<=maxLen) (ax:(n+m) * bytes<=140737488355328) (aH:base<=w.heap.size) :
 ∃v' w',(Builtin.append_ #[t,t] ty #[v,.slice xa m c]).run P w = .ok v' w'∧w'.ownsRow base e size v' (n+m) (xs++news)∧w.grownBy w' v.ownBlock∧(v'.ownBlock=v.ownBlock∨v'.ownBlock=some w.heap.size):=by
 by_cases hm:m=0
 . subst hm
   have hn:news=[]:=Aba (by omega);subst hn;exact⟨v,w,ahY base t ty e i size ht hi v n xs an xa c,by rw [Ab5,Nat.add_zero];exact an,⟨rfl,rfl,rfl,Aac _,fun _ _ _=>rfl⟩,.inl rfl⟩
 . obtain⟨ad,rfl,hn⟩:=aL (by omega)
   obtain⟨v',w',aB,aN,aF,-,ah⟩:=run_append_own_at (P:=P) w base t ty e i z size bytes ht hi hz aG aX bd a8 v n xs an ad m c news hl hn h1 aY ax aH;exact⟨v',w',aB,aN,aF,ah⟩
theorem aiu {P : Program} {w : World} {ops : Array Oper} {o : Oper} {a : Act} {K : Act -> World -> Prop} {Q : Exit -> Act -> World -> Prop} {E : Prop} (bf : o.guard = none) (d s : Operand) (t t' : TypeId)
 (ho:o.op = .call { callee := .builtin .append,args:=#[d,s],argTypes:=#[t,t'] }) (v u:Value) (hd:a.eval d=v) (hs:a.eval s=u) {R:Value->World->Prop}
 (hr:∀ty,∃v' w',(Builtin.append_ #[t,t'] ty #[v,u]).run P w = .ok v' w'∧R v' w') (h:∀v' w',R v' w'->K (a.put o.dst v') w'):if Region.wanted o (yielded ops a.tmps)=true then Oper.wp P o a w K Q else E:=by
 have hw:Region.wanted o (yielded ops a.tmps)=true:=by simp [Region.wanted,bf]
 rw [if_pos hw];obtain⟨v',w',aB,hR⟩:=hr o.type;unfold Oper.wp execOp;simp only [ho,resolve,invoke,builtin,Sem.run_bind,Sem.run_pure,Result.andThen_ok,List.map_toArray,Aa1,List.map_nil,hd,hs,aB];exact h v' w' hR
section
variable {W3 W W' : World} {base : Nat} {X : Nat -> Prop} {bs : List DBlock} {V : Pth -> Value}
theorem abE.addList {b t R n bc : Nat} (h : abE W3 W base X (okP bs) V (aae bs V)) (hb : b < bs.length) (hv : V .blks = .slice (some ⟨R, 0, none⟩) n bc) {v' : Value} {m : Nat}
 (ho:W'.ownsRow base 49 8 v' m ((aae bs V (.list b)).flatten++(aae bs V (.list t)).flatten)) (hm:(aae bs V (.list b)).length+(aae bs V (.list t)).length=m)
 (hg:W.grownBy W' (V (.list b)).ownBlock) (bj:∀k,v'.ownBlock=some k->(V (.list b)).ownBlock=some k∨W.heap.size<=k) :
 abE W3 (W'.setCell ⟨R,b * 6+1,none⟩ v') base X (okP bs) (aaU V (.list b) v') (agq bs (aaU V (.list b) v') b t):=by
 have hw:∀c,∀cs∈aae bs V (.list c),cs.length=8:=fun c cs aQ=>by
  simp only [aae] at aQ;obtain⟨i,hi⟩:=Acl.1 aQ;rw [aai] at hi;cases hx:(blkOf bs c).list[i]? with
  | none=>rw [hx] at hi;cases hi
  | some y=>rw [hx] at hi;cases hi;rfl
 have h1 := h.turn (p := .list b) hb (v' := v') (xss := aae bs V (.list b) ++ aae bs V (.list t)) (by rw [Aau, Abu, hm]; exact ho) (fun cs aQ => by
  rcases Aa7.1 aQ with h | h
  . exact hw b cs h
  . exact hw t cs h) hg bj
 have be:(aae bs V .blks)[b]?=some (abe (blkOf bs b) (V (.phis b)) (V (.list b)) (V (.to b))):=by
  simp only [aae];rw [aai,aan bs hb];rfl
 have h2:=h1.set (p := .blks) trivial (g:=R) (n:=n) (c:=bc) (i:=b) (j:=1) (by rw [aag _ _ (by simp)];exact hv) (cs:=abe (blkOf bs b) (V (.phis b)) (V (.list b)) (V (.to b))) (by rw [aag _ _ (by simp)];exact be) (by decide) v';have hl:∀c,aae bs (aaU V (.list b) v') (.list c)=aae bs V (.list c):=fun c=>by simp [aae,aaU]
 refine h2.congr (fun q _=>rfl) (fun q _=>?_)
 by_cases e:q = .blks
 . subst e
   rw [abt _ (by simp),aaj,aag _ _ (by simp)];simp only [aae];apply Aao;intro c;rw [aai,Aa6,Abi,aai]
   by_cases ec:b=c
   . subst ec
     rw [if_pos rfl,if_pos hb,aan bs hb,Aaw,aaj,aag _ _ (by simp),aag _ _ (by simp)];rfl
   . rw [if_neg ec,aag _ _ (by simp),aag _ _ (by simp;omega),aag _ _ (by simp)]
 . rw [aag _ _ e]
   by_cases e2:q = .list b
   . subst e2
     rw [aaj];unfold agq;rw [aaj,hl,hl]
   . rw [aag _ _ e2]
     unfold agq;rw [aag _ _ e2];cases q with
     | blks=>exact absurd rfl e
     | _=>simp [aae,aaU]
theorem abE.set4 {ok:Pth->Prop}{C:Pth->List (List Value)}(h:abE W3 W base X ok V C)(hp:ok .blks){g n c i:Nat}(hv:V .blks = .slice (some ⟨g,0,none⟩) n c){a0 a1 a2 a3 a4 a5:Value}(hi:(C .blks)[i]?=some [a0,a1,a2,a3,a4,a5])(u2 u3 u4 u5:Value) :
 abE W3 ((((W.setCell ⟨g,i * 6+2,none⟩ u2).setCell ⟨g,i * 6+3,none⟩ u3).setCell ⟨g,i * 6+4,none⟩ u4).setCell ⟨g,i * 6+5,none⟩ u5) base X ok V (aaU C .blks ((C .blks).set i [a0,a1,u2,u3,u4,u5])):=by
 have aD:i<(C .blks).length:=(Aad.1 hi).1;have r2:=h.set (p := .blks) hp (g:=g) (n:=n) (c:=c) hv hi (j:=2) (by decide) u2;have r3:=r2.set (p := .blks) hp (g:=g) (n:=n) (c:=c) hv (cs:=[a0,a1,u2,a3,a4,a5]) (i:=i) (by rw [aaj];exact Aa5 aD) (j:=3) (by decide) u3;have r4:=r3.set (p := .blks) hp (g:=g) (n:=n) (c:=c) hv (cs:=[a0,a1,u2,u3,a4,a5]) (i:=i) (by rw [aaj,aaj,Aaz];exact Aa5 aD) (j:=4) (by decide) u4;have r5:=r4.set (p := .blks) hp (g:=g) (n:=n) (c:=c) hv (cs:=[a0,a1,u2,u3,u4,a5]) (i:=i) (by rw [aaj,aaj,aaj,Aaz,Aaz];exact Aa5 aD) (j:=5) (by decide) u5;refine r5.congr (fun q _=>rfl) (fun q _=>?_)
 by_cases e:q = .blks
 . subst e
   simp only [aaj,Aaz];rfl
 . simp only [aag _ _ e]
theorem abE.set6 {ok:Pth->Prop}{C:Pth->List (List Value)}(h:abE W3 W base X ok V C)(hp:ok .blks){g n c i:Nat}(hv:V .blks = .slice (some ⟨g,0,none⟩) n c){a0 a1 a2 a3 a4 a5:Value}(hi:(C .blks)[i]?=some [a0,a1,a2,a3,a4,a5])(u0 u1 u2 u3 u4 u5:Value) :
 abE W3 ((((((W.setCell ⟨g,i * 6,none⟩ u0).setCell ⟨g,i * 6+1,none⟩ u1).setCell ⟨g,i * 6+2,none⟩ u2).setCell ⟨g,i * 6+3,none⟩ u3).setCell ⟨g,i * 6+4,none⟩ u4).setCell ⟨g,i * 6+5,none⟩ u5) base X ok V (aaU C .blks ((C .blks).set i [u0,u1,u2,u3,u4,u5])):=by
 have aD:i<(C .blks).length:=(Aad.1 hi).1;have r0:=h.set (p := .blks) hp (g:=g) (n:=n) (c:=c) hv hi (j:=0) (by decide) u0;have r1:=r0.set (p := .blks) hp (g:=g) (n:=n) (c:=c) hv (cs:=[u0,a1,a2,a3,a4,a5]) (i:=i) (by rw [aaj];exact Aa5 aD) (j:=1) (by decide) u1;have r2:=r1.set4 hp hv (a0:=u0) (a1:=u1) (a2:=a2) (a3:=a3) (a4:=a4) (a5:=a5) (i:=i) (by rw [aaj,aaj,Aaz];exact Aa5 aD) u2 u3 u4 u5;refine r2.congr (fun q _=>rfl) (fun q _=>?_)
 by_cases e:q = .blks
 . subst e
   simp only [aaj,Aaz]
 . simp only [aag _ _ e]
end
theorem acV {bs : List DBlock} {b : Nat} (h : acd bs b = false) : ∀ f, abL f bs b = bs
 | 0=>rfl
 | f+1=>by unfold abL;rw [h];rfl
theorem akJ {bs:List DBlock}{b:Nat}(ae:ae4 bs)(hb:b<bs.length)(h:acd bs b=true):abL (jN bs) bs b=abL (jN (aaJ bs b)) (aaJ bs b) b:=by
 rw [<-ag4 ae hb h];show (if acd bs b=true then _ else _)=_;rw [if_pos h]
theorem aiZ {b : Nat} : ∀ (f : Nat) (bs : List DBlock), ae4 bs -> b < bs.length -> ae4 (abL f bs b) ∧ (abL f bs b).length = bs.length
 | 0,bs,h,_=>⟨h,rfl⟩
 | f+1,bs,h,hb=>by
   unfold abL
   by_cases hm:acd bs b=true
   . rw [if_pos hm]
     have h1:=aiZ f (aaJ bs b) (adg h hb hm) (by rw [aaQ];exact hb);exact⟨h1.1,by rw [h1.2,aaQ]⟩
   . rw [if_neg hm];exact⟨h,rfl⟩
theorem acD {bs : List DBlock} (h : ae4 bs) : ∀ k, k <= bs.length -> ae4 (abD bs k) ∧ (abD bs k).length = bs.length
 | 0,_=>⟨h,rfl⟩
 | k+1,hk=>by
   obtain⟨h1,h2⟩:=acD h k (by omega);rw [abr];have h3:=aiZ (b:=k) (jN (abD bs k)) _ h1 (by omega);exact⟨h3.1,by rw [h3.2,h2]⟩
end
end Go.Proofs.YtpeejlpcikefcaaGreatDoor
