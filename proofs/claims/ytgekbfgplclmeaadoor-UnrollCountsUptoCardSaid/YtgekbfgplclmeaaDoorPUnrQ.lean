import Derived.Test.YtgekbfgplclmeaaDoorPUnrC2
/- slices.Index and slices.Contains of ints. A map from registers to numbers in memory; the value of unroll.rounds. Two rows of the call's own that tell what is known of registers: their numbers, and whether they are known. -/
set_option maxHeartbeats 1000000
namespace Go.Proofs.YtgekbfgplclmeaaDoor
section
open Go.RowKit
def abj(l:List Int)(s:Int):Int:=match l.findIdx? (fun x=>decide (s=x)) with | some k=>k | none => -1
def aht(l:List Int)(s:Int):Bool:=decide (0<=abj l s)
theorem acP {S:Nat->Prop}(ao:Option Addr)(n c:Nat)(l:List Int)(s:Int)(w:World)(h:SlAt S w 1 abe (.slice ao n c) l)(hn:l.length=n)(ak:n<=1048576) :
 Calls Tryd.prog 34 #[.slice ao n c,.int .i64 s] w fun e w'=>e = .returned (.int .i64 (abj l s))∧w=w':=by
 have Hh:=hid h;have Hn:=hid hn;clear h hn;go_enter Tryd.func34,Tryd.ntmps34;go_wp2_with fail;go_loop [8] (fun i=>∃k:Nat,k<=n∧i = .int .i64 k∧∀j,j<k->∀x,l[j]?=some x->decide (s=x)=false) (fun i=>n - (intOf i).toNat)
 case atStart=>exact⟨0,Aaf _,rfl,fun j hj=>by omega⟩
 case round =>
  obtain⟨k,hk,rfl,af⟩:=hrel;have H:=hid af;clear af
  by_cases hlt:k<n
  . have ae:k<l.length:=by rw [Hn.out];exact hlt
    obtain⟨b,off,rfl,ad⟩:=abq Hh.out ae;obtain⟨x,hx⟩:∃x,l[k]=x:=⟨_,rfl⟩
    rw [hx] at ad;have Hx:Hid (l[k]?=some x):=by show _=_;rw [Aaa ae,hx]
    have zb:b<w.heap.size:=aac ad;clear hx ae
    by_cases he:s=x
    . have Hi:Hid (abj l s=k):=by show _=_;unfold abj;rw [adv Hx.out (decide_eq_true he) H.out]
      have q0:(decide (s<=x)&&decide (x<=s))=true:=aey he;clear he;go_wp2_with fail;go_ret;exact⟨aaq Hi.out.symm,rfl⟩
    . have He:Hid (decide (s=x)=false):=decide_eq_false he
      have q0:(decide (s<=x)&&decide (x<=s))=false:=afE he;clear he;go_wp2_with fail;go_round
      case rel=>exact⟨k+1,by omega,by go_num,aa6 H.out (fun y hy=>by rw [Hx.out] at hy;cases hy;exact He.out)⟩
      case measure=>simp [intOf];omega
  . have Hi:Hid (abj l s = -1):=by
     show _=_;unfold abj;rw [adu (fun j x hx=>H.out j (by have:=(Aae.1 hx).1;have:=Hn.out;omega) x hx)]
    go_wp2_with fail;go_ret;exact⟨aaq Hi.out.symm,rfl⟩
theorem aew {S:Nat->Prop}(ao:Option Addr)(n c:Nat)(l:List Int)(s:Int)(w:World)(h:SlAt S w 1 abe (.slice ao n c) l)(hn:l.length=n)(ak:n<=1048576) :
 Calls Tryd.prog 33 #[.slice ao n c,.int .i64 s] w fun e w'=>e = .returned (.bool (aht l s))∧w=w':=by
 have H:=hid h;have Hn:=hid hn;clear h hn;go_enter Tryd.func33,Tryd.ntmps33;go_wp2_with (go_at_call 34;((with_reducible refine (acP _ _ _ _ _ _ H.out Hn.out ak).mono ?_);rintro e w' ⟨rfl,rfl⟩));go_ret;exact⟨rfl,rfl⟩
end
section
open Go.RowKit Go.Maps
theorem amD:Keyed Tryd.prog 3:=int_keyed Tryd.underlying3
theorem amS(w:World):(zeroValue 3).run Tryd.prog w = .ok (.int .i64 0) w:=by kernel_rfl
def ab0(w:World)(B n:Nat)(m:Km):Prop :=
 ∃D:DataW Unit,w.ownsMap Tryd.prog 3 (plainElem Tryd.prog 3) B n D∧∀r:Nat,Maps.has D (.int .i64 (r:Int))=(m r).isSome∧∀x,m r=some x->D.atKey (.int .i64 (r:Int)) (.lit (.int .i64 0)) = .lit (.int .i64 (bi x))
theorem ab0.later {w w':World}{B n:Nat}{m:Km}(h:ab0 w B n m)(hb:Below w.heap.size w w'):ab0 w' B n m:=by
 obtain⟨D,h1,h2⟩:=h;exact⟨D,h1.kept (adh (B:=0) hb none (Aaf _)) (by simp),h2⟩
theorem ab0.made(w:World):ab0 (w.alloc (.map #[] 0)) w.heap.size 0 aic :=
 ⟨.map [],World.ownsMap_made _ _ _ _,fun r=>⟨rfl,fun x h=>by cases h⟩⟩
theorem ag3 (r : Nat) (hr : r <= 1048576) : keyOf Tryd.prog 3 (.int .i64 (r : Int)) = some (.int .i64 (r : Int)) := keyOf_int_mk Tryd.underlying3 (by
 have h1 : IntKind.i64.min = -9223372036854775808 := rfl
 have h2 : IntKind.i64.max = 9223372036854775807 := rfl
 simp [Lit.wf, h1, h2]
 omega)
theorem al6(x:BitVec 64):(Lit.int .i64 (bi x)).wf=true:=by
 have:=aei x;have h1:IntKind.i64.min = -9223372036854775808:=rfl;have h2:IntKind.i64.max=9223372036854775807:=rfl;simp [Lit.wf,h1,h2];omega
theorem ai3 {r:Nat}:WideAt.IsKeyLit (.int .i64 (r:Int)):=by simp [WideAt.IsKeyLit]
theorem ab0.put {w w' : World} {B n : Nat} {D : DataW Unit} {m : Km} {r : Nat} {x : BitVec 64} (h : w'.ownsMap Tryd.prog 3 (plainElem Tryd.prog 3) B (n + 1) (D.put (.int .i64 (r : Int)) (.lit (.int .i64 (bi x)))))
 (hD:w.ownsMap Tryd.prog 3 (plainElem Tryd.prog 3) B n D) (h2:∀r:Nat,Maps.has D (.int .i64 (r:Int))=(m r).isSome∧∀x,m r=some x->D.atKey (.int .i64 (r:Int)) (.lit (.int .i64 0)) = .lit (.int .i64 (bi x))):ab0 w' B (n+1) (ahb m r x):=by
 refine⟨_,h,fun q=>?_⟩;unfold ahb
 by_cases e:q=r
 . subst e
   rw [if_pos rfl];exact⟨has_put_same hD.isMap ai3 _,fun y hy=>by cases hy;exact atKey_put_same hD.isMap ai3 _ _⟩
 . rw [if_neg e]
   have al:(Lit.int .i64 (q:Int)) ≠ .int .i64 (r:Int):=fun h=>e (by injection h with _ h;omega);refine⟨(has_put_other al _).trans (h2 q).1,fun y hy=>?_⟩;rw [atKey_put_other al];exact (h2 q).2 y hy
set_option maxRecDepth 100000 in
theorem aep(KX M n:Nat)(m:Km)(r:Bool)(k:Int)(W:World)(ag:W.cell? ⟨KX,0,none⟩=some (.map (some M)))(hM:ab0 W M n m)(hk:I64 k)(hv:r=true->0<=k∧k<1048576) :
 Calls Tryd.prog 35 #[.agg #[.bool r,.int .i64 k],.pointer (some ⟨KX,0,none⟩)] W fun e w'=>∃c:Int,e = .returned (.tuple #[.int .i64 c,.bool (aaI m ⟨r,k⟩).isSome])∧(∀x,aaI m ⟨r,k⟩=some x->c=bi x)∧I64 c∧Below W.heap.size W w':=by
 have zK:KX<W.heap.size:=aac ag;cases r with
 | true =>
   obtain⟨h0,h1⟩:=hv rfl;obtain⟨q,rfl⟩:=Aao h0;have Hk:Hid (aaI m ⟨true,(q:Int)⟩=m q):=by show _=_;unfold aaI;simp
   have ai:=ag3 q (by omega);have hb:Below W.heap.size W (W.alloc (.cells #[.bool true,.int .i64 (q:Int)] 42)):=by exact bE
   obtain⟨D,hD,h2⟩:=hM.later hb;have Hh:=hid (h2 q).1;have Ha:=hid (h2 q).2;rw [Hk.out];clear hM h2 hv h0 h1 hk hb;go_enter Tryd.func35,Tryd.ntmps35
   go_wp2_with (first
    | (at_lookup; refine wpList_lookup_own_ok_int _ rfl _ _ 101 rfl 3 3 .i64 amD Tryd.underlying101 Tryd.underlying3 (amS _) M n D rfl hD _ _ rfl ai ?_; intro c aj an; rw [Hh.out]; have aq := hid aj; have ar := hid an; clear aj an))
   go_ret2;refine⟨c,rfl,fun x hx=>?_,?_,bE⟩
   . have h:=(Ha.out x hx).symm.trans aq.out
     injection h with h;injection h with _ h;exact h.symm
   . have h:=ar.out
     have h1:IntKind.i64.min = -9223372036854775808:=rfl;have h2:IntKind.i64.max=9223372036854775807:=rfl;simp [Lit.wf,h1,h2] at h;unfold I64;omega
 | false =>
   have Hk:Hid (aaI m ⟨false,k⟩=some (af8 k)):=by show _=_;unfold aaI;simp
   have Hb:Hid (bi (af8 k)=k):=aiH hk;have Hi:=hid hk;rw [Hk.out];clear hM hv hk;go_enter Tryd.func35,Tryd.ntmps35;go_wp2_with fail;go_ret2;exact⟨k,rfl,fun x hx=>by injection hx with hx;rw [<-hx,Hb.out],Hi.out,bE⟩
end
section
open Go.RowKit
variable {m:Km}
theorem aji{k:Nat}{nx:Km}{p:adO}{x:BitVec 64}(h:aaI m (p.src.getD k ⟨false,0⟩)=some x):abb k m nx p=ahb nx p.dst.toNat x:=by unfold abb;rw [h]
theorem ajh{k:Nat}{nx:Km}{p:adO}(h:aaI m (p.src.getD k ⟨false,0⟩)=none):abb k m nx p=nx:=by unfold abb;rw [h]
variable {y:abo}
theorem aiZ(h:17<y.op):aaN m y=m:=by unfold aaN;rw [if_pos h]
theorem ald(h:¬17<y.op){a b z:BitVec 64}(ha:aaI m y.a=some a)(hb:aaI m y.b=some b)(hz:aaV y.op a b=some z):aaN m y=ahb m y.dst.toNat z:=by
 unfold aaN;rw [if_neg h,ha,hb];show (match aaV y.op a b with | some v=>ahb m y.dst.toNat v | none=>m)=_;rw [hz]
theorem ala(h:¬17<y.op){a b:BitVec 64}(ha:aaI m y.a=some a)(hb:aaI m y.b=some b)(hz:aaV y.op a b=none):aaN m y=m:=by
 unfold aaN;rw [if_neg h,ha,hb];show (match aaV y.op a b with | some v=>ahb m y.dst.toNat v | none=>m)=_;rw [hz]
theorem alb(h:¬17<y.op)(ha:aaI m y.a=none):aaN m y=m:=by
 unfold aaN;rw [if_neg h,ha];unfold amw;rfl
theorem alc(h:¬17<y.op)(hb:aaI m y.b=none):aaN m y=m:=by
 unfold aaN;rw [if_neg h,hb];unfold amw;cases aaI m y.a <;> rfl
end
end Go.Proofs.YtgekbfgplclmeaaDoor
