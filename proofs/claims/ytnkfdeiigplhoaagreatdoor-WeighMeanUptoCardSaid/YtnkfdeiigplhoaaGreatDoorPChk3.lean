import Derived.Test.YtnkfdeiigplhoaaGreatDoorProg
import Derived.WalkSpells
import Derived.WalkLawsBesides
import Derived.BigQuiet
/- The data of the program as plain Lean structures, and what it means that memory holds them. No program in sight. Contracts of core.Within and core.Name: what the two return, for every argument. Contracts of small functions that code.Check calls. Contracts of core.Shapes, slices.IndexFunc and ContainsFunc at ints, and of the checker's end. The contract of the checker's end. -/
set_option maxHeartbeats 1000000
namespace Go.Proofs.YtnkfdeiigplhoaaGreatDoor
theorem Aaa:type_of% @List.getElem?_eq_getElem:=List.getElem?_eq_getElem
theorem Aab:type_of% @Nat.zero_add:=Nat.zero_add
theorem Aac:type_of% @List.getD_eq_getElem?_getD:=List.getD_eq_getElem?_getD
theorem Aad:type_of% @Nat.le_refl:=Nat.le_refl
theorem Aae:type_of% @List.getElem?_eq_some_iff:=List.getElem?_eq_some_iff
theorem Aaf:type_of% @List.getElem_mem:=List.getElem_mem
theorem Aag:type_of% @Nat.le_trans:=Nat.le_trans
theorem Aah:type_of% @Nat.zero_le:=Nat.zero_le
theorem Aai:type_of% @List.length_append:=List.length_append
theorem Aaj:type_of% @Int.toNat_natCast:=Int.toNat_natCast
theorem Aak:type_of% @List.getElem?_map:=List.getElem?_map
theorem Aal:type_of% @List.length_map:=List.length_map
theorem Aam:type_of% @List.mem_of_getElem?:=List.mem_of_getElem?
theorem Aan:type_of% @Nat.mul_one:=Nat.mul_one
theorem Aao:type_of% @List.length_cons:=List.length_cons
theorem Aap:type_of% @Nat.lt_of_lt_of_le:=Nat.lt_of_lt_of_le
theorem Aaq:type_of% @List.mem_singleton:=List.mem_singleton
theorem Aar:type_of% @List.length_take:=List.length_take
theorem Aas:type_of% @Int.eq_ofNat_of_zero_le:=Int.eq_ofNat_of_zero_le
theorem Aat:type_of% @List.take_succ_eq_append_getElem:=List.take_succ_eq_append_getElem
theorem Aau:type_of% @List.mem_map:=List.mem_map
theorem Aav:type_of% @List.map_append:=List.map_append
theorem Aaw:type_of% @List.mem_cons:=List.mem_cons
theorem Aax:type_of% @Array.getElem?_eq_some_iff:=Array.getElem?_eq_some_iff
theorem Aay:type_of% @List.take_length:=List.take_length
theorem Aaz:type_of% @List.mem_append:=List.mem_append
theorem Aa0:type_of% @Bool.eq_iff_iff:=Bool.eq_iff_iff
theorem Aa1:type_of% @List.getElem_of_mem:=List.getElem_of_mem
theorem Aa2:type_of% @Nat.add_zero:=Nat.add_zero
theorem Aa3:type_of% @Nat.le_succ:=Nat.le_succ
theorem Aa4:type_of% @List.getElem?_range:=List.getElem?_range
theorem Aa5:type_of% @List.length_singleton:=List.length_singleton
theorem Aa6:type_of% @List.length_replicate:=List.length_replicate
theorem Aa7:type_of% @List.mem_cons_self:=List.mem_cons_self
theorem Aa8:type_of% @List.getElem?_eq_none:=List.getElem?_eq_none
theorem Aa9:type_of% @List.map_cons:=List.map_cons
theorem Aba:type_of% @List.length_reverse:=List.length_reverse
theorem Abb:type_of% @List.mem_cons_of_mem:=List.mem_cons_of_mem
theorem Abc:type_of% @Nat.lt_succ_self:=Nat.lt_succ_self
theorem Abd:type_of% @Option.getD_some:=Option.getD_some
theorem Abe:type_of% @List.append_nil:=List.append_nil
theorem Abf:type_of% @List.nil_append:=List.nil_append
theorem Abg:type_of% @Nat.lt_irrefl:=Nat.lt_irrefl
theorem Abh:type_of% @List.append_assoc:=List.append_assoc
theorem Abi:type_of% @List.getElem?_append_left:=List.getElem?_append_left
theorem Abj:type_of% @Bool.or_eq_false_iff:=Bool.or_eq_false_iff
theorem Abk:type_of% @List.ext_getElem?:=List.ext_getElem?
theorem Abl:type_of% @List.filter_cons_of_neg:=List.filter_cons_of_neg
theorem Abm:type_of% @List.flatten_cons:=List.flatten_cons
theorem Abn:type_of% @List.length_nil:=List.length_nil
theorem Abo:type_of% @List.range_succ:=List.range_succ
theorem Abp:type_of% @List.mem_filter:=List.mem_filter
theorem Abq:type_of% @List.length_eq_zero_iff:=List.length_eq_zero_iff
theorem Abr:type_of% @Nat.min_eq_left:=Nat.min_eq_left
theorem Abs:type_of% @List.filter_cons_of_pos:=List.filter_cons_of_pos
theorem Abt:type_of% @List.reverse_cons:=List.reverse_cons
theorem Abu:type_of% @List.getElem?_cons_zero:=List.getElem?_cons_zero
theorem Abv:type_of% @List.getElem?_cons_succ:=List.getElem?_cons_succ
theorem Abw:type_of% @List.take_succ_cons:=List.take_succ_cons
theorem Abx:type_of% @Array.getElem?_setIfInBounds:=Array.getElem?_setIfInBounds
theorem Aby:type_of% @List.take_of_length_le:=List.take_of_length_le
theorem Abz:type_of% @List.eq_of_mem_replicate:=List.eq_of_mem_replicate
theorem Ab0:type_of% @List.map_congr_left:=List.map_congr_left
theorem Ab1:type_of% @List.getElem?_append_right:=List.getElem?_append_right
theorem Ab2:type_of% @Bool.and_eq_false_iff:=Bool.and_eq_false_iff
theorem Ab3:type_of% @Array.getD_eq_getD_getElem?:=Array.getD_eq_getD_getElem?
theorem Ab4:type_of% @List.eq_nil_of_length_eq_zero:=List.eq_nil_of_length_eq_zero
section
open Go.RowKit
variable {B:Nat}{w W:World}
theorem bE(h:Below B w W:=by repeat (first | exact Below.refl _ _ | refine Below.alloc ?_ (by first|omega|(simp<;>omega)) _ | refine Below.setCell ?_ (by first|omega|(simp<;>omega)) _ | refine below_drewN ?_ _ | refine Below.drew ?_)):Below B w W:=h
variable {b1:Nat}{u1:World}
theorem bE1{v1:World}(h1:Below b1 u1 v1)(k:Below b1 u1 v1->Below B w W:=by intro h1;have z1:=h1.size;have y1:=z1;(try simp at y1);repeat (first | exact Below.refl _ _ | refine Below.trans ?_ (h1.mono (by first|omega|(simp<;>omega))) | refine Below.alloc ?_ (by first|omega|(simp<;>omega)) _ | refine Below.setCell ?_ (by first|omega|(simp<;>omega)) _ | refine below_drewN ?_ _ | refine Below.drew ?_)):Below B w W:=k h1
theorem bE2{b2:Nat}{v1 u2 v2:World}(h1:Below b1 u1 v1)(h2:Below b2 u2 v2)(k:Below b1 u1 v1->Below b2 u2 v2->Below B w W:=by intro h1 h2;have z1:=h1.size;have y1:=z1;(try simp at y1);have z2:=h2.size;have y2:=z2;(try simp at y2);repeat (first | exact Below.refl _ _ | refine Below.trans ?_ (h1.mono (by first|omega|(simp<;>omega))) | refine Below.trans ?_ (h2.mono (by first|omega|(simp<;>omega))) | refine Below.alloc ?_ (by first|omega|(simp<;>omega)) _ | refine Below.setCell ?_ (by first|omega|(simp<;>omega)) _ | refine below_drewN ?_ _ | refine Below.drew ?_)):Below B w W:=k h1 h2
theorem bE3{b2 b3:Nat}{v1 u2 v2 u3 v3:World}(h1:Below b1 u1 v1)(h2:Below b2 u2 v2)(h3:Below b3 u3 v3)(k:Below b1 u1 v1->Below b2 u2 v2->Below b3 u3 v3->Below B w W:=by intro h1 h2 h3;have z1:=h1.size;have y1:=z1;(try simp at y1);have z2:=h2.size;have y2:=z2;(try simp at y2);have z3:=h3.size;have y3:=z3;(try simp at y3);repeat (first | exact Below.refl _ _ | refine Below.trans ?_ (h1.mono (by first|omega|(simp<;>omega))) | refine Below.trans ?_ (h2.mono (by first|omega|(simp<;>omega))) | refine Below.trans ?_ (h3.mono (by first|omega|(simp<;>omega))) | refine Below.alloc ?_ (by first|omega|(simp<;>omega)) _ | refine Below.setCell ?_ (by first|omega|(simp<;>omega)) _ | refine below_drewN ?_ _ | refine Below.drew ?_)):Below B w W:=k h1 h2 h3
theorem hid {p:Prop}(h:p):Hid p:=h
theorem abL {p:Nat->Prop}{k:Nat}(h:∀j,j<k->p j)(hk:p k):∀j,j<k+1->p j:=fun j hj=>by
 rcases Nat.lt_succ_iff_lt_or_eq.1 hj with h' | rfl
 . exact h j h'
 . exact hk
@[go_sem] theorem anv(a b:Int):(!decide (a<=b))=decide (b<a):=by rw [Aa0];simp
@[go_sem] theorem anw(a b:Int):(!decide (a<b))=decide (b<=a):=by rw [Aa0];simp
@[go_sem] theorem alk(a b:Int):(a == b)=(decide (a<=b)&&decide (b<=a)):=by rw [Aa0];simp;omega
@[go_sem] theorem ap6(a b:Int):(a != b)=(decide (a<b)||decide (b<a)):=by rw [Aa0];simp;omega
theorem afJ {a b:Bool}(h:a=b):Ending.returned (.bool a) = .returned (.bool b):=by rw [h]
theorem aaA {k:IntKind}{a b:Int}(h:a=b):Ending.returned (.int k a) = .returned (.int k b):=by rw [h]
structure DVal where
 reg:Bool
 n:Int
 deriving DecidableEq
structure ad8 where
 op:Int
 dst:Int
 a:DVal
 b:DVal
 fn:Int
 args:List DVal
 deriving DecidableEq
structure afu where
 dst:Int
 src:List DVal
 deriving DecidableEq
structure amR where
 kind:Int
 on:DVal
 to:List Int
 deriving DecidableEq
structure aad where
 phis:List afu
 list:List ad8
 fin:amR
 deriving DecidableEq
structure aao where
 name:ByteArray
 params:Int
 regs:Int
 blocks:List aad
structure aas where
 name:ByteArray
 size:Int
 init:List Int
structure aaC where
 globals:List aas
 funcs:List aao
def aaj(w:World)(b off:Nat)(cs:List Value):Prop:=∀j v,cs[j]?=some v->w.cell? ⟨b,off+j,none⟩=some v
abbrev Rp (α:Type):=(Nat->Prop)->World->List Value->α->Prop
def SlAt {α:Type}(S:Nat->Prop)(w:World)(sz:Nat)(r:Rp α)(v:Value)(l:List α):Prop :=
 ∃ ao c, v = .slice ao l.length c ∧ l.length <= c ∧ c <= 9223372036854775807 ∧ (l ≠ [] -> ∃ b off, ao = some ⟨b, off, none⟩ ∧ S b ∧
   ∀ i x, l[i]? = some x -> ∃ cs, r S w cs x ∧ cs.length = sz ∧ aaj w b (off + i * sz) cs)
def aaO:Rp Int:=fun _ _ cs x=>cs=[.int .i64 x] ∧ -9223372036854775808<=x∧x<=9223372036854775807
def aof:Rp ByteArray:=fun _ _ cs x=>cs=[.string x]
def ady:Rp DVal:=fun _ _ cs x=>cs=[.bool x.reg,.int .i64 x.n] ∧ -9223372036854775808<=x.n∧x.n<=9223372036854775807
def I64(x:Int):Prop := -9223372036854775808<=x∧x<=9223372036854775807
def ajY:Rp ad8:=fun S w cs x=>∃v,cs=[.int .i64 x.op,.int .i64 x.dst,.bool x.a.reg,.int .i64 x.a.n,.bool x.b.reg,.int .i64 x.b.n,.int .i64 x.fn,v] ∧
 SlAt S w 2 ady v x.args∧I64 x.op∧I64 x.dst∧I64 x.a.n∧I64 x.b.n∧I64 x.fn
def ag4:Rp afu:=fun S w cs x=>∃v,cs=[.int .i64 x.dst,v]∧SlAt S w 2 ady v x.src∧I64 x.dst
def aqb:Rp amR:=fun S w cs x=>∃v,cs=[.int .i64 x.kind,.bool x.on.reg,.int .i64 x.on.n,v]∧SlAt S w 1 aaO v x.to∧I64 x.kind∧I64 x.on.n
def aaJ:Rp aad:=fun S w cs x=>∃p l e,cs=p :: l :: e∧SlAt S w 2 ag4 p x.phis∧SlAt S w 8 ajY l x.list∧aqb S w e x.fin
def aaZ:Rp aao:=fun S w cs x=>∃v,cs=[.string x.name,.int .i64 x.params,.int .i64 x.regs,v]∧SlAt S w 6 aaJ v x.blocks∧I64 x.params∧I64 x.regs
def aaE:Rp aas:=fun S w cs x=>∃v,cs=[.string x.name,.int .i64 x.size,v]∧SlAt S w 1 aaO v x.init∧I64 x.size
def aqc:Rp aaC:=fun S w cs x=>∃g f,cs=[g,f]∧SlAt S w 3 aaE g x.globals∧SlAt S w 4 aaZ f x.funcs
def aav(S:Nat->Prop)(w w':World):Prop:=∀b o v,S b->w.cell? ⟨b,o,none⟩=some v->w'.cell? ⟨b,o,none⟩=some v
structure Rp.Mono {α:Type}(r:Rp α):Prop where
 out:∀(S S':Nat->Prop) (w w':World) (cs:List Value) (x:α),(∀b,S b->S' b)->aav S w w'->r S w cs x->r S' w' cs x
variable {w':World}
theorem SlAt.mono{α : Type} {r : Rp α} (hr : r.Mono) {S S' : Nat -> Prop}  {sz : Nat} {v : Value} {l : List α} (hS : ∀ b, S b -> S' b) (hw : aav S w w')
 (h:SlAt S w sz r v l):SlAt S' w' sz r v l:=by
 obtain⟨ao,c,hv,hc,hm,h⟩:=h;refine⟨ao,c,hv,hc,hm,fun aD=>?_⟩;obtain⟨b,off,ha,hb,h⟩:=h aD;refine⟨b,off,ha,hS _ hb,fun i x hx=>?_⟩;obtain⟨cs,h1,h2,h3⟩:=h i x hx;exact⟨cs,hr.out _ _ _ _ _ _ hS hw h1,h2,fun j v hj=>hw _ _ _ hb (h3 j v hj)⟩
theorem aae:aaO.Mono:=⟨fun _ _ _ _ _ _ _ _ h=>h⟩
theorem abJ:aof.Mono:=⟨fun _ _ _ _ _ _ _ _ h=>h⟩
theorem aaw:ady.Mono:=⟨fun _ _ _ _ _ _ _ _ h=>h⟩
theorem aa6:ajY.Mono:=⟨fun _ _ _ _ _ _ hS hw ⟨v,h1,h2,h3⟩=>⟨v,h1,h2.mono aaw hS hw,h3⟩⟩
theorem aa0:ag4.Mono:=⟨fun _ _ _ _ _ _ hS hw ⟨v,h1,h2,h3⟩=>⟨v,h1,h2.mono aaw hS hw,h3⟩⟩
theorem amb:aqb.Mono:=⟨fun _ _ _ _ _ _ hS hw ⟨v,h1,h2,h3⟩=>⟨v,h1,h2.mono aae hS hw,h3⟩⟩
theorem aam:aaJ.Mono:=⟨fun _ _ _ _ _ _ hS hw ⟨p,l,e,h1,h2,h3,h4⟩=>⟨p,l,e,h1,h2.mono aa0 hS hw,h3.mono aa6 hS hw,amb.out _ _ _ _ _ _ hS hw h4⟩⟩
theorem aak:aaZ.Mono:=⟨fun _ _ _ _ _ _ hS hw ⟨v,h1,h2,h3⟩=>⟨v,h1,h2.mono aam hS hw,h3⟩⟩
theorem aan:aaE.Mono:=⟨fun _ _ _ _ _ _ hS hw ⟨v,h1,h2,h3⟩=>⟨v,h1,h2.mono aae hS hw,h3⟩⟩
theorem aav.below(h:Below B w w'):aav (·<B) w w':=fun b o v hb hc=>by rw [h.cell (p:=⟨b,o,none⟩) hb];exact hc
theorem aav.refl(S:Nat->Prop)(w:World):aav S w w:=fun _ _ _ _ h=>h
theorem aav.trans {S:Nat->Prop}{a b c:World}(h:aav S a b)(k:aav S b c):aav S a c:=fun _ _ _ hs hc=>k _ _ _ hs (h _ _ _ hs hc)
variable {b o:Nat}
theorem aac{v:Value}(h:w.cell? ⟨b,o,none⟩=some v):b<w.heap.size:=by
 unfold World.cell? at h;rcases Nat.lt_or_ge b w.heap.size with h1 | h1
 . exact h1
 . rw [Array.getElem?_eq_none h1] at h;cases h
theorem aav.below'{S:Nat->Prop}(h:Below w.heap.size w w'):aav S w w':=fun b o v _ hc=>by
 rw [h.cell (p:=⟨b,o,none⟩) (aac hc)];exact hc
variable {v0:Value}
theorem aaj.get1(h:aaj w b o [v0]):w.cell? ⟨b,o,none⟩=some v0:=h 0 _ rfl
variable {v1:Value}
theorem aaj.get2(h:aaj w b o [v0,v1]):w.cell? ⟨b,o,none⟩=some v0∧w.cell? ⟨b,o+1,none⟩=some v1:=⟨h 0 _ rfl,h 1 _ rfl⟩
variable {v2:Value}
theorem aaj.get3(h:aaj w b o [v0,v1,v2]):w.cell? ⟨b,o,none⟩=some v0∧w.cell? ⟨b,o+1,none⟩=some v1∧w.cell? ⟨b,o+2,none⟩=some v2:=⟨h 0 _ rfl,h 1 _ rfl,h 2 _ rfl⟩
variable {v3:Value}
theorem aaj.get4(h:aaj w b o [v0,v1,v2,v3]):w.cell? ⟨b,o,none⟩=some v0∧w.cell? ⟨b,o+1,none⟩=some v1∧w.cell? ⟨b,o+2,none⟩=some v2∧w.cell? ⟨b,o+3,none⟩=some v3:=⟨h 0 _ rfl,h 1 _ rfl,h 2 _ rfl,h 3 _ rfl⟩
variable {v4 v5:Value}
theorem aaj.get6(h:aaj w b o [v0,v1,v2,v3,v4,v5]):w.cell? ⟨b,o,none⟩=some v0∧w.cell? ⟨b,o+1,none⟩=some v1∧w.cell? ⟨b,o+2,none⟩=some v2∧w.cell? ⟨b,o+3,none⟩=some v3∧w.cell? ⟨b,o+4,none⟩=some v4∧w.cell? ⟨b,o+5,none⟩=some v5:=⟨h 0 _ rfl,h 1 _ rfl,h 2 _ rfl,h 3 _ rfl,h 4 _ rfl,h 5 _ rfl⟩
theorem aaj.get7{v6:Value}(h:aaj w b o [v0,v1,v2,v3,v4,v5,v6]):w.cell? ⟨b,o,none⟩=some v0∧w.cell? ⟨b,o+1,none⟩=some v1∧w.cell? ⟨b,o+2,none⟩=some v2∧w.cell? ⟨b,o+3,none⟩=some v3∧w.cell? ⟨b,o+4,none⟩=some v4∧w.cell? ⟨b,o+5,none⟩=some v5∧w.cell? ⟨b,o+6,none⟩=some v6:=⟨h 0 _ rfl,h 1 _ rfl,h 2 _ rfl,h 3 _ rfl,h 4 _ rfl,h 5 _ rfl,h 6 _ rfl⟩
theorem aaj.get8{v6 v7:Value}(h:aaj w b o [v0,v1,v2,v3,v4,v5,v6,v7]):w.cell? ⟨b,o,none⟩=some v0∧w.cell? ⟨b,o+1,none⟩=some v1∧w.cell? ⟨b,o+2,none⟩=some v2∧w.cell? ⟨b,o+3,none⟩=some v3∧w.cell? ⟨b,o+4,none⟩=some v4∧w.cell? ⟨b,o+5,none⟩=some v5∧w.cell? ⟨b,o+6,none⟩=some v6∧w.cell? ⟨b,o+7,none⟩=some v7:=⟨h 0 _ rfl,h 1 _ rfl,h 2 _ rfl,h 3 _ rfl,h 4 _ rfl,h 5 _ rfl,h 6 _ rfl,h 7 _ rfl⟩
end
section
open Go.RowKit
theorem aaq(n lo hi:Int)(w:World) :
 Calls Tryz.prog 25 #[.int .i64 n,.int .i64 lo,.int .i64 hi] w fun e w'=>e = .returned (.bool (decide (lo<=n∧n<=hi)))∧w=w':=by
 go_enter Tryz.func25,Tryz.ntmps25;go_wp2
 all_goals go_ret
 . have h:lo<=n:=by assumption
   exact⟨by simp [h],rfl⟩
 . have h:n<lo:=by assumption
   exact⟨by simp [show ¬lo<=n by omega],rfl⟩
def akc(i c:Nat):Prop:=(97<=c∧c<=122)∨(65<=c∧c<=90)∨c=95∨(0<i∧48<=c∧c<=57)
instance (i c:Nat):Decidable (akc i c):=by unfold akc;infer_instance
def ab1(s:ByteArray):Bool:=decide (1<=s.size∧s.size<=12)&&decide (∀i,(h:i<s.size)->akc i (s[i]'h).toNat)
theorem abI(s:ByteArray)(w:World) :
 Calls Tryz.prog 47 #[.string s] w fun e w'=>e = .returned (.bool (ab1 s))∧w=w':=by
 by_cases h1:1<=s.size∧s.size<=12
 case neg =>
  have hn:ab1 s=false:=by simp [ab1,h1]
  rw [hn];clear hn;have h2:s.size<1∨12<s.size:=by omega
  rcases h2 with h2 | h2
  all_goals
   go_enter Tryz.func47,Tryz.ntmps47;go_wp2;go_ret;exact⟨rfl,rfl⟩
 obtain⟨h1,h2⟩:=h1;go_enter Tryz.func47,Tryz.ntmps47;go_wp2;go_loop [15] (fun i=>∃k:Nat,k<=s.size∧i = .int .i64 k∧∀j,j<k->(h:j<s.size)->akc j (s[j]'h).toNat) (fun i=>s.size - (intOf i).toNat)
 case atStart=>exact⟨0,Aah _,rfl,fun j hj=>by omega⟩
 case round =>
  obtain⟨k,hk,rfl,ae⟩:=hrel;have H:=hid ae;clear ae
  by_cases ad:k<s.size
  . by_cases hc:akc k (s[k]'ad).toNat
    . have ay:=hid hc
      unfold akc at hc;rcases hc with hc | hc | hc | hc
      all_goals
       go_wp2;go_round
       case rel=>exact⟨k+1,by omega,by go_num,abL H.out (fun _=>ay.out)⟩
       case measure=>simp [intOf];omega
    . have ay:=hid hc
      have aH:¬(97<=(s[k]'ad).toNat∧(s[k]'ad).toNat<=122):=fun h=>hc (.inl h);have aI:¬(65<=(s[k]'ad).toNat∧(s[k]'ad).toNat<=90):=fun h=>hc (.inr (.inl h));have aJ:¬(s[k]'ad).toNat=95:=fun h=>hc (.inr (.inr (.inl h)));have aK:¬(0<k∧48<=(s[k]'ad).toNat∧(s[k]'ad).toNat<=57):=fun h=>hc (.inr (.inr (.inr h)));have hn:ab1 s=false:=by
       simp only [ab1,h1,h2,and_self,decide_true,Bool.true_and,decide_eq_false_iff_not];exact fun h=>hc (h k ad)
      have Hn:=hid hn;clear hn hc;go_wp2
      all_goals
       go_ret;exact⟨afJ Hn.out.symm,rfl⟩
  . have hn:ab1 s=true:=by
     simp only [ab1,h1,h2,and_self,decide_true,Bool.true_and,decide_eq_true_eq];exact fun i h=>H.out i (by omega) h
    have Hn:=hid hn;clear hn;go_wp2;go_ret;exact⟨afJ Hn.out.symm,rfl⟩
end
section
open Go.RowKit
def anQ(a b:ByteArray):Bool:=a.toList == b.toList
def agX(l:List ByteArray)(s:ByteArray):Int:=match l.findIdx? (fun t=>anQ s t) with | some k=>k | none => -1
variable {α:Type}
theorem aew{l:List α}{p:α->Bool}(h:∀(j:Nat) (x:α),l[j]?=some x->p x=false):l.findIdx? p=none:=by
 rw [List.findIdx?_eq_none_iff];intro x hx;obtain⟨j,hj⟩:=List.getElem?_of_mem hx;exact h j x hj
theorem aex{l:List α}{p:α->Bool}{k:Nat}{x:α}(hx:l[k]?=some x)(hp:p x=true)(h:∀j:Nat,j<k->∀x:α,l[j]?=some x->p x=false):l.findIdx? p=some k:=by
 rw [List.findIdx?_eq_some_iff_getElem];obtain⟨ad,rfl⟩:=Aae.1 hx;exact⟨ad,hp,fun j hj=>by rw [h j hj _ (Aaa (by omega))];simp⟩
variable {S:Nat->Prop}
theorem SlAt.get{w:World}{sz:Nat}{r:Rp α}{ao:Option Addr}{n c:Nat}{l:List α}(h:SlAt S w sz r (.slice ao n c) l){k:Nat}(hk:k<l.length) :
 ∃b off cs,ao=some ⟨b,off,none⟩∧S b∧r S w cs l[k]∧cs.length=sz∧aaj w b (off+k * sz) cs:=by
 obtain⟨av,c',hv,_,_,h⟩:=h;cases hv;obtain⟨b,off,ha,hb,h⟩:=h (fun e=>by rw [e] at hk;exact Nat.not_lt_zero _ hk);obtain⟨cs,h1,h2,h3⟩:=h k l[k] (Aaa hk);exact⟨b,off,cs,ha,hb,h1,h2,h3⟩
theorem SlAt.val{w:World}{sz:Nat}{r:Rp α}{v:Value}{l:List α}(h:SlAt S w sz r v l) :
 ∃ao c,v = .slice ao l.length c∧l.length<=9223372036854775807:=by
 obtain⟨av,c',hv,h1,h2,_⟩:=h;exact⟨av,c',hv,by omega⟩
theorem ail(v:Value)(l:List ByteArray)(s:ByteArray)(w:World)(h:SlAt S w 1 aof v l) :
 Calls Tryz.prog 80 #[v,.string s] w fun e w'=>e = .returned (.int .i64 (agX l s))∧w=w':=by
 obtain⟨ao,c,rfl,hm⟩:=h.val;go_enter Tryz.func80,Tryz.ntmps80;go_wp2;go_loop [8] (fun i=>∃k:Nat,k<=l.length∧i = .int .i64 k∧∀j,j<k->∀x,l[j]?=some x->anQ s x=false) (fun i=>l.length - (intOf i).toNat)
 case atStart=>exact⟨0,Aah _,rfl,fun j hj=>by omega⟩
 case round =>
  obtain⟨k,hk,rfl,ae⟩:=hrel;have H:=hid ae;clear ae
  by_cases ad:k<l.length
  . obtain⟨b,off,cs,rfl,hb,rfl,hc,ak⟩:=h.get ad
    have aj:w.cell? ⟨b,off+k,none⟩=some (.string l[k]):=by simpa using ak 0 _ rfl
    have Hh:=hid h;clear h ak hc
    by_cases he:anQ s l[k]=true
    . have aC:(s.toList == l[k].toList)=true:=he
      have hi:agX l s=k:=by unfold agX;rw [aex (Aaa ad) he H.out]
      have Hi:=hid hi;clear hi he;go_wp2;go_ret;exact⟨aaA Hi.out.symm,rfl⟩
    . have al:anQ s l[k]=false:=by simpa using he
      have aC:(s.toList == l[k].toList)=false:=al;have He:=hid al;clear al he;go_wp2;go_round
      case rel=>exact⟨k+1,by omega,by go_num,abL H.out (fun x hx=>by rw [Aaa ad] at hx;cases hx;exact He.out)⟩
      case measure=>simp [intOf];omega
  . have hi:agX l s = -1:=by
     unfold agX;rw [aew (fun j x hx=>H.out j (by have:=(Aae.1 hx).1;omega) x hx)]
    have Hi:=hid hi;clear hi;go_wp2;go_ret;exact⟨aaA Hi.out.symm,rfl⟩
def adu(l:List ByteArray)(s:ByteArray):Bool:=decide (0<=agX l s)
theorem aaH(v:Value)(l:List ByteArray)(s:ByteArray)(w:World)(h:SlAt S w 1 aof v l) :
 Calls Tryz.prog 48 #[v,.string s] w fun e w'=>e = .returned (.bool (adu l s))∧w=w':=by
 have H:=hid h;clear h;go_enter Tryz.func48,Tryz.ntmps48;go_wp2_with (go_at_call 80;((with_reducible refine (ail _ _ _ _ H.out).mono ?_);rintro e w' ⟨rfl,rfl⟩));go_ret;exact⟨rfl,rfl⟩
def abN(regs:Int)(v:DVal):Int:=if v.reg=true∧¬(0<=v.n∧v.n<=regs - 1) then 3 else 0
theorem ab7(g f nm ps:Value)(regs:Int)(bl ah:Value)(r:Bool)(n:Int)(w:World)(h0:0<=regs)(h1:regs<=100) :
 Calls Tryz.prog 111 #[.agg #[g,f,nm,ps,.int .i64 regs,bl,ah],.agg #[.bool r,.int .i64 n]] w fun e w' =>
  e = .returned (.int .i64 (abN regs ⟨r,n⟩))∧Below w.heap.size w w':=by
 cases r
 . go_enter Tryz.func111,Tryz.ntmps111
   go_wp2;go_ret;exact⟨aaA (by simp [abN]),((Below.refl _ _).alloc (by simp) _).alloc (by simp) _⟩
 . by_cases hin:0<=n∧n<=regs - 1
   all_goals
    go_enter Tryz.func111,Tryz.ntmps111;go_wp2_with (go_at_call 25;((with_reducible refine (aaq _ _ _ _).mono ?_);rintro e w' ⟨rfl,rfl⟩));go_ret;exact⟨aaA (by simp [abN,hin]),((Below.refl _ _).alloc (by simp) _).alloc (by simp) _⟩
def agB(regs n:Int):Int:=if ¬(0<=n∧n<=regs - 1) then 3 else 0
theorem afV(g f nm ps:Value)(regs:Int)(bl ah:Value)(n:Int)(w:World)(h0:0<=regs)(h1:regs<=100) :
 Calls Tryz.prog 112 #[.agg #[g,f,nm,ps,.int .i64 regs,bl,ah],.int .i64 n] w fun e w' =>
  e = .returned (.int .i64 (agB regs n))∧Below w.heap.size w w':=by
 by_cases hin:0<=n∧n<=regs - 1
 all_goals
  go_enter Tryz.func112,Tryz.ntmps112;go_wp2_with (go_at_call 25;((with_reducible refine (aaq _ _ _ _).mono ?_);rintro e w' ⟨rfl,rfl⟩));go_ret;exact⟨aaA (by simp [agB,hin]),(Below.refl _ _).alloc (by simp) _⟩
end
section
open Go.RowKit
def shpD(op:Int):Bool:=decide (1<=op∧op<=18)||decide (20<=op∧op<=21)
def shpA(op:Int):Bool:=decide (1<=op∧op<=19)||decide (op=22)
def shpB(op:Int):Bool:=decide (2<=op∧op<=15)||decide (op=19)
theorem aoW {op:Int}(h:2<=op∧op<=15):shpD op=true∧shpA op=true∧shpB op=true:=by
 simp only [shpD,shpA,shpB,Bool.or_eq_true,decide_eq_true_eq];omega
theorem aoX {op:Int}(h:op<1∨22<op):shpD op=false∧shpA op=false∧shpB op=false:=by
 simp only [shpD,shpA,shpB,Abj,decide_eq_false_iff_not];omega
theorem akV(op:Int)(w:World) :
 Calls Tryz.prog 113 #[.int .i64 op] w fun e w'=>e = .returned (.agg #[.bool (shpD op),.bool (shpA op),.bool (shpB op)])∧Below w.heap.size w w':=by
 have hc:op=1∨op=16∨op=17∨op=18∨(2<=op∧op<=15)∨op=19∨op=20∨op=21∨op=22∨op<1∨22<op:=by omega
 rcases hc with rfl | rfl | rfl | rfl | h | rfl | rfl | rfl | rfl | h | h
 all_goals
  go_enter Tryz.func113,Tryz.ntmps113;go_wp2
 all_goals
  refine bodyPost_ret (v:=_) ?_ rfl ⟨rfl,?_⟩
 all_goals first
  | ((repeat (first | exact Below.refl _ _ | refine Below.alloc ?_ (by simp) _ | refine Below.setCell ?_ (by simp) _));done)
  | skip
 all_goals
  simp [results,Tryz.results113,go_sem]
 all_goals first
  | (refine⟨?_,?_,?_⟩ <;> rfl)
  | skip
 . obtain⟨e1,e2,e3⟩:=aoW h
   simp [e1,e2,e3]
 all_goals
  obtain⟨e1,e2,e3⟩:=aoX (op:=op) (by omega);simp [e1,e2,e3]
end
section
open Go.RowKit
def adS(n:Nat)(x:Int):Bool:=!decide (1<=x∧x<=(n:Int) - 1)
theorem ajG(x:Int)(cb:Nat)(ba:Option Addr)(n bc:Nat)(w:World)(hc:w.cell? ⟨cb,5,none⟩=some (.slice ba n bc))(hn:n<=9223372036854775807) :
 Calls Tryz.prog 110 #[.int .i64 x,.pointer (some ⟨cb,0,none⟩)] w fun e w'=>e = .returned (.bool (adS n x))∧w=w':=by
 go_enter Tryz.func110,Tryz.ntmps110;go_wp2_with (go_at_call 25;((with_reducible refine (aaq _ _ _ _).mono ?_);rintro e w' ⟨rfl,rfl⟩));go_ret;exact⟨afJ (by rw [Aa0];simp [adS]),rfl⟩
def af2(n:Nat)(l:List Int):Int:=match l.findIdx? (adS n) with | some k=>k | none => -1
variable {S:Nat -> Prop}
theorem aik(v : Value) (l : List Int) (cb : Nat) (ba : Option Addr) (n bc : Nat) (w : World) (h : SlAt S w 1 aaO v l)
 (hc:w.cell? ⟨cb,5,none⟩=some (.slice ba n bc)) (hn:n<=9223372036854775807) :
 Calls Tryz.prog 143 #[v,.func (.func 110) #[] #[.pointer (some ⟨cb,0,none⟩)]] w fun e w'=>e = .returned (.int .i64 (af2 n l))∧w=w':=by
 obtain⟨ao,c,rfl,hm⟩:=h.val;go_enter Tryz.func143,Tryz.ntmps143;go_wp2_with fail;go_loop [8] (fun i=>∃k:Nat,k<=l.length∧i = .int .i64 k∧∀j,j<k->∀x,l[j]?=some x->adS n x=false) (fun i=>l.length - (intOf i).toNat)
 case atStart=>exact⟨0,Aah _,rfl,fun j hj=>by omega⟩
 case round =>
  obtain⟨k,hk,rfl,ae⟩:=hrel;have H:=hid ae;clear ae
  by_cases ad:k<l.length
  . obtain⟨b,off,cs,rfl,hb,⟨rfl,_⟩,hl,ak⟩:=h.get ad
    have aj:w.cell? ⟨b,off+k,none⟩=some (.int .i64 l[k]):=by simpa using ak 0 _ rfl
    clear h ak hl
    by_cases he:adS n l[k]=true
    . have hi:af2 n l=k:=by unfold af2;rw [aex (Aaa ad) he H.out]
      have Hi:=hid hi;clear hi;go_wp2_with (go_at_call 110;((with_reducible refine (ajG _ _ _ _ _ _ hc hn).mono ?_);rintro e w' ⟨rfl,rfl⟩));go_ret;exact⟨aaA Hi.out.symm,rfl⟩
    . have al:adS n l[k]=false:=by simpa using he
      have He:=hid al;clear he;go_wp2_with (go_at_call 110;((with_reducible refine (ajG _ _ _ _ _ _ hc hn).mono ?_);rintro e w' ⟨rfl,rfl⟩));go_round
      case rel=>exact⟨k+1,by omega,by go_num,abL H.out (fun x hx=>by rw [Aaa ad] at hx;cases hx;exact He.out)⟩
      case measure=>simp [intOf];omega
  . have hi:af2 n l = -1:=by
     unfold af2;rw [aew (fun j x hx=>H.out j (by have:=(Aae.1 hx).1;omega) x hx)]
    have Hi:=hid hi;clear hi;go_wp2_with fail;go_ret;exact⟨aaA Hi.out.symm,rfl⟩
def adt(n:Nat)(l:List Int):Bool:=decide (0<=af2 n l)
theorem aaW(v : Value) (l : List Int) (cb : Nat) (ba : Option Addr) (n bc : Nat) (w : World) (h : SlAt S w 1 aaO v l)
 (hc:w.cell? ⟨cb,5,none⟩=some (.slice ba n bc)) (hn:n<=9223372036854775807) :
 Calls Tryz.prog 109 #[v,.func (.func 110) #[] #[.pointer (some ⟨cb,0,none⟩)]] w fun e w'=>e = .returned (.bool (adt n l))∧w=w':=by
 have H:=hid h;clear h;go_enter Tryz.func109,Tryz.ntmps109;go_wp2_with (go_at_call 143;((with_reducible refine (aik _ _ _ _ _ _ _ H.out hc hn).mono ?_);rintro e w' ⟨rfl,rfl⟩));go_ret;exact⟨rfl,rfl⟩
theorem agV(n:Nat)(l:List Int):adt n l=l.any (adS n):=by
 unfold adt af2;rw [Aa0,decide_eq_true_eq];simp only [List.any_eq_true];split
 . rename_i k h
   rw [List.findIdx?_eq_some_iff_getElem] at h;obtain⟨hk,hb,_⟩:=h;exact⟨fun _=>⟨_,Aaf hk,hb⟩,fun _=>by omega⟩
 . rename_i h
   rw [List.findIdx?_eq_none_iff] at h;constructor
   . intro h';omega
   . rintro⟨x,hx,hb⟩;rw [h x hx] at hb;cases hb
def abX(w:World):Prop:=w.cell? ⟨0,1,none⟩=some (.int .i64 0)∧w.cell? ⟨0,2,none⟩=some (.int .i64 1)∧w.cell? ⟨0,3,none⟩=some (.int .i64 2)
theorem abX.below {w w':World}(h:abX w)(hb:Below w.heap.size w w'):abX w':=by
 have h0:=aac h.1;exact⟨by rw [hb.cell (p:=⟨0,1,none⟩) h0];exact h.1,by rw [hb.cell (p:=⟨0,2,none⟩) h0];exact h.2.1,by rw [hb.cell (p:=⟨0,3,none⟩) h0];exact h.2.2⟩
def adT(n:Nat)(regs:Int)(e:amR):Int :=
 if ¬(1<=e.kind∧e.kind<=3) then 4
 else if (e.to.length:Int)≠e.kind - 1 then 9
 else if e.to.any (adS n) then 3
 else if (e.kind=3∧e.to.getD 0 0=e.to.getD 1 0)∨(e.kind=2∧e.on≠⟨false,0⟩) then 5
 else abN regs e.on
theorem ap8(g f nm ps : Value) (regs : Int) (ba : Option Addr) (n bc : Nat) (ah : Value) (r : Bool) (m : Int) (l : List Int) (w : World) (ao : Option Addr) (c : Nat) (_b _off : Nat) (_x _y : Int)
 (h0:0<=regs) (h1:regs<=100) (hn:n<=9223372036854775807) (H:Hid (SlAt S w 1 aaO (.slice (ao) l.length c) l)) (hw:abX w) (Hh:adt n l=false) (ai:(l.length:Int)<=0) :
 Calls Tryz.prog 81 #[.agg #[g,f,nm,ps,.int .i64 regs,.slice ba n bc,ah],.agg #[.int .i64 1,.bool r,.int .i64 m,.slice (ao) l.length c]] w fun e w' =>
  e = .returned (.int .i64 (abN regs ⟨r,m⟩))∧Below w.heap.size w w':=by
 obtain⟨w1,w2,w3⟩:=hw;have ag:=aac w1;go_enter Tryz.func81,Tryz.ntmps81;go_wp2_with (go_at_call 25;((with_reducible refine (aaq _ _ _ _).mono ?_);rintro e w' ⟨rfl,rfl⟩));go_quiet (fail);go_wp2_with (first | (go_at_call 25;((with_reducible refine (aaq _ _ _ _).mono ?_);rintro e w' ⟨rfl,rfl⟩)) | (go_at_call 109;((with_reducible refine (aaW (S:=S) _ l w.heap.size ba n bc _ ?_ ?_ hn).mono ?_);exact SlAt.mono aae (fun _ h=>h) (aav.below' bE) H.out;simp;rintro e w' ⟨rfl,rfl⟩)));go_quiet (fail);go_wp2_with (first | (go_at_call 111;((with_reducible refine (ab7 _ _ _ _ _ _ _ _ _ _ h0 h1).mono ?_);rintro e w1 ⟨rfl,af⟩)));go_ret;exact⟨rfl,bE1 af⟩
theorem apC(g f nm ps : Value) (regs : Int) (ba : Option Addr) (n bc : Nat) (ah : Value) (_r : Bool) (_m : Int) (l : List Int) (w : World) (ao : Option Addr) (c : Nat) (_b _off : Nat) (_x _y : Int)
 (h0:0<=regs) (h1:regs<=100) (hn:n<=9223372036854775807) (H:Hid (SlAt S w 1 aaO (.slice (ao) l.length c) l)) (hw:abX w) (Hh:adt n l=false) (ai:(l.length:Int)<=1) (aq:1<=(l.length:Int)) :
 Calls Tryz.prog 81 #[.agg #[g,f,nm,ps,.int .i64 regs,.slice ba n bc,ah],.agg #[.int .i64 2,.bool false,.int .i64 0,.slice (ao) l.length c]] w fun e w' =>
  e = .returned (.int .i64 (abN regs ⟨false,0⟩))∧Below w.heap.size w w':=by
 obtain⟨w1,w2,w3⟩:=hw;have ag:=aac w1;go_enter Tryz.func81,Tryz.ntmps81;go_wp2_with (go_at_call 25;((with_reducible refine (aaq _ _ _ _).mono ?_);rintro e w' ⟨rfl,rfl⟩));go_quiet (fail);go_wp2_with (first | (go_at_call 25;((with_reducible refine (aaq _ _ _ _).mono ?_);rintro e w' ⟨rfl,rfl⟩)) | (go_at_call 109;((with_reducible refine (aaW (S:=S) _ l w.heap.size ba n bc _ ?_ ?_ hn).mono ?_);exact SlAt.mono aae (fun _ h=>h) (aav.below' bE) H.out;simp;rintro e w' ⟨rfl,rfl⟩)));go_quiet (fail);go_wp2_with (first | (go_at_call 111;((with_reducible refine (ab7 _ _ _ _ _ _ _ _ _ _ h0 h1).mono ?_);rintro e w1 ⟨rfl,af⟩)));go_ret;exact⟨rfl,bE1 af⟩
theorem apD(g f nm ps : Value) (regs : Int) (ba : Option Addr) (n bc : Nat) (ah : Value) (_r : Bool) (m : Int) (l : List Int) (w : World) (ao : Option Addr) (c : Nat) (_b _off : Nat) (_x _y : Int)
 (_h0:0<=regs) (_h1:regs<=100) (hn:n<=9223372036854775807) (H:Hid (SlAt S w 1 aaO (.slice (ao) l.length c) l)) (hw:abX w) (Hh:adt n l=false) (ai:(l.length:Int)<=1) (aq:1<=(l.length:Int)) :
 Calls Tryz.prog 81 #[.agg #[g,f,nm,ps,.int .i64 regs,.slice ba n bc,ah],.agg #[.int .i64 2,.bool true,.int .i64 m,.slice (ao) l.length c]] w fun e w' =>
  e = .returned (.int .i64 (5))∧Below w.heap.size w w':=by
 obtain⟨w1,w2,w3⟩:=hw;have ag:=aac w1;go_enter Tryz.func81,Tryz.ntmps81;go_wp2_with (go_at_call 25;((with_reducible refine (aaq _ _ _ _).mono ?_);rintro e w' ⟨rfl,rfl⟩));go_quiet (fail);go_wp2_with (first | (go_at_call 25;((with_reducible refine (aaq _ _ _ _).mono ?_);rintro e w' ⟨rfl,rfl⟩)) | (go_at_call 109;((with_reducible refine (aaW (S:=S) _ l w.heap.size ba n bc _ ?_ ?_ hn).mono ?_);exact SlAt.mono aae (fun _ h=>h) (aav.below' bE) H.out;simp;rintro e w' ⟨rfl,rfl⟩)));go_quiet (fail);go_wp2_with (first | (go_at_call 111;((with_reducible refine (ab7 _ _ _ _ _ _ _ _ _ _ h0 h1).mono ?_);rintro e w1 ⟨rfl,af⟩)));go_ret;exact⟨rfl,bE⟩
theorem apF(g f nm ps : Value) (regs : Int) (ba : Option Addr) (n bc : Nat) (ah : Value) (r : Bool) (m : Int) (l : List Int) (w : World) (_ao : Option Addr) (c : Nat) (b off : Nat) (x y : Int)
 (_h0:0<=regs) (_h1:regs<=100) (hn:n<=9223372036854775807) (H:Hid (SlAt S w 1 aaO (.slice (some ⟨b,off,none⟩) l.length c) l)) (hw:abX w) (Hh:adt n l=false) (ai:(l.length:Int)<=2) (aq:2<=(l.length:Int)) (c0:w.cell? ⟨b,off,none⟩=some (.int .i64 x)) (c1:w.cell? ⟨b,off+1,none⟩=some (.int .i64 y)) (aB:b<w.heap.size) (az:x<=y) (aL:y<=x) :
 Calls Tryz.prog 81 #[.agg #[g,f,nm,ps,.int .i64 regs,.slice ba n bc,ah],.agg #[.int .i64 3,.bool r,.int .i64 m,.slice (some ⟨b,off,none⟩) l.length c]] w fun e w' =>
  e = .returned (.int .i64 (5))∧Below w.heap.size w w':=by
 obtain⟨w1,w2,w3⟩:=hw;have ag:=aac w1;go_enter Tryz.func81,Tryz.ntmps81;go_wp2_with (go_at_call 25;((with_reducible refine (aaq _ _ _ _).mono ?_);rintro e w' ⟨rfl,rfl⟩));go_quiet (fail);go_wp2_with (first | (go_at_call 25;((with_reducible refine (aaq _ _ _ _).mono ?_);rintro e w' ⟨rfl,rfl⟩)) | (go_at_call 109;((with_reducible refine (aaW (S:=S) _ l w.heap.size ba n bc _ ?_ ?_ hn).mono ?_);exact SlAt.mono aae (fun _ h=>h) (aav.below' bE) H.out;simp;rintro e w' ⟨rfl,rfl⟩)));go_quiet (fail);go_wp2_with (first | (go_at_call 111;((with_reducible refine (ab7 _ _ _ _ _ _ _ _ _ _ h0 h1).mono ?_);rintro e w1 ⟨rfl,af⟩)));go_ret;exact⟨rfl,bE⟩
theorem apE(g f nm ps : Value) (regs : Int) (ba : Option Addr) (n bc : Nat) (ah : Value) (_r : Bool) (m : Int) (l : List Int) (w : World) (ao : Option Addr) (c : Nat) (_b _off : Nat) (_x _y : Int)
 (_h0:0<=regs) (_h1:regs<=100) (hn:n<=9223372036854775807) (H:Hid (SlAt S w 1 aaO (.slice (ao) l.length c) l)) (hw:abX w) (Hh:adt n l=false) (ai:(l.length:Int)<=1) (aq:1<=(l.length:Int)) (hm:m<0∨0<m) :
 Calls Tryz.prog 81 #[.agg #[g,f,nm,ps,.int .i64 regs,.slice ba n bc,ah],.agg #[.int .i64 2,.bool false,.int .i64 m,.slice (ao) l.length c]] w fun e w' =>
  e = .returned (.int .i64 (5))∧Below w.heap.size w w':=by
 obtain⟨w1,w2,w3⟩:=hw;have ag:=aac w1;have q1:(m == 0)=false:=by rw [beq_eq_false_iff_ne];omega
 have q2:(decide (m<=0)&&decide (0<=m))=false:=by rw [<-alk];exact q1
 have q3:¬m=0:=by omega
 go_enter Tryz.func81,Tryz.ntmps81;go_wp2_with (go_at_call 25;((with_reducible refine (aaq _ _ _ _).mono ?_);rintro e w' ⟨rfl,rfl⟩));go_quiet (fail);go_wp2_with (first | (go_at_call 25;((with_reducible refine (aaq _ _ _ _).mono ?_);rintro e w' ⟨rfl,rfl⟩)) | (go_at_call 109;((with_reducible refine (aaW (S:=S) _ l w.heap.size ba n bc _ ?_ ?_ hn).mono ?_);exact SlAt.mono aae (fun _ h=>h) (aav.below' bE) H.out;simp;rintro e w' ⟨rfl,rfl⟩)));go_quiet (fail);go_wp2_with (first | (go_at_call 111;((with_reducible refine (ab7 _ _ _ _ _ _ _ _ _ _ h0 h1).mono ?_);rintro e w1 ⟨rfl,af⟩)));go_ret;exact⟨rfl,bE⟩
theorem apG(g f nm ps : Value) (regs : Int) (ba : Option Addr) (n bc : Nat) (ah : Value) (r : Bool) (m : Int) (l : List Int) (w : World) (_ao : Option Addr) (c : Nat) (b off : Nat) (x y : Int)
 (h0:0<=regs) (h1:regs<=100) (hn:n<=9223372036854775807) (H:Hid (SlAt S w 1 aaO (.slice (some ⟨b,off,none⟩) l.length c) l)) (hw:abX w) (Hh:adt n l=false) (ai:(l.length:Int)<=2) (aq:2<=(l.length:Int)) (c0:w.cell? ⟨b,off,none⟩=some (.int .i64 x)) (c1:w.cell? ⟨b,off+1,none⟩=some (.int .i64 y)) (aB:b<w.heap.size) (az:x<y∨y<x) :
 Calls Tryz.prog 81 #[.agg #[g,f,nm,ps,.int .i64 regs,.slice ba n bc,ah],.agg #[.int .i64 3,.bool r,.int .i64 m,.slice (some ⟨b,off,none⟩) l.length c]] w fun e w' =>
  e = .returned (.int .i64 (abN regs ⟨r,m⟩))∧Below w.heap.size w w':=by
 obtain⟨w1,w2,w3⟩:=hw;have ag:=aac w1;have q1:(x == y)=false:=by rw [beq_eq_false_iff_ne];omega
 have q2:(decide (x<=y)&&decide (y<=x))=false:=by rw [<-alk];exact q1
 clear az;go_enter Tryz.func81,Tryz.ntmps81;go_wp2_with (go_at_call 25;((with_reducible refine (aaq _ _ _ _).mono ?_);rintro e w' ⟨rfl,rfl⟩));go_quiet (fail);go_wp2_with (first | (go_at_call 25;((with_reducible refine (aaq _ _ _ _).mono ?_);rintro e w' ⟨rfl,rfl⟩)) | (go_at_call 109;((with_reducible refine (aaW (S:=S) _ l w.heap.size ba n bc _ ?_ ?_ hn).mono ?_);exact SlAt.mono aae (fun _ h=>h) (aav.below' bE) H.out;simp;rintro e w' ⟨rfl,rfl⟩)));go_quiet (fail);go_wp2_with (first | (go_at_call 111;((with_reducible refine (ab7 _ _ _ _ _ _ _ _ _ _ h0 h1).mono ?_);rintro e w1 ⟨rfl,af⟩)));go_ret;exact⟨rfl,bE1 af⟩
theorem aox(g f nm ps:Value)(regs:Int)(ba:Option Addr)(n bc:Nat)(ah:Value)(kind:Int)(r:Bool)(m:Int)(v:Value)(w:World)(hk:¬(1<=kind∧kind<=3)) :
 Calls Tryz.prog 81 #[.agg #[g,f,nm,ps,.int .i64 regs,.slice ba n bc,ah],.agg #[.int .i64 kind,.bool r,.int .i64 m,v]] w fun e w' =>
  e = .returned (.int .i64 4)∧Below w.heap.size w w':=by
 go_enter Tryz.func81,Tryz.ntmps81;go_wp2_with (go_at_call 25;((with_reducible refine (aaq _ _ _ _).mono ?_);rintro e w' ⟨rfl,rfl⟩));go_ret;exact⟨rfl,bE⟩
theorem aow (g f nm ps : Value) (regs : Int) (ba : Option Addr) (n bc : Nat) (ah : Value) (kind : Int) (r : Bool) (m : Int) (ao : Option Addr) (k c : Nat) (w : World) (hk : 1 <= kind ∧ kind <= 3)
 (hm:k<=9223372036854775807) (hw:abX w) (hl:(k:Int)<kind - 1∨kind - 1<(k:Int)) :
 Calls Tryz.prog 81 #[.agg #[g,f,nm,ps,.int .i64 regs,.slice ba n bc,ah],.agg #[.int .i64 kind,.bool r,.int .i64 m,.slice ao k c]] w fun e w' =>
  e = .returned (.int .i64 9)∧Below w.heap.size w w':=by
 obtain⟨w1,w2,w3⟩:=hw;have ag:=aac w1;have an:kind=1∨kind=2∨kind=3:=by omega
 rcases an with rfl | rfl | rfl
 all_goals
  go_enter Tryz.func81,Tryz.ntmps81;go_wp2_with (go_at_call 25;((with_reducible refine (aaq _ _ _ _).mono ?_);rintro e w' ⟨rfl,rfl⟩));go_quiet (fail);go_wp2_with fail;go_ret;exact⟨rfl,bE⟩
theorem aov(g f nm ps : Value) (regs : Int) (ba : Option Addr) (n bc : Nat) (ah : Value) (kind : Int) (r : Bool) (m : Int) (l : List Int) (w : World) (ao : Option Addr) (c : Nat) (hk : 1 <= kind ∧ kind <= 3)
 (hn:n<=9223372036854775807) (hm:l.length<=9223372036854775807) (H:Hid (SlAt S w 1 aaO (.slice ao l.length c) l)) (hw:abX w) (Hh:adt n l=true) (ai:(l.length:Int)<=kind - 1) (aq:kind - 1<=(l.length:Int)) :
 Calls Tryz.prog 81 #[.agg #[g,f,nm,ps,.int .i64 regs,.slice ba n bc,ah],.agg #[.int .i64 kind,.bool r,.int .i64 m,.slice ao l.length c]] w fun e w' =>
  e = .returned (.int .i64 3)∧Below w.heap.size w w':=by
 obtain⟨w1,w2,w3⟩:=hw;have ag:=aac w1;have an:kind=1∨kind=2∨kind=3:=by omega
 rcases an with rfl | rfl | rfl
 all_goals
  go_enter Tryz.func81,Tryz.ntmps81;go_wp2_with (go_at_call 25;((with_reducible refine (aaq _ _ _ _).mono ?_);rintro e w' ⟨rfl,rfl⟩));go_quiet (fail);go_wp2_with (first | (go_at_call 25;((with_reducible refine (aaq _ _ _ _).mono ?_);rintro e w' ⟨rfl,rfl⟩)) | (go_at_call 109;((with_reducible refine (aaW (S:=S) _ l w.heap.size ba n bc _ ?_ ?_ hn).mono ?_);exact SlAt.mono aae (fun _ h=>h) (aav.below' bE) H.out;simp;rintro e w' ⟨rfl,rfl⟩)));go_ret;exact⟨rfl,bE⟩
theorem alu(g f nm ps : Value) (regs : Int) (ba : Option Addr) (n bc : Nat) (ah : Value) (kind : Int) (r : Bool) (m : Int) (v : Value) (l : List Int) (w : World)
 (h0:0<=regs) (h1:regs<=100) (hn:n<=9223372036854775807) (hw:abX w) (h:SlAt S w 1 aaO v l) :
 Calls Tryz.prog 81 #[.agg #[g,f,nm,ps,.int .i64 regs,.slice ba n bc,ah],.agg #[.int .i64 kind,.bool r,.int .i64 m,v]] w fun e w' =>
  e = .returned (.int .i64 (adT n regs ⟨kind,⟨r,m⟩,l⟩))∧Below w.heap.size w w':=by
 by_cases hk:1<=kind∧kind<=3
 case neg=>rw [show adT n regs ⟨kind,⟨r,m⟩,l⟩=4 by simp [adT,hk]];exact aox g f nm ps regs ba n bc ah kind r m v w hk
 obtain⟨ao,c,rfl,hm⟩:=h.val;have H:=hid h
 by_cases hl:(l.length:Int)=kind - 1
 case neg =>
  rw [show adT n regs ⟨kind,⟨r,m⟩,l⟩=9 by simp [adT,hk,hl]];exact aow g f nm ps regs ba n bc ah kind r m ao _ c w hk hm hw (by omega)
 by_cases ht:l.any (adS n)=true
 . rw [show adT n regs ⟨kind,⟨r,m⟩,l⟩=3 by simp only [adT,hk,hl,ht];simp]
   exact aov g f nm ps regs ba n bc ah kind r m l w ao c hk hn hm H hw ((agV n l).trans ht) (by omega) (by omega)
 have Hh:adt n l=false:=(agV n l).trans (by simpa using ht);have an:kind=1∨kind=2∨kind=3:=by omega
 rcases an with rfl | rfl | rfl
 . rw [show adT n regs ⟨1,⟨r,m⟩,l⟩=abN regs ⟨r,m⟩ by simp only [adT,hk,hl,ht];simp]
   exact ap8 g f nm ps regs ba n bc ah r m l w ao c 0 0 0 0 h0 h1 hn H hw Hh (by omega)
 . have hz:(r=false∧m=0)∨r=true∨(r=false∧(m<0∨0<m)):=by cases r <;> simp <;> omega
   rcases hz with⟨rfl,rfl⟩ | rfl | ⟨rfl,hm0⟩
   . rw [show adT n regs ⟨2,⟨false,0⟩,l⟩=abN regs ⟨false,0⟩ by simp only [adT,hk,hl,ht];simp]
     exact apC g f nm ps regs ba n bc ah false 0 l w ao c 0 0 0 0 h0 h1 hn H hw Hh (by omega) (by omega)
   . rw [show adT n regs ⟨2,⟨true,m⟩,l⟩=5 by simp only [adT,hk,hl,ht];simp]
     exact apD g f nm ps regs ba n bc ah true m l w ao c 0 0 0 0 h0 h1 hn H hw Hh (by omega) (by omega)
   . rw [show adT n regs ⟨2,⟨false,m⟩,l⟩=5 by simp only [adT,hk,hl,ht];simp;intro _;omega]
     exact apE g f nm ps regs ba n bc ah false m l w ao c 0 0 0 0 h0 h1 hn H hw Hh (by omega) (by omega) hm0
 . obtain⟨b,off,cs,rfl,hb,⟨rfl,_⟩,_,ar⟩:=h.get (k:=0) (by omega)
   obtain⟨b',aE,aF,aA,aG,⟨rfl,_⟩,_,au⟩:=h.get (k:=1) (by omega);cases aA;have c0:w.cell? ⟨b,off,none⟩=some (.int .i64 l[0]):=by simpa using ar 0 _ rfl
   have c1:w.cell? ⟨b,off+1,none⟩=some (.int .i64 l[1]):=by simpa using au 0 _ rfl
   have aw:l.getD 0 0=l[0]:=by rw [Aac,Aaa (by omega)];rfl
   have ax:l.getD 1 0=l[1]:=by rw [Aac,Aaa (by omega)];rfl
   by_cases hz:l[0]=l[1]
   . rw [show adT n regs ⟨3,⟨r,m⟩,l⟩=5 by simp only [adT,hk,hl,ht,aw,ax,hz];simp]
     exact apF g f nm ps regs ba n bc ah r m l w none c b off _ _ h0 h1 hn H hw Hh (by omega) (by omega) c0 c1 (aac c0) (by omega) (by omega)
   . rw [show adT n regs ⟨3,⟨r,m⟩,l⟩=abN regs ⟨r,m⟩ by simp only [adT,hk,hl,ht,aw,ax,hz];simp]
     exact apG g f nm ps regs ba n bc ah r m l w none c b off _ _ h0 h1 hn H hw Hh (by omega) (by omega) c0 c1 (aac c0) (by omega)
end
end Go.Proofs.YtnkfdeiigplhoaaGreatDoor
