/- The data of the program as plain Lean structures, and what it means that memory holds them. No program in sight. Contracts of core.Within and core.Name: what the two return, for every argument. Contracts of small functions that code.Check calls. Contracts of core.Shapes, slices.IndexFunc and ContainsFunc at ints, and of the checker's end. The contract of the checker's end. -/
import Derived.WalkKit
import Derived.Test.YtnkogppgacappaaGreatDoorProg
import Derived.WalkSpells
import Derived.WalkLawsBesides
import Derived.Deep.QuietTactic
import Derived.BigQuiet
namespace Go.Proofs.YtnkogppgacappaaGreatDoor
open Go.RowKit

theorem hid {p:Prop}(h:p):Hid p:=h

theorem ext_lt {p:Nat→Prop}{k:Nat}(h:∀j,j<k→p j)(hk:p k):∀j,j<k+1→p j:=fun j hj=>by
 rcases Nat.lt_succ_iff_lt_or_eq.1 hj with h' | rfl
 · exact h j h'
 · exact hk

@[go_sem] theorem not_decide_le(a b:Int):(!decide (a≤b))=decide (b<a):=by rw [Bool.eq_iff_iff];simp
@[go_sem] theorem not_decide_lt(a b:Int):(!decide (a<b))=decide (b≤a):=by rw [Bool.eq_iff_iff];simp
@[go_sem] theorem beq_int(a b:Int):(a == b)=(decide (a≤b)&&decide (b≤a)):=by rw [Bool.eq_iff_iff];simp;omega
@[go_sem] theorem bne_int(a b:Int):(a != b)=(decide (a<b)||decide (b<a)):=by rw [Bool.eq_iff_iff];simp;omega

theorem ret_bool {a b:Bool}(h:a=b):Ending.returned (.bool a) = .returned (.bool b):=by rw [h]
theorem ret_int {k:IntKind}{a b:Int}(h:a=b):Ending.returned (.int k a) = .returned (.int k b):=by rw [h]

structure DVal where
 reg:Bool
 n:Int
 deriving DecidableEq
structure DIns where
 op:Int
 dst:Int
 a:DVal
 b:DVal
 fn:Int
 args:List DVal
 deriving DecidableEq
structure DPhi where
 dst:Int
 src:List DVal
 deriving DecidableEq
structure DEnd where
 kind:Int
 on:DVal
 to:List Int
 deriving DecidableEq
structure DBlock where
 phis:List DPhi
 list:List DIns
 fin:DEnd
 deriving DecidableEq
structure DFunc where
 name:ByteArray
 params:Int
 regs:Int
 blocks:List DBlock
structure DGlobal where
 name:ByteArray
 size:Int
 init:List Int
structure DUnit where
 globals:List DGlobal
 funcs:List DFunc

def CellsAt(w:World)(b off:Nat)(cs:List Value):Prop:=∀j v,cs[j]?=some v→w.cell? ⟨b,off+j,none⟩=some v

abbrev Rp (α:Type):=(Nat→Prop)→World→List Value→α→Prop

def SlAt {α:Type}(S:Nat→Prop)(w:World)(sz:Nat)(r:Rp α)(v:Value)(l:List α):Prop :=
 ∃ ao c, v = .slice ao l.length c ∧ l.length ≤ c ∧ c ≤ 9223372036854775807 ∧ (l ≠ [] → ∃ b off, ao = some ⟨b, off, none⟩ ∧ S b ∧
   ∀ i x, l[i]? = some x → ∃ cs, r S w cs x ∧ cs.length = sz ∧ CellsAt w b (off + i * sz) cs)

def rInt:Rp Int:=fun _ _ cs x=>cs=[.int .i64 x] ∧ -9223372036854775808≤x∧x≤9223372036854775807
def rBool:Rp Bool:=fun _ _ cs x=>cs=[.bool x]
def rStr:Rp ByteArray:=fun _ _ cs x=>cs=[.string x]
def rVal:Rp DVal:=fun _ _ cs x=>cs=[.bool x.reg,.int .i64 x.n] ∧ -9223372036854775808≤x.n∧x.n≤9223372036854775807
def I64(x:Int):Prop := -9223372036854775808≤x∧x≤9223372036854775807
def rIns:Rp DIns:=fun S w cs x=>∃v,cs=[.int .i64 x.op,.int .i64 x.dst,.bool x.a.reg,.int .i64 x.a.n,.bool x.b.reg,.int .i64 x.b.n,.int .i64 x.fn,v] ∧
 SlAt S w 2 rVal v x.args∧I64 x.op∧I64 x.dst∧I64 x.a.n∧I64 x.b.n∧I64 x.fn
def rPhi:Rp DPhi:=fun S w cs x=>∃v,cs=[.int .i64 x.dst,v]∧SlAt S w 2 rVal v x.src∧I64 x.dst
def rEnd:Rp DEnd:=fun S w cs x=>∃v,cs=[.int .i64 x.kind,.bool x.on.reg,.int .i64 x.on.n,v]∧SlAt S w 1 rInt v x.to∧I64 x.kind∧I64 x.on.n
def rBlock:Rp DBlock:=fun S w cs x=>∃p l e,cs=p :: l :: e∧SlAt S w 2 rPhi p x.phis∧SlAt S w 8 rIns l x.list∧rEnd S w e x.fin
def rFunc:Rp DFunc:=fun S w cs x=>∃v,cs=[.string x.name,.int .i64 x.params,.int .i64 x.regs,v]∧SlAt S w 6 rBlock v x.blocks∧I64 x.params∧I64 x.regs
def rGlobal:Rp DGlobal:=fun S w cs x=>∃v,cs=[.string x.name,.int .i64 x.size,v]∧SlAt S w 1 rInt v x.init∧I64 x.size
def rUnit:Rp DUnit:=fun S w cs x=>∃g f,cs=[g,f]∧SlAt S w 3 rGlobal g x.globals∧SlAt S w 4 rFunc f x.funcs

def Stays(S:Nat→Prop)(w w':World):Prop:=∀b o v,S b→w.cell? ⟨b,o,none⟩=some v→w'.cell? ⟨b,o,none⟩=some v
structure Rp.Mono {α:Type}(r:Rp α):Prop where
 out:∀(S S':Nat→Prop) (w w':World) (cs:List Value) (x:α),(∀b,S b→S' b)→Stays S w w'→r S w cs x→r S' w' cs x

theorem SlAt.mono {α : Type} {r : Rp α} (hr : r.Mono) {S S' : Nat → Prop} {w w' : World} {sz : Nat} {v : Value} {l : List α} (hS : ∀ b, S b → S' b) (hw : Stays S w w')
 (h:SlAt S w sz r v l):SlAt S' w' sz r v l:=by
 obtain⟨ao,c,hv,hc,hm,h⟩:=h;refine⟨ao,c,hv,hc,hm,fun hne=>?_⟩;obtain⟨b,off,ha,hb,h⟩:=h hne;refine⟨b,off,ha,hS _ hb,fun i x hx=>?_⟩;obtain⟨cs,h1,h2,h3⟩:=h i x hx;exact⟨cs,hr.out _ _ _ _ _ _ hS hw h1,h2,fun j v hj=>hw _ _ _ hb (h3 j v hj)⟩

theorem rInt_mono:rInt.Mono:=⟨fun _ _ _ _ _ _ _ _ h=>h⟩
theorem rBool_mono:rBool.Mono:=⟨fun _ _ _ _ _ _ _ _ h=>h⟩
theorem rStr_mono:rStr.Mono:=⟨fun _ _ _ _ _ _ _ _ h=>h⟩
theorem rVal_mono:rVal.Mono:=⟨fun _ _ _ _ _ _ _ _ h=>h⟩
theorem rIns_mono:rIns.Mono:=⟨fun _ _ _ _ _ _ hS hw ⟨v,h1,h2,h3⟩=>⟨v,h1,h2.mono rVal_mono hS hw,h3⟩⟩
theorem rPhi_mono:rPhi.Mono:=⟨fun _ _ _ _ _ _ hS hw ⟨v,h1,h2,h3⟩=>⟨v,h1,h2.mono rVal_mono hS hw,h3⟩⟩
theorem rEnd_mono:rEnd.Mono:=⟨fun _ _ _ _ _ _ hS hw ⟨v,h1,h2,h3⟩=>⟨v,h1,h2.mono rInt_mono hS hw,h3⟩⟩
theorem rBlock_mono:rBlock.Mono:=⟨fun _ _ _ _ _ _ hS hw ⟨p,l,e,h1,h2,h3,h4⟩=>⟨p,l,e,h1,h2.mono rPhi_mono hS hw,h3.mono rIns_mono hS hw,rEnd_mono.out _ _ _ _ _ _ hS hw h4⟩⟩
theorem rFunc_mono:rFunc.Mono:=⟨fun _ _ _ _ _ _ hS hw ⟨v,h1,h2,h3⟩=>⟨v,h1,h2.mono rBlock_mono hS hw,h3⟩⟩
theorem rGlobal_mono:rGlobal.Mono:=⟨fun _ _ _ _ _ _ hS hw ⟨v,h1,h2,h3⟩=>⟨v,h1,h2.mono rInt_mono hS hw,h3⟩⟩
theorem Stays.refl(S:Nat→Prop)(w:World):Stays S w w:=fun _ _ _ _ h=>h
theorem cell_lt {w:World}{b o:Nat}{v:Value}(h:w.cell? ⟨b,o,none⟩=some v):b<w.heap.size:=by
 unfold World.cell? at h;rcases Nat.lt_or_ge b w.heap.size with h1 | h1
 · exact h1
 · rw [Array.getElem?_eq_none h1] at h;cases h
theorem Stays.below' {S:Nat→Prop}{w w':World}(h:Below w.heap.size w w'):Stays S w w':=fun b o v _ hc=>by
 rw [h.cell (p:=⟨b,o,none⟩) (cell_lt hc)];exact hc

theorem CellsAt.get1 {w:World}{b o:Nat}{v0:Value}(h:CellsAt w b o [v0]):w.cell? ⟨b,o,none⟩=some v0:=h 0 _ rfl
theorem CellsAt.get2 {w:World}{b o:Nat}{v0 v1:Value}(h:CellsAt w b o [v0,v1]):w.cell? ⟨b,o,none⟩=some v0∧w.cell? ⟨b,o+1,none⟩=some v1:=⟨h 0 _ rfl,h 1 _ rfl⟩
theorem CellsAt.get3 {w:World}{b o:Nat}{v0 v1 v2:Value}(h:CellsAt w b o [v0,v1,v2]):w.cell? ⟨b,o,none⟩=some v0∧w.cell? ⟨b,o+1,none⟩=some v1∧w.cell? ⟨b,o+2,none⟩=some v2:=⟨h 0 _ rfl,h 1 _ rfl,h 2 _ rfl⟩
theorem CellsAt.get4 {w:World}{b o:Nat}{v0 v1 v2 v3:Value}(h:CellsAt w b o [v0,v1,v2,v3]):w.cell? ⟨b,o,none⟩=some v0∧w.cell? ⟨b,o+1,none⟩=some v1∧w.cell? ⟨b,o+2,none⟩=some v2∧w.cell? ⟨b,o+3,none⟩=some v3:=⟨h 0 _ rfl,h 1 _ rfl,h 2 _ rfl,h 3 _ rfl⟩
theorem CellsAt.get6 {w:World}{b o:Nat}{v0 v1 v2 v3 v4 v5:Value}(h:CellsAt w b o [v0,v1,v2,v3,v4,v5]):w.cell? ⟨b,o,none⟩=some v0∧w.cell? ⟨b,o+1,none⟩=some v1∧w.cell? ⟨b,o+2,none⟩=some v2∧w.cell? ⟨b,o+3,none⟩=some v3∧w.cell? ⟨b,o+4,none⟩=some v4∧w.cell? ⟨b,o+5,none⟩=some v5:=⟨h 0 _ rfl,h 1 _ rfl,h 2 _ rfl,h 3 _ rfl,h 4 _ rfl,h 5 _ rfl⟩
theorem CellsAt.get7 {w:World}{b o:Nat}{v0 v1 v2 v3 v4 v5 v6:Value}(h:CellsAt w b o [v0,v1,v2,v3,v4,v5,v6]):w.cell? ⟨b,o,none⟩=some v0∧w.cell? ⟨b,o+1,none⟩=some v1∧w.cell? ⟨b,o+2,none⟩=some v2∧w.cell? ⟨b,o+3,none⟩=some v3∧w.cell? ⟨b,o+4,none⟩=some v4∧w.cell? ⟨b,o+5,none⟩=some v5∧w.cell? ⟨b,o+6,none⟩=some v6:=⟨h 0 _ rfl,h 1 _ rfl,h 2 _ rfl,h 3 _ rfl,h 4 _ rfl,h 5 _ rfl,h 6 _ rfl⟩
theorem CellsAt.get8 {w:World}{b o:Nat}{v0 v1 v2 v3 v4 v5 v6 v7:Value}(h:CellsAt w b o [v0,v1,v2,v3,v4,v5,v6,v7]):w.cell? ⟨b,o,none⟩=some v0∧w.cell? ⟨b,o+1,none⟩=some v1∧w.cell? ⟨b,o+2,none⟩=some v2∧w.cell? ⟨b,o+3,none⟩=some v3∧w.cell? ⟨b,o+4,none⟩=some v4∧w.cell? ⟨b,o+5,none⟩=some v5∧w.cell? ⟨b,o+6,none⟩=some v6∧w.cell? ⟨b,o+7,none⟩=some v7:=⟨h 0 _ rfl,h 1 _ rfl,h 2 _ rfl,h 3 _ rfl,h 4 _ rfl,h 5 _ rfl,h 6 _ rfl,h 7 _ rfl⟩

end Go.Proofs.YtnkogppgacappaaGreatDoor

namespace Go.Proofs.YtnkogppgacappaaGreatDoor
open Go.RowKit

set_option maxHeartbeats 400000 in
theorem within_any(n lo hi:Int)(w:World) :
 Calls Tryz.prog 22 #[.int .i64 n,.int .i64 lo,.int .i64 hi] w fun e w'=>e = .returned (.bool (decide (lo≤n∧n≤hi)))∧w=w':=by
 go_enter Tryz.func22,Tryz.ntmps22;go_wp2
 all_goals go_ret
 · have h:lo≤n:=by assumption
   exact⟨by simp [h],rfl⟩
 · have h:n<lo:=by assumption
   exact⟨by simp [show ¬lo≤n by omega],rfl⟩

def ChrOk(i c:Nat):Prop:=(97≤c∧c≤122)∨(65≤c∧c≤90)∨c=95∨(0<i∧48≤c∧c≤57)
instance (i c:Nat):Decidable (ChrOk i c):=by unfold ChrOk;infer_instance
def nameOk(s:ByteArray):Bool:=decide (1≤s.size∧s.size≤12)&&decide (∀i,(h:i<s.size)→ChrOk i (s[i]'h).toNat)

set_option maxHeartbeats 1000000 in
theorem name_any(s:ByteArray)(w:World) :
 Calls Tryz.prog 20 #[.string s] w fun e w'=>e = .returned (.bool (nameOk s))∧w=w':=by
 by_cases h1:1≤s.size∧s.size≤12
 case neg =>
  have hn:nameOk s=false:=by simp [nameOk,h1]
  rw [hn];clear hn;have h2:s.size<1∨12<s.size:=by omega
  rcases h2 with h2 | h2
  all_goals
   go_enter Tryz.func20,Tryz.ntmps20;go_wp2;go_ret;exact⟨rfl,rfl⟩
 obtain⟨h1,h2⟩:=h1;go_enter Tryz.func20,Tryz.ntmps20;go_wp2;go_loop [15] (fun i=>∃k:Nat,k≤s.size∧i = .int .i64 k∧∀j,j<k→(h:j<s.size)→ChrOk j (s[j]'h).toNat) (fun i=>s.size - (intOf i).toNat)
 case atStart=>exact⟨0,Nat.zero_le _,rfl,fun j hj=>by omega⟩
 case round =>
  obtain⟨k,hk,rfl,hall⟩:=hrel;have H:=hid hall;clear hall
  by_cases hlt:k<s.size
  · by_cases hc:ChrOk k (s[k]'hlt).toNat
    · have hok:=hid hc
      unfold ChrOk at hc;rcases hc with hc | hc | hc | hc
      all_goals
       go_wp2;go_round
       case rel=>exact⟨k+1,by omega,by go_num,ext_lt H.out (fun _=>hok.out)⟩
       case measure=>simp [intOf];omega
    · have hok:=hid hc
      have hc1:¬(97≤(s[k]'hlt).toNat∧(s[k]'hlt).toNat≤122):=fun h=>hc (.inl h);have hc2:¬(65≤(s[k]'hlt).toNat∧(s[k]'hlt).toNat≤90):=fun h=>hc (.inr (.inl h));have hc3:¬(s[k]'hlt).toNat=95:=fun h=>hc (.inr (.inr (.inl h)));have hc4:¬(0<k∧48≤(s[k]'hlt).toNat∧(s[k]'hlt).toNat≤57):=fun h=>hc (.inr (.inr (.inr h)));have hn:nameOk s=false:=by
       simp only [nameOk,h1,h2,and_self,decide_true,Bool.true_and,decide_eq_false_iff_not];exact fun h=>hc (h k hlt)
      have Hn:=hid hn;clear hn hc;go_wp2
      all_goals
       go_ret;exact⟨ret_bool Hn.out.symm,rfl⟩
  · have hn:nameOk s=true:=by
     simp only [nameOk,h1,h2,and_self,decide_true,Bool.true_and,decide_eq_true_eq];exact fun i h=>H.out i (by omega) h
    have Hn:=hid hn;clear hn;go_wp2;go_ret;exact⟨ret_bool Hn.out.symm,rfl⟩

end Go.Proofs.YtnkogppgacappaaGreatDoor

namespace Go.Proofs.YtnkogppgacappaaGreatDoor
open Go.RowKit

def strEq(a b:ByteArray):Bool:=a.toList == b.toList
def idxStr(l:List ByteArray)(s:ByteArray):Int:=match l.findIdx? (fun t=>strEq s t) with | some k=>k | none => -1

theorem idx_none {α:Type}{l:List α}{p:α→Bool}(h:∀(j:Nat) (x:α),l[j]?=some x→p x=false):l.findIdx? p=none:=by
 rw [List.findIdx?_eq_none_iff];intro x hx;obtain⟨j,hj⟩:=List.getElem?_of_mem hx;exact h j x hj
theorem idx_some {α:Type}{l:List α}{p:α→Bool}{k:Nat}{x:α}(hx:l[k]?=some x)(hp:p x=true)(h:∀j:Nat,j<k→∀x:α,l[j]?=some x→p x=false):l.findIdx? p=some k:=by
 rw [List.findIdx?_eq_some_iff_getElem];obtain⟨hlt,rfl⟩:=List.getElem?_eq_some_iff.1 hx;exact⟨hlt,hp,fun j hj=>by rw [h j hj _ (List.getElem?_eq_getElem (by omega))];simp⟩

theorem SlAt.get {α:Type}{S:Nat→Prop}{w:World}{sz:Nat}{r:Rp α}{ao:Option Addr}{n c:Nat}{l:List α}(h:SlAt S w sz r (.slice ao n c) l){k:Nat}(hk:k<l.length) :
 ∃b off cs,ao=some ⟨b,off,none⟩∧S b∧r S w cs l[k]∧cs.length=sz∧CellsAt w b (off+k * sz) cs:=by
 obtain⟨ao',c',hv,_,_,h⟩:=h;cases hv;obtain⟨b,off,ha,hb,h⟩:=h (fun e=>by rw [e] at hk;exact Nat.not_lt_zero _ hk);obtain⟨cs,h1,h2,h3⟩:=h k l[k] (List.getElem?_eq_getElem hk);exact⟨b,off,cs,ha,hb,h1,h2,h3⟩
theorem SlAt.val {α:Type}{S:Nat→Prop}{w:World}{sz:Nat}{r:Rp α}{v:Value}{l:List α}(h:SlAt S w sz r v l) :
 ∃ao c,v = .slice ao l.length c∧l.length≤9223372036854775807:=by
 obtain⟨ao',c',hv,h1,h2,_⟩:=h;exact⟨ao',c',hv,by omega⟩

set_option maxHeartbeats 400000 in
theorem indexStr_any {S:Nat→Prop}(v:Value)(l:List ByteArray)(s:ByteArray)(w:World)(h:SlAt S w 1 rStr v l) :
 Calls Tryz.prog 47 #[v,.string s] w fun e w'=>e = .returned (.int .i64 (idxStr l s))∧w=w':=by
 obtain⟨ao,c,rfl,hm⟩:=h.val;go_enter Tryz.func47,Tryz.ntmps47;go_wp2;go_loop [8] (fun i=>∃k:Nat,k≤l.length∧i = .int .i64 k∧∀j,j<k→∀x,l[j]?=some x→strEq s x=false) (fun i=>l.length - (intOf i).toNat)
 case atStart=>exact⟨0,Nat.zero_le _,rfl,fun j hj=>by omega⟩
 case round =>
  obtain⟨k,hk,rfl,hall⟩:=hrel;have H:=hid hall;clear hall
  by_cases hlt:k<l.length
  · obtain⟨b,off,cs,rfl,hb,rfl,hc,hcs⟩:=h.get hlt
    have hcell:w.cell? ⟨b,off+k,none⟩=some (.string l[k]):=by simpa using hcs 0 _ rfl
    have Hh:=hid h;clear h hcs hc
    by_cases he:strEq s l[k]=true
    · have he':(s.toList == l[k].toList)=true:=he
      have hi:idxStr l s=k:=by unfold idxStr;rw [idx_some (List.getElem?_eq_getElem hlt) he H.out]
      have Hi:=hid hi;clear hi he;go_wp2;go_ret;exact⟨ret_int Hi.out.symm,rfl⟩
    · have he0:strEq s l[k]=false:=by simpa using he
      have he':(s.toList == l[k].toList)=false:=he0;have He:=hid he0;clear he0 he;go_wp2;go_round
      case rel=>exact⟨k+1,by omega,by go_num,ext_lt H.out (fun x hx=>by rw [List.getElem?_eq_getElem hlt] at hx;cases hx;exact He.out)⟩
      case measure=>simp [intOf];omega
  · have hi:idxStr l s = -1:=by
     unfold idxStr;rw [idx_none (fun j x hx=>H.out j (by have:=(List.getElem?_eq_some_iff.1 hx).1;omega) x hx)]
    have Hi:=hid hi;clear hi;go_wp2;go_ret;exact⟨ret_int Hi.out.symm,rfl⟩

def hasStr(l:List ByteArray)(s:ByteArray):Bool:=decide (0≤idxStr l s)
set_option maxHeartbeats 400000 in
theorem containsStr_any {S:Nat→Prop}(v:Value)(l:List ByteArray)(s:ByteArray)(w:World)(h:SlAt S w 1 rStr v l) :
 Calls Tryz.prog 21 #[v,.string s] w fun e w'=>e = .returned (.bool (hasStr l s))∧w=w':=by
 have H:=hid h;clear h;go_enter Tryz.func21,Tryz.ntmps21;go_wp2_with (go_at_call 47;((with_reducible refine (indexStr_any _ _ _ _ H.out).mono ?_);rintro e w' ⟨rfl,rfl⟩));go_ret;exact⟨rfl,rfl⟩

def valE(regs:Int)(v:DVal):Int:=if v.reg=true∧¬(0≤v.n∧v.n≤regs - 1) then 3 else 0
set_option maxHeartbeats 400000 in
theorem val_any(g f nm ps:Value)(regs:Int)(bl ah:Value)(r:Bool)(n:Int)(w:World)(h0:0≤regs)(h1:regs≤100) :
 Calls Tryz.prog 83 #[.agg #[g,f,nm,ps,.int .i64 regs,bl,ah],.agg #[.bool r,.int .i64 n]] w fun e w' =>
  e = .returned (.int .i64 (valE regs ⟨r,n⟩))∧Below w.heap.size w w':=by
 cases r
 · go_enter Tryz.func83,Tryz.ntmps83
   go_wp2;go_ret;exact⟨ret_int (by simp [valE]),((Below.refl _ _).alloc (by simp) _).alloc (by simp) _⟩
 · by_cases hin:0≤n∧n≤regs - 1
   all_goals
    go_enter Tryz.func83,Tryz.ntmps83;go_wp2_with (go_at_call 22;((with_reducible refine (within_any _ _ _ _).mono ?_);rintro e w' ⟨rfl,rfl⟩));go_ret;exact⟨ret_int (by simp [valE,hin]),((Below.refl _ _).alloc (by simp) _).alloc (by simp) _⟩

def dstE(regs n:Int):Int:=if ¬(0≤n∧n≤regs - 1) then 3 else 0
set_option maxHeartbeats 400000 in
theorem dst_any(g f nm ps:Value)(regs:Int)(bl ah:Value)(n:Int)(w:World)(h0:0≤regs)(h1:regs≤100) :
 Calls Tryz.prog 84 #[.agg #[g,f,nm,ps,.int .i64 regs,bl,ah],.int .i64 n] w fun e w' =>
  e = .returned (.int .i64 (dstE regs n))∧Below w.heap.size w w':=by
 by_cases hin:0≤n∧n≤regs - 1
 all_goals
  go_enter Tryz.func84,Tryz.ntmps84;go_wp2_with (go_at_call 22;((with_reducible refine (within_any _ _ _ _).mono ?_);rintro e w' ⟨rfl,rfl⟩));go_ret;exact⟨ret_int (by simp [dstE,hin]),(Below.refl _ _).alloc (by simp) _⟩

end Go.Proofs.YtnkogppgacappaaGreatDoor

namespace Go.Proofs.YtnkogppgacappaaGreatDoor
open Go.RowKit

def shpD(op:Int):Bool:=decide (1≤op∧op≤18)||decide (20≤op∧op≤21)
def shpA(op:Int):Bool:=decide (1≤op∧op≤19)||decide (op=22)
def shpB(op:Int):Bool:=decide (2≤op∧op≤15)||decide (op=19)

theorem shp_mid {op:Int}(h:2≤op∧op≤15):shpD op=true∧shpA op=true∧shpB op=true:=by
 simp only [shpD,shpA,shpB,Bool.or_eq_true,decide_eq_true_eq];omega
theorem shp_out {op:Int}(h:op<1∨22<op):shpD op=false∧shpA op=false∧shpB op=false:=by
 simp only [shpD,shpA,shpB,Bool.or_eq_false_iff,decide_eq_false_iff_not];omega

set_option maxHeartbeats 1000000 in
theorem shapes_any(op:Int)(w:World) :
 Calls Tryz.prog 85 #[.int .i64 op] w fun e w'=>e = .returned (.agg #[.bool (shpD op),.bool (shpA op),.bool (shpB op)])∧Below w.heap.size w w':=by
 have hc:op=1∨op=16∨op=17∨op=18∨(2≤op∧op≤15)∨op=19∨op=20∨op=21∨op=22∨op<1∨22<op:=by omega
 rcases hc with rfl | rfl | rfl | rfl | h | rfl | rfl | rfl | rfl | h | h
 all_goals
  go_enter Tryz.func85,Tryz.ntmps85;go_wp2
 all_goals
  refine bodyPost_ret (v:=_) ?_ rfl ⟨rfl,?_⟩
 all_goals first
  | ((repeat (first | exact Below.refl _ _ | refine Below.alloc ?_ (by simp) _ | refine Below.setCell ?_ (by simp) _));done)
  | skip
 all_goals
  simp [results,Tryz.results85,go_sem]
 all_goals first
  | (refine⟨?_,?_,?_⟩ <;> rfl)
  | skip
 · obtain⟨e1,e2,e3⟩:=shp_mid h
   simp [e1,e2,e3]
 all_goals
  obtain⟨e1,e2,e3⟩:=shp_out (op:=op) (by omega);simp [e1,e2,e3]

end Go.Proofs.YtnkogppgacappaaGreatDoor

namespace Go.Proofs.YtnkogppgacappaaGreatDoor
open Go.RowKit

def badTo(n:Nat)(x:Int):Bool:=!decide (1≤x∧x≤(n:Int) - 1)

set_option maxHeartbeats 400000 in
theorem end1_any(x:Int)(cb:Nat)(ba:Option Addr)(n bc:Nat)(w:World)(hc:w.cell? ⟨cb,5,none⟩=some (.slice ba n bc))(hn:n≤9223372036854775807) :
 Calls Tryz.prog 82 #[.int .i64 x,.pointer (some ⟨cb,0,none⟩)] w fun e w'=>e = .returned (.bool (badTo n x))∧w=w':=by
 go_enter Tryz.func82,Tryz.ntmps82;go_wp2_with (go_at_call 22;((with_reducible refine (within_any _ _ _ _).mono ?_);rintro e w' ⟨rfl,rfl⟩));go_ret;exact⟨ret_bool (by rw [Bool.eq_iff_iff];simp [badTo]),rfl⟩

def idxBad(n:Nat)(l:List Int):Int:=match l.findIdx? (badTo n) with | some k=>k | none => -1
set_option maxHeartbeats 400000 in
theorem indexBad_any {S : Nat → Prop} (v : Value) (l : List Int) (cb : Nat) (ba : Option Addr) (n bc : Nat) (w : World) (h : SlAt S w 1 rInt v l)
 (hc:w.cell? ⟨cb,5,none⟩=some (.slice ba n bc)) (hn:n≤9223372036854775807) :
 Calls Tryz.prog 114 #[v,.func (.func 82) #[] #[.pointer (some ⟨cb,0,none⟩)]] w fun e w'=>e = .returned (.int .i64 (idxBad n l))∧w=w':=by
 obtain⟨ao,c,rfl,hm⟩:=h.val;go_enter Tryz.func114,Tryz.ntmps114;go_wp2_with fail;go_loop [8] (fun i=>∃k:Nat,k≤l.length∧i = .int .i64 k∧∀j,j<k→∀x,l[j]?=some x→badTo n x=false) (fun i=>l.length - (intOf i).toNat)
 case atStart=>exact⟨0,Nat.zero_le _,rfl,fun j hj=>by omega⟩
 case round =>
  obtain⟨k,hk,rfl,hall⟩:=hrel;have H:=hid hall;clear hall
  by_cases hlt:k<l.length
  · obtain⟨b,off,cs,rfl,hb,⟨rfl,_⟩,hl,hcs⟩:=h.get hlt
    have hcell:w.cell? ⟨b,off+k,none⟩=some (.int .i64 l[k]):=by simpa using hcs 0 _ rfl
    clear h hcs hl
    by_cases he:badTo n l[k]=true
    · have hi:idxBad n l=k:=by unfold idxBad;rw [idx_some (List.getElem?_eq_getElem hlt) he H.out]
      have Hi:=hid hi;clear hi;go_wp2_with (go_at_call 82;((with_reducible refine (end1_any _ _ _ _ _ _ hc hn).mono ?_);rintro e w' ⟨rfl,rfl⟩));go_ret;exact⟨ret_int Hi.out.symm,rfl⟩
    · have he0:badTo n l[k]=false:=by simpa using he
      have He:=hid he0;clear he;go_wp2_with (go_at_call 82;((with_reducible refine (end1_any _ _ _ _ _ _ hc hn).mono ?_);rintro e w' ⟨rfl,rfl⟩));go_round
      case rel=>exact⟨k+1,by omega,by go_num,ext_lt H.out (fun x hx=>by rw [List.getElem?_eq_getElem hlt] at hx;cases hx;exact He.out)⟩
      case measure=>simp [intOf];omega
  · have hi:idxBad n l = -1:=by
     unfold idxBad;rw [idx_none (fun j x hx=>H.out j (by have:=(List.getElem?_eq_some_iff.1 hx).1;omega) x hx)]
    have Hi:=hid hi;clear hi;go_wp2_with fail;go_ret;exact⟨ret_int Hi.out.symm,rfl⟩

def hasBad(n:Nat)(l:List Int):Bool:=decide (0≤idxBad n l)
set_option maxHeartbeats 400000 in
theorem containsBad_any {S : Nat → Prop} (v : Value) (l : List Int) (cb : Nat) (ba : Option Addr) (n bc : Nat) (w : World) (h : SlAt S w 1 rInt v l)
 (hc:w.cell? ⟨cb,5,none⟩=some (.slice ba n bc)) (hn:n≤9223372036854775807) :
 Calls Tryz.prog 81 #[v,.func (.func 82) #[] #[.pointer (some ⟨cb,0,none⟩)]] w fun e w'=>e = .returned (.bool (hasBad n l))∧w=w':=by
 have H:=hid h;clear h;go_enter Tryz.func81,Tryz.ntmps81;go_wp2_with (go_at_call 114;((with_reducible refine (indexBad_any _ _ _ _ _ _ _ H.out hc hn).mono ?_);rintro e w' ⟨rfl,rfl⟩));go_ret;exact⟨rfl,rfl⟩
theorem hasBad_iff(n:Nat)(l:List Int):hasBad n l=l.any (badTo n):=by
 unfold hasBad idxBad;rw [Bool.eq_iff_iff,decide_eq_true_eq];simp only [List.any_eq_true];split
 · rename_i k h
   rw [List.findIdx?_eq_some_iff_getElem] at h;obtain⟨hk,hb,_⟩:=h;exact⟨fun _=>⟨_,List.getElem_mem hk,hb⟩,fun _=>by omega⟩
 · rename_i h
   rw [List.findIdx?_eq_none_iff] at h;constructor
   · intro h';omega
   · rintro⟨x,hx,hb⟩;rw [h x hx] at hb;cases hb

def Ways(w:World):Prop:=w.cell? ⟨0,1,none⟩=some (.int .i64 0)∧w.cell? ⟨0,2,none⟩=some (.int .i64 1)∧w.cell? ⟨0,3,none⟩=some (.int .i64 2)
theorem Ways.below {w w':World}(h:Ways w)(hb:Below w.heap.size w w'):Ways w':=by
 have h0:=cell_lt h.1;exact⟨by rw [hb.cell (p:=⟨0,1,none⟩) h0];exact h.1,by rw [hb.cell (p:=⟨0,2,none⟩) h0];exact h.2.1,by rw [hb.cell (p:=⟨0,3,none⟩) h0];exact h.2.2⟩

def endE(n:Nat)(regs:Int)(e:DEnd):Int :=
 if ¬(1≤e.kind∧e.kind≤3) then 4
 else if (e.to.length:Int)≠e.kind - 1 then 9
 else if e.to.any (badTo n) then 3
 else if (e.kind=3∧e.to.getD 0 0=e.to.getD 1 0)∨(e.kind=2∧e.on≠⟨false,0⟩) then 5
 else valE regs e.on

set_option maxHeartbeats 1000000 in
theorem end_1 {S : Nat → Prop} (g f nm ps : Value) (regs : Int) (ba : Option Addr) (n bc : Nat) (ah : Value) (r : Bool) (m : Int) (l : List Int) (w : World) (ao : Option Addr) (c : Nat) (_b _off : Nat) (_x _y : Int)
 (h0:0≤regs) (h1:regs≤100) (hn:n≤9223372036854775807) (H:Hid (SlAt S w 1 rInt (.slice (ao) l.length c) l)) (hw:Ways w) (Hh:hasBad n l=false) (hl1:(l.length:Int)≤0) :
 Calls Tryz.prog 48 #[.agg #[g,f,nm,ps,.int .i64 regs,.slice ba n bc,ah],.agg #[.int .i64 1,.bool r,.int .i64 m,.slice (ao) l.length c]] w fun e w' =>
  e = .returned (.int .i64 (valE regs ⟨r,m⟩))∧Below w.heap.size w w':=by
 obtain⟨w1,w2,w3⟩:=hw;have hb0:=cell_lt w1;go_enter Tryz.func48,Tryz.ntmps48;go_wp2_with (go_at_call 22;((with_reducible refine (within_any _ _ _ _).mono ?_);rintro e w' ⟨rfl,rfl⟩));go_quiet (fail);go_wp2_with (first | (go_at_call 22;((with_reducible refine (within_any _ _ _ _).mono ?_);rintro e w' ⟨rfl,rfl⟩)) | (go_at_call 81;((with_reducible refine (containsBad_any (S:=S) _ l w.heap.size ba n bc _ ?_ ?_ hn).mono ?_);exact SlAt.mono rInt_mono (fun _ h=>h) (Stays.below' (by (repeat (first | exact Below.refl _ _ | refine Below.alloc ?_ (by first|omega|(simp<;>omega)) _ | refine Below.setCell ?_ (by first|omega|(simp<;>omega)) _ | refine below_drewN ?_ _ | refine Below.drew ?_)))) H.out;simp;rintro e w' ⟨rfl,rfl⟩)));go_quiet (fail);go_wp2_with (first | (go_at_call 83;((with_reducible refine (val_any _ _ _ _ _ _ _ _ _ _ h0 h1).mono ?_);rintro e w1 ⟨rfl,hb1⟩)));go_ret;exact⟨rfl,by (have hz0:=(hb1).size;have hy0:=hz0;(try simp at hy0);repeat (first | exact Below.refl _ _ | refine Below.trans ?_ ((hb1).mono (by first|omega|(simp<;>omega))) | refine Below.alloc ?_ (by first|omega|(simp<;>omega)) _ | refine Below.setCell ?_ (by first|omega|(simp<;>omega)) _ | refine below_drewN ?_ _ | refine Below.drew ?_))⟩

set_option maxHeartbeats 1000000 in
theorem end_2a {S : Nat → Prop} (g f nm ps : Value) (regs : Int) (ba : Option Addr) (n bc : Nat) (ah : Value) (_r : Bool) (_m : Int) (l : List Int) (w : World) (ao : Option Addr) (c : Nat) (_b _off : Nat) (_x _y : Int)
 (h0:0≤regs) (h1:regs≤100) (hn:n≤9223372036854775807) (H:Hid (SlAt S w 1 rInt (.slice (ao) l.length c) l)) (hw:Ways w) (Hh:hasBad n l=false) (hl1:(l.length:Int)≤1) (hl2:1≤(l.length:Int)) :
 Calls Tryz.prog 48 #[.agg #[g,f,nm,ps,.int .i64 regs,.slice ba n bc,ah],.agg #[.int .i64 2,.bool false,.int .i64 0,.slice (ao) l.length c]] w fun e w' =>
  e = .returned (.int .i64 (valE regs ⟨false,0⟩))∧Below w.heap.size w w':=by
 obtain⟨w1,w2,w3⟩:=hw;have hb0:=cell_lt w1;go_enter Tryz.func48,Tryz.ntmps48;go_wp2_with (go_at_call 22;((with_reducible refine (within_any _ _ _ _).mono ?_);rintro e w' ⟨rfl,rfl⟩));go_quiet (fail);go_wp2_with (first | (go_at_call 22;((with_reducible refine (within_any _ _ _ _).mono ?_);rintro e w' ⟨rfl,rfl⟩)) | (go_at_call 81;((with_reducible refine (containsBad_any (S:=S) _ l w.heap.size ba n bc _ ?_ ?_ hn).mono ?_);exact SlAt.mono rInt_mono (fun _ h=>h) (Stays.below' (by (repeat (first | exact Below.refl _ _ | refine Below.alloc ?_ (by first|omega|(simp<;>omega)) _ | refine Below.setCell ?_ (by first|omega|(simp<;>omega)) _ | refine below_drewN ?_ _ | refine Below.drew ?_)))) H.out;simp;rintro e w' ⟨rfl,rfl⟩)));go_quiet (fail);go_wp2_with (first | (go_at_call 83;((with_reducible refine (val_any _ _ _ _ _ _ _ _ _ _ h0 h1).mono ?_);rintro e w1 ⟨rfl,hb1⟩)));go_ret;exact⟨rfl,by (have hz0:=(hb1).size;have hy0:=hz0;(try simp at hy0);repeat (first | exact Below.refl _ _ | refine Below.trans ?_ ((hb1).mono (by first|omega|(simp<;>omega))) | refine Below.alloc ?_ (by first|omega|(simp<;>omega)) _ | refine Below.setCell ?_ (by first|omega|(simp<;>omega)) _ | refine below_drewN ?_ _ | refine Below.drew ?_))⟩

set_option maxHeartbeats 1000000 in
theorem end_2b {S : Nat → Prop} (g f nm ps : Value) (regs : Int) (ba : Option Addr) (n bc : Nat) (ah : Value) (_r : Bool) (m : Int) (l : List Int) (w : World) (ao : Option Addr) (c : Nat) (_b _off : Nat) (_x _y : Int)
 (_h0:0≤regs) (_h1:regs≤100) (hn:n≤9223372036854775807) (H:Hid (SlAt S w 1 rInt (.slice (ao) l.length c) l)) (hw:Ways w) (Hh:hasBad n l=false) (hl1:(l.length:Int)≤1) (hl2:1≤(l.length:Int)) :
 Calls Tryz.prog 48 #[.agg #[g,f,nm,ps,.int .i64 regs,.slice ba n bc,ah],.agg #[.int .i64 2,.bool true,.int .i64 m,.slice (ao) l.length c]] w fun e w' =>
  e = .returned (.int .i64 (5))∧Below w.heap.size w w':=by
 obtain⟨w1,w2,w3⟩:=hw;have hb0:=cell_lt w1;go_enter Tryz.func48,Tryz.ntmps48;go_wp2_with (go_at_call 22;((with_reducible refine (within_any _ _ _ _).mono ?_);rintro e w' ⟨rfl,rfl⟩));go_quiet (fail);go_wp2_with (first | (go_at_call 22;((with_reducible refine (within_any _ _ _ _).mono ?_);rintro e w' ⟨rfl,rfl⟩)) | (go_at_call 81;((with_reducible refine (containsBad_any (S:=S) _ l w.heap.size ba n bc _ ?_ ?_ hn).mono ?_);exact SlAt.mono rInt_mono (fun _ h=>h) (Stays.below' (by (repeat (first | exact Below.refl _ _ | refine Below.alloc ?_ (by first|omega|(simp<;>omega)) _ | refine Below.setCell ?_ (by first|omega|(simp<;>omega)) _ | refine below_drewN ?_ _ | refine Below.drew ?_)))) H.out;simp;rintro e w' ⟨rfl,rfl⟩)));go_quiet (fail);go_wp2_with (first | (go_at_call 83;((with_reducible refine (val_any _ _ _ _ _ _ _ _ _ _ h0 h1).mono ?_);rintro e w1 ⟨rfl,hb1⟩)));go_ret;exact⟨rfl,by (repeat (first | exact Below.refl _ _ | refine Below.alloc ?_ (by first|omega|(simp<;>omega)) _ | refine Below.setCell ?_ (by first|omega|(simp<;>omega)) _ | refine below_drewN ?_ _ | refine Below.drew ?_))⟩

set_option maxHeartbeats 1000000 in
theorem end_3a {S : Nat → Prop} (g f nm ps : Value) (regs : Int) (ba : Option Addr) (n bc : Nat) (ah : Value) (r : Bool) (m : Int) (l : List Int) (w : World) (_ao : Option Addr) (c : Nat) (b off : Nat) (x y : Int)
 (_h0:0≤regs) (_h1:regs≤100) (hn:n≤9223372036854775807) (H:Hid (SlAt S w 1 rInt (.slice (some ⟨b,off,none⟩) l.length c) l)) (hw:Ways w) (Hh:hasBad n l=false) (hl1:(l.length:Int)≤2) (hl2:2≤(l.length:Int)) (c0:w.cell? ⟨b,off,none⟩=some (.int .i64 x)) (c1:w.cell? ⟨b,off+1,none⟩=some (.int .i64 y)) (hbb:b<w.heap.size) (hz1:x≤y) (hz2:y≤x) :
 Calls Tryz.prog 48 #[.agg #[g,f,nm,ps,.int .i64 regs,.slice ba n bc,ah],.agg #[.int .i64 3,.bool r,.int .i64 m,.slice (some ⟨b,off,none⟩) l.length c]] w fun e w' =>
  e = .returned (.int .i64 (5))∧Below w.heap.size w w':=by
 obtain⟨w1,w2,w3⟩:=hw;have hb0:=cell_lt w1;go_enter Tryz.func48,Tryz.ntmps48;go_wp2_with (go_at_call 22;((with_reducible refine (within_any _ _ _ _).mono ?_);rintro e w' ⟨rfl,rfl⟩));go_quiet (fail);go_wp2_with (first | (go_at_call 22;((with_reducible refine (within_any _ _ _ _).mono ?_);rintro e w' ⟨rfl,rfl⟩)) | (go_at_call 81;((with_reducible refine (containsBad_any (S:=S) _ l w.heap.size ba n bc _ ?_ ?_ hn).mono ?_);exact SlAt.mono rInt_mono (fun _ h=>h) (Stays.below' (by (repeat (first | exact Below.refl _ _ | refine Below.alloc ?_ (by first|omega|(simp<;>omega)) _ | refine Below.setCell ?_ (by first|omega|(simp<;>omega)) _ | refine below_drewN ?_ _ | refine Below.drew ?_)))) H.out;simp;rintro e w' ⟨rfl,rfl⟩)));go_quiet (fail);go_wp2_with (first | (go_at_call 83;((with_reducible refine (val_any _ _ _ _ _ _ _ _ _ _ h0 h1).mono ?_);rintro e w1 ⟨rfl,hb1⟩)));go_ret;exact⟨rfl,by (repeat (first | exact Below.refl _ _ | refine Below.alloc ?_ (by first|omega|(simp<;>omega)) _ | refine Below.setCell ?_ (by first|omega|(simp<;>omega)) _ | refine below_drewN ?_ _ | refine Below.drew ?_))⟩

set_option maxHeartbeats 1000000 in
theorem end_2c {S : Nat → Prop} (g f nm ps : Value) (regs : Int) (ba : Option Addr) (n bc : Nat) (ah : Value) (_r : Bool) (m : Int) (l : List Int) (w : World) (ao : Option Addr) (c : Nat) (_b _off : Nat) (_x _y : Int)
 (_h0:0≤regs) (_h1:regs≤100) (hn:n≤9223372036854775807) (H:Hid (SlAt S w 1 rInt (.slice (ao) l.length c) l)) (hw:Ways w) (Hh:hasBad n l=false) (hl1:(l.length:Int)≤1) (hl2:1≤(l.length:Int)) (hm:m<0∨0<m) :
 Calls Tryz.prog 48 #[.agg #[g,f,nm,ps,.int .i64 regs,.slice ba n bc,ah],.agg #[.int .i64 2,.bool false,.int .i64 m,.slice (ao) l.length c]] w fun e w' =>
  e = .returned (.int .i64 (5))∧Below w.heap.size w w':=by
 obtain⟨w1,w2,w3⟩:=hw;have hb0:=cell_lt w1;have q1:(m == 0)=false:=by rw [beq_eq_false_iff_ne];omega
 have q2:(decide (m≤0)&&decide (0≤m))=false:=by rw [←beq_int];exact q1
 have q3:¬m=0:=by omega
 go_enter Tryz.func48,Tryz.ntmps48;go_wp2_with (go_at_call 22;((with_reducible refine (within_any _ _ _ _).mono ?_);rintro e w' ⟨rfl,rfl⟩));go_quiet (fail);go_wp2_with (first | (go_at_call 22;((with_reducible refine (within_any _ _ _ _).mono ?_);rintro e w' ⟨rfl,rfl⟩)) | (go_at_call 81;((with_reducible refine (containsBad_any (S:=S) _ l w.heap.size ba n bc _ ?_ ?_ hn).mono ?_);exact SlAt.mono rInt_mono (fun _ h=>h) (Stays.below' (by (repeat (first | exact Below.refl _ _ | refine Below.alloc ?_ (by first|omega|(simp<;>omega)) _ | refine Below.setCell ?_ (by first|omega|(simp<;>omega)) _ | refine below_drewN ?_ _ | refine Below.drew ?_)))) H.out;simp;rintro e w' ⟨rfl,rfl⟩)));go_quiet (fail);go_wp2_with (first | (go_at_call 83;((with_reducible refine (val_any _ _ _ _ _ _ _ _ _ _ h0 h1).mono ?_);rintro e w1 ⟨rfl,hb1⟩)));go_ret;exact⟨rfl,by (repeat (first | exact Below.refl _ _ | refine Below.alloc ?_ (by first|omega|(simp<;>omega)) _ | refine Below.setCell ?_ (by first|omega|(simp<;>omega)) _ | refine below_drewN ?_ _ | refine Below.drew ?_))⟩

set_option maxHeartbeats 1000000 in
theorem end_3b {S : Nat → Prop} (g f nm ps : Value) (regs : Int) (ba : Option Addr) (n bc : Nat) (ah : Value) (r : Bool) (m : Int) (l : List Int) (w : World) (_ao : Option Addr) (c : Nat) (b off : Nat) (x y : Int)
 (h0:0≤regs) (h1:regs≤100) (hn:n≤9223372036854775807) (H:Hid (SlAt S w 1 rInt (.slice (some ⟨b,off,none⟩) l.length c) l)) (hw:Ways w) (Hh:hasBad n l=false) (hl1:(l.length:Int)≤2) (hl2:2≤(l.length:Int)) (c0:w.cell? ⟨b,off,none⟩=some (.int .i64 x)) (c1:w.cell? ⟨b,off+1,none⟩=some (.int .i64 y)) (hbb:b<w.heap.size) (hz1:x<y∨y<x) :
 Calls Tryz.prog 48 #[.agg #[g,f,nm,ps,.int .i64 regs,.slice ba n bc,ah],.agg #[.int .i64 3,.bool r,.int .i64 m,.slice (some ⟨b,off,none⟩) l.length c]] w fun e w' =>
  e = .returned (.int .i64 (valE regs ⟨r,m⟩))∧Below w.heap.size w w':=by
 obtain⟨w1,w2,w3⟩:=hw;have hb0:=cell_lt w1;have q1:(x == y)=false:=by rw [beq_eq_false_iff_ne];omega
 have q2:(decide (x≤y)&&decide (y≤x))=false:=by rw [←beq_int];exact q1
 clear hz1;go_enter Tryz.func48,Tryz.ntmps48;go_wp2_with (go_at_call 22;((with_reducible refine (within_any _ _ _ _).mono ?_);rintro e w' ⟨rfl,rfl⟩));go_quiet (fail);go_wp2_with (first | (go_at_call 22;((with_reducible refine (within_any _ _ _ _).mono ?_);rintro e w' ⟨rfl,rfl⟩)) | (go_at_call 81;((with_reducible refine (containsBad_any (S:=S) _ l w.heap.size ba n bc _ ?_ ?_ hn).mono ?_);exact SlAt.mono rInt_mono (fun _ h=>h) (Stays.below' (by (repeat (first | exact Below.refl _ _ | refine Below.alloc ?_ (by first|omega|(simp<;>omega)) _ | refine Below.setCell ?_ (by first|omega|(simp<;>omega)) _ | refine below_drewN ?_ _ | refine Below.drew ?_)))) H.out;simp;rintro e w' ⟨rfl,rfl⟩)));go_quiet (fail);go_wp2_with (first | (go_at_call 83;((with_reducible refine (val_any _ _ _ _ _ _ _ _ _ _ h0 h1).mono ?_);rintro e w1 ⟨rfl,hb1⟩)));go_ret;exact⟨rfl,by (have hz0:=(hb1).size;have hy0:=hz0;(try simp at hy0);repeat (first | exact Below.refl _ _ | refine Below.trans ?_ ((hb1).mono (by first|omega|(simp<;>omega))) | refine Below.alloc ?_ (by first|omega|(simp<;>omega)) _ | refine Below.setCell ?_ (by first|omega|(simp<;>omega)) _ | refine below_drewN ?_ _ | refine Below.drew ?_))⟩

set_option maxHeartbeats 1000000 in
theorem end_neg(g f nm ps:Value)(regs:Int)(ba:Option Addr)(n bc:Nat)(ah:Value)(kind:Int)(r:Bool)(m:Int)(v:Value)(w:World)(hk:¬(1≤kind∧kind≤3)) :
 Calls Tryz.prog 48 #[.agg #[g,f,nm,ps,.int .i64 regs,.slice ba n bc,ah],.agg #[.int .i64 kind,.bool r,.int .i64 m,v]] w fun e w' =>
  e = .returned (.int .i64 4)∧Below w.heap.size w w':=by
 go_enter Tryz.func48,Tryz.ntmps48;go_wp2_with (go_at_call 22;((with_reducible refine (within_any _ _ _ _).mono ?_);rintro e w' ⟨rfl,rfl⟩));go_ret;exact⟨rfl,by (repeat (first | exact Below.refl _ _ | refine Below.alloc ?_ (by first|omega|(simp<;>omega)) _ | refine Below.setCell ?_ (by first|omega|(simp<;>omega)) _ | refine below_drewN ?_ _ | refine Below.drew ?_))⟩
set_option maxHeartbeats 1000000 in
theorem end_len (g f nm ps : Value) (regs : Int) (ba : Option Addr) (n bc : Nat) (ah : Value) (kind : Int) (r : Bool) (m : Int) (ao : Option Addr) (k c : Nat) (w : World) (hk : 1 ≤ kind ∧ kind ≤ 3)
 (hm:k≤9223372036854775807) (hw:Ways w) (hl:(k:Int)<kind - 1∨kind - 1<(k:Int)) :
 Calls Tryz.prog 48 #[.agg #[g,f,nm,ps,.int .i64 regs,.slice ba n bc,ah],.agg #[.int .i64 kind,.bool r,.int .i64 m,.slice ao k c]] w fun e w' =>
  e = .returned (.int .i64 9)∧Below w.heap.size w w':=by
 obtain⟨w1,w2,w3⟩:=hw;have hb0:=cell_lt w1;have hk':kind=1∨kind=2∨kind=3:=by omega
 rcases hk' with rfl | rfl | rfl
 all_goals
  go_enter Tryz.func48,Tryz.ntmps48;go_wp2_with (go_at_call 22;((with_reducible refine (within_any _ _ _ _).mono ?_);rintro e w' ⟨rfl,rfl⟩));go_quiet (fail);go_wp2_with fail;go_ret;exact⟨rfl,by (repeat (first | exact Below.refl _ _ | refine Below.alloc ?_ (by first|omega|(simp<;>omega)) _ | refine Below.setCell ?_ (by first|omega|(simp<;>omega)) _ | refine below_drewN ?_ _ | refine Below.drew ?_))⟩
set_option maxHeartbeats 1000000 in
theorem end_bad {S : Nat → Prop} (g f nm ps : Value) (regs : Int) (ba : Option Addr) (n bc : Nat) (ah : Value) (kind : Int) (r : Bool) (m : Int) (l : List Int) (w : World) (ao : Option Addr) (c : Nat) (hk : 1 ≤ kind ∧ kind ≤ 3)
 (hn:n≤9223372036854775807) (hm:l.length≤9223372036854775807) (H:Hid (SlAt S w 1 rInt (.slice ao l.length c) l)) (hw:Ways w) (Hh:hasBad n l=true) (hl1:(l.length:Int)≤kind - 1) (hl2:kind - 1≤(l.length:Int)) :
 Calls Tryz.prog 48 #[.agg #[g,f,nm,ps,.int .i64 regs,.slice ba n bc,ah],.agg #[.int .i64 kind,.bool r,.int .i64 m,.slice ao l.length c]] w fun e w' =>
  e = .returned (.int .i64 3)∧Below w.heap.size w w':=by
 obtain⟨w1,w2,w3⟩:=hw;have hb0:=cell_lt w1;have hk':kind=1∨kind=2∨kind=3:=by omega
 rcases hk' with rfl | rfl | rfl
 all_goals
  go_enter Tryz.func48,Tryz.ntmps48;go_wp2_with (go_at_call 22;((with_reducible refine (within_any _ _ _ _).mono ?_);rintro e w' ⟨rfl,rfl⟩));go_quiet (fail);go_wp2_with (first | (go_at_call 22;((with_reducible refine (within_any _ _ _ _).mono ?_);rintro e w' ⟨rfl,rfl⟩)) | (go_at_call 81;((with_reducible refine (containsBad_any (S:=S) _ l w.heap.size ba n bc _ ?_ ?_ hn).mono ?_);exact SlAt.mono rInt_mono (fun _ h=>h) (Stays.below' (by (repeat (first | exact Below.refl _ _ | refine Below.alloc ?_ (by first|omega|(simp<;>omega)) _ | refine Below.setCell ?_ (by first|omega|(simp<;>omega)) _ | refine below_drewN ?_ _ | refine Below.drew ?_)))) H.out;simp;rintro e w' ⟨rfl,rfl⟩)));go_ret;exact⟨rfl,by (repeat (first | exact Below.refl _ _ | refine Below.alloc ?_ (by first|omega|(simp<;>omega)) _ | refine Below.setCell ?_ (by first|omega|(simp<;>omega)) _ | refine below_drewN ?_ _ | refine Below.drew ?_))⟩

theorem end_any {S : Nat → Prop} (g f nm ps : Value) (regs : Int) (ba : Option Addr) (n bc : Nat) (ah : Value) (kind : Int) (r : Bool) (m : Int) (v : Value) (l : List Int) (w : World)
 (h0:0≤regs) (h1:regs≤100) (hn:n≤9223372036854775807) (hw:Ways w) (h:SlAt S w 1 rInt v l) :
 Calls Tryz.prog 48 #[.agg #[g,f,nm,ps,.int .i64 regs,.slice ba n bc,ah],.agg #[.int .i64 kind,.bool r,.int .i64 m,v]] w fun e w' =>
  e = .returned (.int .i64 (endE n regs ⟨kind,⟨r,m⟩,l⟩))∧Below w.heap.size w w':=by
 by_cases hk:1≤kind∧kind≤3
 case neg=>rw [show endE n regs ⟨kind,⟨r,m⟩,l⟩=4 by simp [endE,hk]];exact end_neg g f nm ps regs ba n bc ah kind r m v w hk
 obtain⟨ao,c,rfl,hm⟩:=h.val;have H:=hid h
 by_cases hl:(l.length:Int)=kind - 1
 case neg =>
  rw [show endE n regs ⟨kind,⟨r,m⟩,l⟩=9 by simp [endE,hk,hl]];exact end_len g f nm ps regs ba n bc ah kind r m ao _ c w hk hm hw (by omega)
 by_cases ht:l.any (badTo n)=true
 · rw [show endE n regs ⟨kind,⟨r,m⟩,l⟩=3 by simp only [endE,hk,hl,ht];simp]
   exact end_bad g f nm ps regs ba n bc ah kind r m l w ao c hk hn hm H hw ((hasBad_iff n l).trans ht) (by omega) (by omega)
 have Hh:hasBad n l=false:=(hasBad_iff n l).trans (by simpa using ht);have hk':kind=1∨kind=2∨kind=3:=by omega
 rcases hk' with rfl | rfl | rfl
 · rw [show endE n regs ⟨1,⟨r,m⟩,l⟩=valE regs ⟨r,m⟩ by simp only [endE,hk,hl,ht];simp]
   exact end_1 g f nm ps regs ba n bc ah r m l w ao c 0 0 0 0 h0 h1 hn H hw Hh (by omega)
 · have hz:(r=false∧m=0)∨r=true∨(r=false∧(m<0∨0<m)):=by cases r <;> simp <;> omega
   rcases hz with⟨rfl,rfl⟩ | rfl | ⟨rfl,hm0⟩
   · rw [show endE n regs ⟨2,⟨false,0⟩,l⟩=valE regs ⟨false,0⟩ by simp only [endE,hk,hl,ht];simp]
     exact end_2a g f nm ps regs ba n bc ah false 0 l w ao c 0 0 0 0 h0 h1 hn H hw Hh (by omega) (by omega)
   · rw [show endE n regs ⟨2,⟨true,m⟩,l⟩=5 by simp only [endE,hk,hl,ht];simp]
     exact end_2b g f nm ps regs ba n bc ah true m l w ao c 0 0 0 0 h0 h1 hn H hw Hh (by omega) (by omega)
   · rw [show endE n regs ⟨2,⟨false,m⟩,l⟩=5 by simp only [endE,hk,hl,ht];simp;intro _;omega]
     exact end_2c g f nm ps regs ba n bc ah false m l w ao c 0 0 0 0 h0 h1 hn H hw Hh (by omega) (by omega) hm0
 · obtain⟨b,off,cs,rfl,hb,⟨rfl,_⟩,_,hcs0⟩:=h.get (k:=0) (by omega)
   obtain⟨b',off',cs',hab,hb',⟨rfl,_⟩,_,hcs1⟩:=h.get (k:=1) (by omega);cases hab;have c0:w.cell? ⟨b,off,none⟩=some (.int .i64 l[0]):=by simpa using hcs0 0 _ rfl
   have c1:w.cell? ⟨b,off+1,none⟩=some (.int .i64 l[1]):=by simpa using hcs1 0 _ rfl
   have hg0:l.getD 0 0=l[0]:=by rw [List.getD_eq_getElem?_getD,List.getElem?_eq_getElem (by omega)];rfl
   have hg1:l.getD 1 0=l[1]:=by rw [List.getD_eq_getElem?_getD,List.getElem?_eq_getElem (by omega)];rfl
   by_cases hz:l[0]=l[1]
   · rw [show endE n regs ⟨3,⟨r,m⟩,l⟩=5 by simp only [endE,hk,hl,ht,hg0,hg1,hz];simp]
     exact end_3a g f nm ps regs ba n bc ah r m l w none c b off _ _ h0 h1 hn H hw Hh (by omega) (by omega) c0 c1 (cell_lt c0) (by omega) (by omega)
   · rw [show endE n regs ⟨3,⟨r,m⟩,l⟩=valE regs ⟨r,m⟩ by simp only [endE,hk,hl,ht,hg0,hg1,hz];simp]
     exact end_3b g f nm ps regs ba n bc ah r m l w none c b off _ _ h0 h1 hn H hw Hh (by omega) (by omega) c0 c1 (cell_lt c0) (by omega)

end Go.Proofs.YtnkogppgacappaaGreatDoor
