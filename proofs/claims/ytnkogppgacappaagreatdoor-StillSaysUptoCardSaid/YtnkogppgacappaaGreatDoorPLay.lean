/- Contracts of core.Fault, of the closure that looks for main, and of slices.IndexFunc over it. What is wrong with a unit: plain. The heap of blocks in memory; its five methods' contracts. The heap of blocks: Swap and Pop. container/heap over the heap of blocks. container/heap's Init and Pop over the heap of blocks. The contract of weigh.lay. -/
import Derived.Test.YtnkogppgacappaaGreatDoorPBody
import Derived.Test.YtnkogppgacappaaGreatDoorPChk4
import Derived.Test.YtnkogppgacappaaGreatDoorPFour
import Derived.Deep.QuietTactic
import Derived.BigQuiet
import Derived.RegionTactic
import Derived.BigRegion
import Derived.Test.YtnkogppgacappaaGreatDoorPGAhd
import Derived.Deep.LoopGhost
namespace Go.Proofs.YtnkogppgacappaaGreatDoor
open Go.RowKit

set_option maxHeartbeats 400000 in
theorem fault_any(c a:Int)(w:World) :
 Calls Tryz.prog 19 #[.int .i64 c,.int .i64 a] w fun e w'=>e = .returned (.agg #[.int .i64 c,.int .i64 a])∧Below w.heap.size w w':=by
 go_enter Tryz.func19,Tryz.ntmps19;go_wp2;refine bodyPost_ret (v:=_) ?_ rfl ⟨rfl,?_⟩
 · simp [results,Tryz.results19,go_sem]
 · (repeat (first | exact Below.refl _ _ | refine Below.alloc ?_ (by first|omega|(simp<;>omega)) _ | refine Below.setCell ?_ (by first|omega|(simp<;>omega)) _ | refine below_drewN ?_ _ | refine Below.drew ?_))

theorem res_two {fn : Func} {t : Nat} (hfn : fn.results = #[.cell t 27]) {tmps : Array Value} {b : Nat} (ht : tmps.getD t undef = .pointer (some ⟨b, 0, none⟩)) {c a : Int} {W : World}
 (h0:W.cell? ⟨b,0,none⟩=some (.int .i64 c)) (h1:W.cell? ⟨b,1,none⟩=some (.int .i64 a)):(results fn tmps).run Tryz.prog W = .ok (.agg #[.int .i64 c,.int .i64 a]) W:=by
 simp only [Array.getD_eq_getD_getElem?] at ht;simp [results,hfn,ht,go_sem,h0,h1]
theorem set_two {w:World}{b:Nat}{x y u v:Value}(h0:w.cell? ⟨b,0,none⟩=some x)(h1:w.cell? ⟨b,1,none⟩=some y) :
 ((w.setCell ⟨b,0,none⟩ u).setCell ⟨b,1,none⟩ v).cell? ⟨b,0,none⟩=some u∧((w.setCell ⟨b,0,none⟩ u).setCell ⟨b,1,none⟩ v).cell? ⟨b,1,none⟩=some v:=by
 simp only [World.cell?] at h0 h1;cases hh:w.heap[b]? with
 | none=>rw [hh] at h0;cases h0
 | some o =>
   rw [hh] at h0 h1;cases o with
   | cells c e fr =>
     simp only [World.cell?,World.setCell,Array.getElem?_modify,hh];simp at h0 h1;have l0:=(Array.getElem?_eq_some_iff.1 h0).1;have l1:=(Array.getElem?_eq_some_iff.1 h1).1;simp [l0,l1]
   | _=>simp at h0

def isMain(f:DFunc):Bool:=f.name.toList == [109,97,105,110]
set_option maxHeartbeats 400000 in
theorem check1_any(s:ByteArray)(p r:Int)(ba:Option Addr)(n c:Nat)(w:World) :
 Calls Tryz.prog 26 #[.agg #[.string s,.int .i64 p,.int .i64 r,.slice ba n c]] w fun e w'=>e = .returned (.bool (s.toList == [109,97,105,110]))∧Below w.heap.size w w':=by
 go_enter Tryz.func26,Tryz.ntmps26;go_wp2;go_ret;exact⟨rfl,by (repeat (first | exact Below.refl _ _ | refine Below.alloc ?_ (by first|omega|(simp<;>omega)) _ | refine Below.setCell ?_ (by first|omega|(simp<;>omega)) _ | refine below_drewN ?_ _ | refine Below.drew ?_))⟩

def idxMain(fs:List DFunc):Int:=match fs.findIdx? isMain with | some k=>k | none => -1
set_option maxHeartbeats 1000000 in
theorem indexMain_any {S:Nat→Prop}(fa:Option Addr)(fc:Nat)(fs:List DFunc)(w:World)(h:SlAt S w 4 rFunc (.slice fa fs.length fc) fs)(hm:fs.length≤1048576) :
 Calls Tryz.prog 25 #[.slice fa fs.length fc,.func (.func 26) #[] #[]] w fun e w'=>e = .returned (.int .i64 (idxMain fs))∧Below w.heap.size w w':=by
 have Hh:=hid h;clear h;go_enter Tryz.func25,Tryz.ntmps25;go_wp2_with fail;go_loopw [8] (fun i wr=>∃k:Nat,k≤fs.length∧i = .int .i64 k∧(∀j,j<k→∀x,fs[j]?=some x→isMain x=false)∧Below w.heap.size w wr) (fun i _=>fs.length - (intOf i).toNat)
 case atStart=>exact⟨0,Nat.zero_le _,rfl,fun j hj=>by omega,Below.refl _ _⟩
 case round =>
  obtain⟨k,hk,rfl,hall,hb⟩:=hrel;have H:=hid hall;have Hb:=hid hb;clear hall
  by_cases hlt:k<fs.length
  · obtain⟨b,off,cs,rfl,-,hx,-,hcs⟩:=Hh.out.get hlt
    obtain⟨ba,bc,rfl,-,-,-,-⟩:=hx.opens;obtain⟨c0,c1,c2,c3⟩:=(hcs.later hb).get4;clear hcs hx hb
    by_cases he:isMain fs[k]=true
    · have hi:idxMain fs=k:=by unfold idxMain;rw [idx_some (List.getElem?_eq_getElem hlt) he H.out]
      have he':(fs[k].name.toList == [109,97,105,110])=true:=he;have Hi:=hid hi;clear hi he;go_wp2_with (go_at_call 26;((with_reducible refine (check1_any _ _ _ _ _ _ _).mono ?_);rintro e w2 ⟨rfl,hb2⟩));go_ret;exact⟨ret_int Hi.out.symm,by have h:=Hb.out;(have hz0:=(hb2).size;have hy0:=hz0;(try simp at hy0);have hz1:=(h).size;have hy1:=hz1;(try simp at hy1);repeat (first | exact Below.refl _ _ | refine Below.trans ?_ ((hb2).mono (by first|omega|(simp<;>omega))) | refine Below.trans ?_ ((h).mono (by first|omega|(simp<;>omega))) | refine Below.alloc ?_ (by first|omega|(simp<;>omega)) _ | refine Below.setCell ?_ (by first|omega|(simp<;>omega)) _ | refine below_drewN ?_ _ | refine Below.drew ?_))⟩
    · have he0:isMain fs[k]=false:=by simpa using he
      have he':(fs[k].name.toList == [109,97,105,110])=false:=he0;have He:=hid he0;clear he0 he;go_wp2_with (go_at_call 26;((with_reducible refine (check1_any _ _ _ _ _ _ _).mono ?_);rintro e w2 ⟨rfl,hb2⟩));go_roundw
      case rel=>exact⟨k+1,by omega,by go_num,ext_lt H.out (fun x hx=>by rw [List.getElem?_eq_getElem hlt] at hx;cases hx;exact He.out),by have h:=Hb.out;(have hz0:=(hb2).size;have hy0:=hz0;(try simp at hy0);have hz1:=(h).size;have hy1:=hz1;(try simp at hy1);repeat (first | exact Below.refl _ _ | refine Below.trans ?_ ((hb2).mono (by first|omega|(simp<;>omega))) | refine Below.trans ?_ ((h).mono (by first|omega|(simp<;>omega))) | refine Below.alloc ?_ (by first|omega|(simp<;>omega)) _ | refine Below.setCell ?_ (by first|omega|(simp<;>omega)) _ | refine below_drewN ?_ _ | refine Below.drew ?_))⟩
      case measure=>simp [intOf];omega
  · have hi:idxMain fs = -1:=by
     unfold idxMain;rw [idx_none (fun j x hx=>H.out j (by have:=(List.getElem?_eq_some_iff.1 hx).1;omega) x hx)]
    have Hi:=hid hi;clear hi hb;go_wp2_with fail;go_ret;exact⟨ret_int Hi.out.symm,Hb.out⟩

end Go.Proofs.YtnkogppgacappaaGreatDoor

namespace Go.Proofs.YtnkogppgacappaaGreatDoor
open Go.RowKit

def posF (e : Nat → Int) : Nat → Nat
 | 0=>0
 | n+1=>if posF e n<n then posF e n else if e n≠0 then n else n+1
theorem posF_all {e:Nat→Int}{n:Nat}(h:∀j,j<n→e j=0):posF e n=n:=by
 induction n with
 | zero=>rfl
 | succ n ih=>rw [posF,ih (fun j hj=>h j (by omega)),if_neg (by omega),if_neg (by simpa using h n (by omega))]
theorem posF_at {e:Nat→Int}{n k:Nat}(h:∀j,j<k→e j=0)(hk:k<n)(he:e k≠0):posF e n=k:=by
 induction n with
 | zero=>omega
 | succ n ih =>
   rw [posF];rcases Nat.lt_succ_iff_lt_or_eq.1 hk with h1 | h1
   · rw [ih h1,if_pos h1]
   · subst h1;rw [posF_all h,if_neg (by omega),if_pos he]
theorem posF_inv {e:Nat→Int}{n:Nat}(h:¬posF e n<n):∀j,j<n→e j=0:=by
 induction n with
 | zero=>intro j hj;omega
 | succ n ih =>
   rw [posF] at h
   by_cases h1:posF e n<n
   · rw [if_pos h1] at h;omega
   · rw [if_neg h1] at h
     by_cases h2:e n=0
     · exact ext_lt (ih h1) h2
     · rw [if_pos h2] at h;omega
theorem posF_ne {e:Nat→Int}{n:Nat}(h:posF e n<n):e (posF e n)≠0:=by
 induction n with
 | zero=>omega
 | succ n ih =>
   rw [posF] at h ⊢
   by_cases h1:posF e n<n
   · rw [if_pos h1];exact ih h1
   · rw [if_neg h1] at h ⊢
     by_cases h2:e n≠0
     · rw [if_pos h2];exact h2
     · rw [if_neg h2] at h;omega

def gNames(gs:List DGlobal)(k:Nat):List ByteArray:=(gs.take k).map (·.name)
def wordsUp(gs:List DGlobal)(k:Nat):Int:=((gs.take k).map (·.size)).sum
def fNames(gs:List DGlobal)(fs:List DFunc)(k:Nat):List ByteArray:=gNames gs gs.length++(fs.take k).map (·.name)
def globErr(names:List ByteArray)(words:Int)(g:DGlobal):Int :=
 if nameOk g.name=false then 12
 else if hasStr names g.name=true then 7
 else if ¬(1≤g.size∧g.size≤200) then 3
 else if g.size<(g.init.length:Int) then 9
 else if 200<words+g.size then 10
 else 0
def globE(gs:List DGlobal)(k:Nat):Int:=match gs[k]? with | some g=>globErr (gNames gs k) (wordsUp gs k) g | none=>0
def headsE(gs:List DGlobal)(fs:List DFunc)(k:Nat):Int:=match fs[k]? with | some f=>headE (fNames gs fs k) f | none=>0
def bodiesE(fs:List DFunc)(k:Nat):Int:=match fs[k]? with | some f=>bodyE fs f | none=>0
def lastE(fs:List DFunc):Int×Int :=
 if idxMain fs<0 then (6,0) else if 0<(fs.getD (idxMain fs).toNat ⟨ByteArray.empty,0,0,[]⟩).params then (5,idxMain fs) else (0,0)
def checkF(u:DUnit):Int×Int :=
 if 10<u.globals.length∨10<u.funcs.length then (2,0)
 else if posF (globE u.globals) u.globals.length<u.globals.length then (globE u.globals (posF (globE u.globals) u.globals.length),posF (globE u.globals) u.globals.length)
 else if posF (headsE u.globals u.funcs) u.funcs.length<u.funcs.length then (headsE u.globals u.funcs (posF (headsE u.globals u.funcs) u.funcs.length),posF (headsE u.globals u.funcs) u.funcs.length)
 else if posF (bodiesE u.funcs) u.funcs.length<u.funcs.length then (bodiesE u.funcs (posF (bodiesE u.funcs) u.funcs.length),posF (bodiesE u.funcs) u.funcs.length)
 else lastE u.funcs

theorem gNames_succ {gs:List DGlobal}{k:Nat}(h:k<gs.length):gNames gs (k+1)=gNames gs k++[gs[k].name]:=by
 unfold gNames;rw [List.take_succ_eq_append_getElem h,List.map_append];rfl
theorem fNames_succ {gs:List DGlobal}{fs:List DFunc}{k:Nat}(h:k<fs.length):fNames gs fs (k+1)=fNames gs fs k++[fs[k].name]:=by
 unfold fNames;rw [List.take_succ_eq_append_getElem h,List.map_append,List.append_assoc];rfl
theorem wordsUp_succ {gs:List DGlobal}{k:Nat}(h:k<gs.length):wordsUp gs (k+1)=wordsUp gs k+gs[k].size:=by
 unfold wordsUp;rw [List.take_succ_eq_append_getElem h,List.map_append,List.sum_append];simp
theorem globErr_ok {names:List ByteArray}{words:Int}{g:DGlobal}(h:globErr names words g=0) :
 nameOk g.name=true∧hasStr names g.name=false∧1≤g.size∧g.size≤200∧(g.init.length:Int)≤g.size∧words+g.size≤200:=by
 unfold globErr at h
 by_cases h1:nameOk g.name=false
 · rw [if_pos h1] at h;omega
 rw [if_neg h1] at h
 by_cases h2:hasStr names g.name=true
 · rw [if_pos h2] at h;omega
 rw [if_neg h2] at h
 by_cases h3:1≤g.size∧g.size≤200
 case neg=>rw [if_pos h3] at h;omega
 rw [if_neg (by simpa using h3)] at h
 by_cases h4:g.size<(g.init.length:Int)
 · rw [if_pos h4] at h;omega
 rw [if_neg h4] at h
 by_cases h5:200<words+g.size
 · rw [if_pos h5] at h;omega
 exact⟨by simpa using h1,by simpa using h2,h3.1,h3.2,by omega,by omega⟩
theorem headE_ok {names:List ByteArray}{f:DFunc}(h:headE names f=0) :
 nameOk f.name=true∧hasStr names f.name=false∧0≤f.params∧f.params≤6∧f.params≤f.regs∧f.regs≤100∧1≤f.blocks.length∧f.blocks.length≤40∧manyOf f.blocks≤300:=by
 unfold headE at h
 by_cases h1:nameOk f.name=false
 · rw [if_pos h1] at h;omega
 rw [if_neg h1] at h
 by_cases h2:hasStr names f.name=true
 · rw [if_pos h2] at h;omega
 rw [if_neg h2] at h
 by_cases h3:¬(0≤f.params∧f.params≤6)∨¬(f.params≤f.regs∧f.regs≤100)
 · rw [if_pos h3] at h;omega
 rw [if_neg h3] at h
 by_cases h4:¬(1≤f.blocks.length∧f.blocks.length≤40)∨300<manyOf f.blocks
 · rw [if_pos h4] at h;omega
 exact⟨by simpa using h1,by simpa using h2,by omega,by omega,by omega,by omega,by omega,by omega,by omega⟩
theorem idxMain_lt {fs:List DFunc}(h:¬idxMain fs<0):∃m:Nat,m<fs.length∧idxMain fs=m:=by
 unfold idxMain at *;split at h
 · rename_i k hk
   rw [List.findIdx?_eq_some_iff_getElem] at hk;exact⟨k,hk.1,rfl⟩
 · omega
theorem words_bound {gs:List DGlobal}{k:Nat}(hk:k≤gs.length)(h:∀j,j<k→globE gs j=0):0≤wordsUp gs k∧wordsUp gs k≤200:=by
 induction k with
 | zero=>simp [wordsUp]
 | succ k ih =>
   have h1:=ih (by omega) (fun j hj=>h j (by omega));have h2:=h k (by omega);have hlt:k<gs.length:=by omega
   unfold globE at h2;rw [List.getElem?_eq_getElem hlt] at h2;have h3:=globErr_ok h2;rw [wordsUp_succ hlt];omega

theorem ownsRow_later {w w':World}{base:Nat}{e:TypeId}{size n:Nat}{v:Value}{xs:List Value}(h:w.ownsRow base e size v n xs)(hb:Below w.heap.size w w'):w'.ownsRow base e size v n xs:=by
 obtain⟨h1,h2⟩:=h;refine⟨h1,?_⟩;rcases h2 with h2 | ⟨g,cap,cur,hv,hg,hh,r⟩
 · exact .inl h2
 · have hlt:g<w.heap.size:=by
    rcases Nat.lt_or_ge g w.heap.size with h3 | h3
    · exact h3
    · rw [Array.getElem?_eq_none h3] at hh;cases hh
   exact .inr ⟨g,cap,cur,hv,hg,by rw [hb.block g hlt];exact hh,r⟩

theorem own_sl {α:Type}{r:Rp α}(f:α→Value){w:World}{base:Nat}{e:TypeId}{v:Value}{l:List α}(h:w.ownsRow base e 1 v l.length (l.map f))(hr:∀x∈l,r (fun b=>base≤b) w [f x] x) :
 SlAt (fun b=>base≤b) w 1 r v l:=by
 obtain⟨h1,h2⟩:=h;rcases h2 with⟨rfl,h2⟩ | ⟨g,cap,cur,rfl,hg,hh,hn,hm,hs,ht⟩
 · have:l=[]:=List.eq_nil_of_length_eq_zero h2
   subst this;exact⟨none,0,rfl,Nat.le_refl _,by omega,fun h=>absurd rfl h⟩
 · refine⟨_,cap,rfl,hn,by unfold maxLen at hm;exact hm,fun _=>⟨g,0,rfl,hg,fun i x hx=>⟨[f x],hr x (List.mem_of_getElem? hx),rfl,?_⟩⟩⟩
   refine .cons ?_ (.nil _ _ _);have h3:(l.map f)[i]?=some (f x):=by rw [List.getElem?_map,hx];rfl
   rw [←ht,Nat.mul_one,List.getElem?_take] at h3;have hi:i<l.length:=(List.getElem?_eq_some_iff.1 hx).1;rw [if_pos hi] at h3;simp only [World.cell?,hh,Nat.zero_add,Nat.mul_one];simpa using h3
theorem own_strs {w:World}{base:Nat}{e:TypeId}{v:Value}{l:List ByteArray}(h:w.ownsRow base e 1 v l.length (l.map Value.string)):SlAt (fun b=>base≤b) w 1 rStr v l :=
 own_sl Value.string h (fun _ _=>rfl)

end Go.Proofs.YtnkogppgacappaaGreatDoor

namespace Go.Proofs.YtnkogppgacappaaGreatDoor
open Go.RowKit

end Go.Proofs.YtnkogppgacappaaGreatDoor

namespace Go.Proofs.YtnkogppgacappaaGreatDoor
open Go.RowKit

end Go.Proofs.YtnkogppgacappaaGreatDoor

namespace Go.Proofs.YtnkogppgacappaaGreatDoor
open Go.RowKit

end Go.Proofs.YtnkogppgacappaaGreatDoor

namespace Go.Proofs.YtnkogppgacappaaGreatDoor
open Go.RowKit

end Go.Proofs.YtnkogppgacappaaGreatDoor

namespace Go.Proofs.YtnkogppgacappaaGreatDoor
open Go.RowKit

theorem infoBool:(Tryz.prog.info? 4).map (fun i=>(i.zero,i.size,i.bytes))=some (some (.bool false),1,1):=by kernel_rfl

end Go.Proofs.YtnkogppgacappaaGreatDoor
