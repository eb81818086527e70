/- Contracts of code.first over the three closures, and of the checker's ins. The contract of the checker's ins. The contract of the checker's body. -/
import Derived.Test.YtnkogppgacappaaGreatDoorPRefA
import Derived.Test.YtnkogppgacappaaGreatDoorPChk3
import Derived.Test.YtnkogppgacappaaGreatDoorPEq
import Derived.Deep.CutRange
import Derived.Deep.Light
import Derived.Test.YtnkogppgacappaaGreatDoorPGAhd
namespace Go.Proofs.YtnkogppgacappaaGreatDoor
open Go.RowKit

def firstE(e1 e2 e3:Int):Int:=if e1≠0 then e1 else if e2≠0 then e2 else e3
set_option maxHeartbeats 1000000 in
theorem first_any (lb : Nat) (pc px pk : Value) (e1 e2 e3 : Int) (w : World)
 (h0:w.cell? ⟨lb,0,none⟩=some (.func (.func 87) #[] #[pc,px]))
 (h1:w.cell? ⟨lb,1,none⟩=some (.func (.func 88) #[] #[pc,px]))
 (h2:w.cell? ⟨lb,2,none⟩=some (.func (.func 89) #[] #[pk,px,pc]))
 (H1:Hid (∀w',Below w.heap.size w w'→Calls Tryz.prog 87 #[pc,px] w' fun e w''=>e = .returned (.int .i64 e1)∧Below w'.heap.size w' w''))
 (H2:Hid (∀w',Below w.heap.size w w'→Calls Tryz.prog 88 #[pc,px] w' fun e w''=>e = .returned (.int .i64 e2)∧Below w'.heap.size w' w''))
 (H3:Hid (∀w',Below w.heap.size w w'→Calls Tryz.prog 89 #[pk,px,pc] w' fun e w''=>e = .returned (.int .i64 e3)∧Below w'.heap.size w' w'')) :
 Calls Tryz.prog 86 #[.slice (some ⟨lb,0,none⟩) 3 3] w fun e w'=>e = .returned (.int .i64 (firstE e1 e2 e3))∧Below w.heap.size w w':=by
 go_enter Tryz.func86,Tryz.ntmps86;go_wp2_with fail;go_loopw [8] (fun i wr=>∃k:Nat,k≤3∧i = .int .i64 k∧(1≤k→e1=0)∧(2≤k→e2=0)∧(3≤k→e3=0)∧Below w.heap.size w wr) (fun i _=>3 - (intOf i).toNat)
 case atStart=>exact⟨0,by omega,rfl,fun _=>by omega,fun _=>by omega,fun _=>by omega,by (repeat (first | exact Below.refl _ _ | refine Below.alloc ?_ (by first|omega|(simp<;>omega)) _ | refine Below.setCell ?_ (by first|omega|(simp<;>omega)) _ | refine below_drewN ?_ _ | refine Below.drew ?_))⟩
 case round =>
  obtain⟨k,hk,rfl,z1,z2,z3,hbl⟩:=hrel;have g0:=cell_later' h0 hbl;have g1:=cell_later' h1 hbl;have g2:=cell_later' h2 hbl;have Hbl:=hid hbl;have Z1:=hid z1;have Z2:=hid z2;have Z3:=hid z3;have hsz:=hbl.size;clear hbl z1 z2 z3;have hk':k=0∨k=1∨k=2∨k=3:=by omega
  rcases hk' with rfl | rfl | rfl | rfl
  · by_cases hz:e1=0
    · have hz1:e1≤0:=by omega
      have hz2:0≤e1:=by omega
      have Hz:=hid hz;clear hz;go_wp2_with (go_at_call 87;((with_reducible refine (H1.out _ Hbl.out).mono ?_);rintro e w1 ⟨rfl,hb1⟩));go_roundw
      case rel=>exact⟨1,by omega,rfl,fun _=>Hz.out,fun _=>by omega,fun _=>by omega,by have h:=Hbl.out;(have hz0:=(hb1).size;have hy0:=hz0;(try simp at hy0);have hz1:=(h).size;have hy1:=hz1;(try simp at hy1);repeat (first | exact Below.refl _ _ | refine Below.trans ?_ ((hb1).mono (by first|omega|(simp<;>omega))) | refine Below.trans ?_ ((h).mono (by first|omega|(simp<;>omega))) | refine Below.alloc ?_ (by first|omega|(simp<;>omega)) _ | refine Below.setCell ?_ (by first|omega|(simp<;>omega)) _ | refine below_drewN ?_ _ | refine Below.drew ?_))⟩
      case measure=>simp [intOf]
    · have hz1:e1<0∨0<e1:=by omega
      have Hz:=hid hz;clear hz;go_wp2_with (go_at_call 87;((with_reducible refine (H1.out _ Hbl.out).mono ?_);rintro e w1 ⟨rfl,hb1⟩));go_ret;exact⟨ret_int (by unfold firstE;rw [if_pos Hz.out]),by have h:=Hbl.out;(have hz0:=(hb1).size;have hy0:=hz0;(try simp at hy0);have hz1:=(h).size;have hy1:=hz1;(try simp at hy1);repeat (first | exact Below.refl _ _ | refine Below.trans ?_ ((hb1).mono (by first|omega|(simp<;>omega))) | refine Below.trans ?_ ((h).mono (by first|omega|(simp<;>omega))) | refine Below.alloc ?_ (by first|omega|(simp<;>omega)) _ | refine Below.setCell ?_ (by first|omega|(simp<;>omega)) _ | refine below_drewN ?_ _ | refine Below.drew ?_))⟩
  · by_cases hz:e2=0
    · have hz1:e2≤0:=by omega
      have hz2:0≤e2:=by omega
      have Hz:=hid hz;clear hz;go_wp2_with (go_at_call 88;((with_reducible refine (H2.out _ Hbl.out).mono ?_);rintro e w1 ⟨rfl,hb1⟩));go_roundw
      case rel=>exact⟨2,by omega,rfl,fun _=>Z1.out (by omega),fun _=>Hz.out,fun _=>by omega,by have h:=Hbl.out;(have hz0:=(hb1).size;have hy0:=hz0;(try simp at hy0);have hz1:=(h).size;have hy1:=hz1;(try simp at hy1);repeat (first | exact Below.refl _ _ | refine Below.trans ?_ ((hb1).mono (by first|omega|(simp<;>omega))) | refine Below.trans ?_ ((h).mono (by first|omega|(simp<;>omega))) | refine Below.alloc ?_ (by first|omega|(simp<;>omega)) _ | refine Below.setCell ?_ (by first|omega|(simp<;>omega)) _ | refine below_drewN ?_ _ | refine Below.drew ?_))⟩
      case measure=>simp [intOf]
    · have hz1:e2<0∨0<e2:=by omega
      have Hz:=hid hz;clear hz;go_wp2_with (go_at_call 88;((with_reducible refine (H2.out _ Hbl.out).mono ?_);rintro e w1 ⟨rfl,hb1⟩));go_ret;exact⟨ret_int (by unfold firstE;rw [if_neg (by simpa using Z1.out (by omega)),if_pos Hz.out]),by have h:=Hbl.out;(have hz0:=(hb1).size;have hy0:=hz0;(try simp at hy0);have hz1:=(h).size;have hy1:=hz1;(try simp at hy1);repeat (first | exact Below.refl _ _ | refine Below.trans ?_ ((hb1).mono (by first|omega|(simp<;>omega))) | refine Below.trans ?_ ((h).mono (by first|omega|(simp<;>omega))) | refine Below.alloc ?_ (by first|omega|(simp<;>omega)) _ | refine Below.setCell ?_ (by first|omega|(simp<;>omega)) _ | refine below_drewN ?_ _ | refine Below.drew ?_))⟩
  · by_cases hz:e3=0
    · have hz1:e3≤0:=by omega
      have hz2:0≤e3:=by omega
      have Hz:=hid hz;clear hz;go_wp2_with (go_at_call 89;((with_reducible refine (H3.out _ Hbl.out).mono ?_);rintro e w1 ⟨rfl,hb1⟩));go_roundw
      case rel=>exact⟨3,by omega,rfl,fun _=>Z1.out (by omega),fun _=>Z2.out (by omega),fun _=>Hz.out,by have h:=Hbl.out;(have hz0:=(hb1).size;have hy0:=hz0;(try simp at hy0);have hz1:=(h).size;have hy1:=hz1;(try simp at hy1);repeat (first | exact Below.refl _ _ | refine Below.trans ?_ ((hb1).mono (by first|omega|(simp<;>omega))) | refine Below.trans ?_ ((h).mono (by first|omega|(simp<;>omega))) | refine Below.alloc ?_ (by first|omega|(simp<;>omega)) _ | refine Below.setCell ?_ (by first|omega|(simp<;>omega)) _ | refine below_drewN ?_ _ | refine Below.drew ?_))⟩
      case measure=>simp [intOf]
    · have hz1:e3<0∨0<e3:=by omega
      have Hz:=hid hz;clear hz;go_wp2_with (go_at_call 89;((with_reducible refine (H3.out _ Hbl.out).mono ?_);rintro e w1 ⟨rfl,hb1⟩));go_ret;exact⟨ret_int (by unfold firstE;rw [if_neg (by simpa using Z1.out (by omega)),if_neg (by simpa using Z2.out (by omega))]),by have h:=Hbl.out;(have hz0:=(hb1).size;have hy0:=hz0;(try simp at hy0);have hz1:=(h).size;have hy1:=hz1;(try simp at hy1);repeat (first | exact Below.refl _ _ | refine Below.trans ?_ ((hb1).mono (by first|omega|(simp<;>omega))) | refine Below.trans ?_ ((h).mono (by first|omega|(simp<;>omega))) | refine Below.alloc ?_ (by first|omega|(simp<;>omega)) _ | refine Below.setCell ?_ (by first|omega|(simp<;>omega)) _ | refine below_drewN ?_ _ | refine Below.drew ?_))⟩
  · go_wp2_with fail
    go_ret;exact⟨ret_int (by unfold firstE;rw [if_neg (by simpa using Z1.out (by omega)),if_neg (by simpa using Z2.out (by omega)),Z3.out (by omega)]),by have h:=Hbl.out;(have hz0:=(h).size;have hy0:=hz0;(try simp at hy0);repeat (first | exact Below.refl _ _ | refine Below.trans ?_ ((h).mono (by first|omega|(simp<;>omega))) | refine Below.alloc ?_ (by first|omega|(simp<;>omega)) _ | refine Below.setCell ?_ (by first|omega|(simp<;>omega)) _ | refine below_drewN ?_ _ | refine Below.drew ?_))⟩

theorem first_from (W : World) (lb : Nat) (pc px pk : Value) (e1 e2 e3 : Int) (w : World)
 (H1:Hid (∀w',Below W.heap.size W w'→Calls Tryz.prog 87 #[pc,px] w' fun e w''=>e = .returned (.int .i64 e1)∧Below w'.heap.size w' w''))
 (H2:Hid (∀w',Below W.heap.size W w'→Calls Tryz.prog 88 #[pc,px] w' fun e w''=>e = .returned (.int .i64 e2)∧Below w'.heap.size w' w''))
 (H3:Hid (∀w',Below W.heap.size W w'→Calls Tryz.prog 89 #[pk,px,pc] w' fun e w''=>e = .returned (.int .i64 e3)∧Below w'.heap.size w' w''))
 (hW:Below W.heap.size W w)
 (h0:w.cell? ⟨lb,0,none⟩=some (.func (.func 87) #[] #[pc,px]))
 (h1:w.cell? ⟨lb,1,none⟩=some (.func (.func 88) #[] #[pc,px]))
 (h2:w.cell? ⟨lb,2,none⟩=some (.func (.func 89) #[] #[pk,px,pc])) :
 Calls Tryz.prog 86 #[.slice (some ⟨lb,0,none⟩) 3 3] w fun e w'=>e = .returned (.int .i64 (firstE e1 e2 e3))∧Below w.heap.size w w' :=
 first_any lb pc px pk e1 e2 e3 w h0 h1 h2 (fun w' h=>H1 w' (hW.trans (h.mono hW.size))) (fun w' h=>H2 w' (hW.trans (h.mono hW.size))) (fun w' h=>H3 w' (hW.trans (h.mono hW.size)))

def formBad(x:DIns):Bool :=
 (!shpD x.op&&decide (x.dst ≠ -1))||(!shpA x.op&&decide (x.a≠⟨false,0⟩))||(!shpB x.op&&decide (x.b≠⟨false,0⟩))||(decide (x.op≠20)&&(decide (x.fn≠0)||decide (0<x.args.length)))
def insE(fs:List DFunc)(regs:Int)(x:DIns):Int :=
 if ¬(1≤x.op∧x.op≤22) then 4
 else if formBad x=true then 5
 else if (shpD x.op=true∧¬(x.op=20∧x.dst = -1))∧dstE regs x.dst≠0 then 3
 else firstE (valE regs x.a) (valE regs x.b) (callE fs regs x)

end Go.Proofs.YtnkogppgacappaaGreatDoor

namespace Go.Proofs.YtnkogppgacappaaGreatDoor
open Go.RowKit

theorem ins_class {op:Int}(h:1≤op∧op≤22) :
 (shpD op=true∧shpA op=true∧shpB op=false∧(decide (op≤20)&&decide (20≤op))=false) ∨
 (shpD op=true∧shpA op=true∧shpB op=true∧(decide (op≤20)&&decide (20≤op))=false) ∨
 (shpD op=false∧shpA op=true∧shpB op=true∧(decide (op≤20)&&decide (20≤op))=false) ∨
 (shpD op=true∧shpA op=false∧shpB op=false∧(decide (op≤20)&&decide (20≤op))=true) ∨
 (shpD op=true∧shpA op=false∧shpB op=false∧(decide (op≤20)&&decide (20≤op))=false) ∨
 (shpD op=false∧shpA op=true∧shpB op=false∧(decide (op≤20)&&decide (20≤op))=false):=by
 simp only [shpD,shpA,shpB,Bool.or_eq_true,Bool.or_eq_false_iff,Bool.and_eq_true,Bool.and_eq_false_iff,decide_eq_true_eq,decide_eq_false_iff_not];omega

set_option maxHeartbeats 4000000 in
theorem ins_any {S S' : Nat → Prop} (ga : Option Addr) (gn gc : Nat) (fs : List DFunc) (fa : Option Addr) (fc : Nat) (s : ByteArray) (p : Int) (regs : Int) (ba : Option Addr) (bn bc : Nat) (aa : Option Addr) (an ac : Nat) (x : DIns) (ra : Option Addr) (rc : Nat) (w : World) (h0 : 0 ≤ regs) (h1 : regs ≤ 100)
 (hfs:SlAt S w 4 rFunc (.slice fa fs.length fc) fs) (has:SlAt S' w 2 rVal (.slice ra x.args.length rc) x.args) (hfl:fs.length≤1048576) (_ho:I64 x.op) (_hd:I64 x.dst) (_ha:I64 x.a.n) (_hb:I64 x.b.n) (_hf:I64 x.fn) :
 Calls Tryz.prog 51 #[.agg #[.slice ga gn gc,.slice fa fs.length fc,.string s,.int .i64 p,.int .i64 regs,.slice ba bn bc,.slice aa an ac],.agg #[.int .i64 x.op,.int .i64 x.dst,.bool x.a.reg,.int .i64 x.a.n,.bool x.b.reg,.int .i64 x.b.n,.int .i64 x.fn,.slice ra x.args.length rc]] w fun e w' =>
  e = .returned (.int .i64 (insE fs regs x))∧Below w.heap.size w w':=by
 have Hfs:=hid hfs;have Has:=hid has;obtain⟨_,_,ha1,ha2⟩:=has.val;cases ha1;clear hfs has
 by_cases hop:1≤x.op∧x.op≤22
 case neg =>
  have Hr:=hid (show insE fs regs x=4 by simp only [insE,hop];simp);go_enter Tryz.func51,Tryz.ntmps51;go_wp2_with (go_at_call 22;((with_reducible refine (within_any _ _ _ _).mono ?_);rintro e w' ⟨rfl,rfl⟩));go_ret;exact⟨ret_int Hr.out.symm,by (repeat (first | exact Below.refl _ _ | refine Below.alloc ?_ (by first|omega|(simp<;>omega)) _ | refine Below.setCell ?_ (by first|omega|(simp<;>omega)) _ | refine below_drewN ?_ _ | refine Below.drew ?_))⟩
 generalize hbad:formBad x=bad;have Hbad:=hid hbad;clear hbad;go_enter Tryz.func51,Tryz.ntmps51;go_upto_region 5 with (first | (go_at_call 22;((with_reducible refine (within_any _ _ _ _).mono ?_);rintro e w' ⟨rfl,rfl⟩)) | (go_at_call 85;((with_reducible refine (shapes_any _ _).mono ?_);rintro e w1 ⟨rfl,hb1⟩;obtain⟨hc1,hf1⟩:=below_cells hb1;have hz1:w.heap.size+1<w1.heap.size:=(by have:=hb1.size;simp at this;omega);have hz0:w.heap.size<w1.heap.size:=(by omega))))
 obtain⟨W,hW⟩:∃W,W=(w1.alloc (.cells #[.bool (shpD x.op),.bool (shpA x.op),.bool (shpB x.op)] 129)).alloc (.cells #[.bool (decide (x.op≤20)&&decide (20≤x.op))] 4):=⟨_,rfl⟩
 rw [←hW];have s0:W.cell? ⟨w1.heap.size,0,none⟩=some (.bool (shpD x.op)):=by rw [hW];simp
 have s1:W.cell? ⟨w1.heap.size,1,none⟩=some (.bool (shpA x.op)):=by rw [hW];simp
 have s2:W.cell? ⟨w1.heap.size,2,none⟩=some (.bool (shpB x.op)):=by rw [hW];simp
 have s3:W.cell? ⟨w1.heap.size+1,0,none⟩=some (.bool (decide (x.op≤20)&&decide (20≤x.op))):=by rw [hW];simp
 have x0:W.cell? ⟨w.heap.size+1,0,none⟩=some (.int .i64 x.op):=by rw [hW];simp [go_sem,hc1,hz1,hz0]
 have x1:W.cell? ⟨w.heap.size+1,1,none⟩=some (.int .i64 x.dst):=by rw [hW];simp [go_sem,hc1,hz1,hz0]
 have x2:W.cell? ⟨w.heap.size+1,2,none⟩=some (.bool x.a.reg):=by rw [hW];simp [go_sem,hc1,hz1,hz0]
 have x3:W.cell? ⟨w.heap.size+1,3,none⟩=some (.int .i64 x.a.n):=by rw [hW];simp [go_sem,hc1,hz1,hz0]
 have x4:W.cell? ⟨w.heap.size+1,4,none⟩=some (.bool x.b.reg):=by rw [hW];simp [go_sem,hc1,hz1,hz0]
 have x5:W.cell? ⟨w.heap.size+1,5,none⟩=some (.int .i64 x.b.n):=by rw [hW];simp [go_sem,hc1,hz1,hz0]
 have x6:W.cell? ⟨w.heap.size+1,6,none⟩=some (.int .i64 x.fn):=by rw [hW];simp [go_sem,hc1,hz1,hz0]
 have x7:W.cell? ⟨w.heap.size+1,7,none⟩=some (.slice ra x.args.length rc):=by rw [hW];simp [go_sem,hc1,hz1,hz0]
 have hbW:Below (w.heap.size+2) ((w.alloc (.cells #[.slice ga gn gc,.slice fa fs.length fc,.string s,.int .i64 p,.int .i64 regs,.slice ba bn bc,.slice aa an ac] 53)).alloc (.cells #[.int .i64 x.op,.int .i64 x.dst,.bool x.a.reg,.int .i64 x.a.n,.bool x.b.reg,.int .i64 x.b.n,.int .i64 x.fn,.slice ra x.args.length rc] 80)) W:=by
  rw [hW];(have hz0:=(hb1).size;have hy0:=hz0;(try simp at hy0);repeat (first | exact Below.refl _ _ | refine Below.trans ?_ ((hb1).mono (by first|omega|(simp<;>omega))) | refine Below.alloc ?_ (by first|omega|(simp<;>omega)) _ | refine Below.setCell ?_ (by first|omega|(simp<;>omega)) _ | refine below_drewN ?_ _ | refine Below.drew ?_))
 have HbW:=hid hbW;have HC:Hid (CellsAt W w.heap.size 0 [.slice ga gn gc,.slice fa fs.length fc,.string s,.int .i64 p,.int .i64 regs,.slice ba bn bc,.slice aa an ac]):=by
  rw [hW];exact .cons (by simp [go_sem,hc1,hz0]) (.cons (by simp [go_sem,hc1,hz0]) (.cons (by simp [go_sem,hc1,hz0]) (.cons (by simp [go_sem,hc1,hz0]) (.cons (by simp [go_sem,hc1,hz0]) (.cons (by simp [go_sem,hc1,hz0]) (.cons (by simp [go_sem,hc1,hz0]) (.nil _ _ _)))))))
 have z1:w.heap.size+1<W.heap.size:=by rw [hW];simp;omega
 have z2:w1.heap.size+1<W.heap.size:=by rw [hW];simp
 clear hbW hW hc1 hf1 hb1 hz1 hz0;generalize w1.heap.size=sb at *;have hb:=Hbad.out;unfold formBad at hb;have hbe:bad=((!shpD x.op&&(decide (x.dst < -1)||decide (-1<x.dst)))||(!shpA x.op&&(x.a.reg||(decide (x.a.n<0)||decide (0<x.a.n))))||(!shpB x.op&&(x.b.reg||(decide (x.b.n<0)||decide (0<x.b.n))))||(!(decide (x.op≤20)&&decide (20≤x.op))&&((decide (x.fn<0)||decide (0<x.fn))||decide (0<x.args.length)))):=by
  have v0:∀v:DVal,decide (v≠⟨false,0⟩)=(v.reg||(decide (v.n<0)||decide (0<v.n))):=fun⟨r,n⟩=>by
   rw [Bool.eq_iff_iff];cases r <;> simp <;> omega
  have i0:∀a b:Int,decide (a≠b)=(decide (a<b)||decide (b<a)):=fun a b=>by rw [Bool.eq_iff_iff];simp;omega
  have i1:∀a b:Int,(decide (a<b)||decide (b<a))=!(decide (a≤b)&&decide (b≤a)):=fun a b=>by rw [Bool.eq_iff_iff];simp;omega
  rw [←hb,v0,v0,i0,i0,i0,i1 x.op 20]
 have hcl:=ins_class hop;clear hb;obtain⟨D,hD⟩:∃D,shpD x.op=D:=⟨_,rfl⟩
 obtain⟨A,hA⟩:∃A,shpA x.op=A:=⟨_,rfl⟩
 obtain⟨B,hB⟩:∃B,shpB x.op=B:=⟨_,rfl⟩
 obtain⟨kz,hkz⟩:∃kz,(decide (x.op≤20)&&decide (20≤x.op))=kz:=⟨_,rfl⟩
 obtain⟨dz,hdz⟩:∃dz,(decide (x.dst < -1)||decide (-1<x.dst))=dz:=⟨_,rfl⟩
 obtain⟨az,haz⟩:∃az,(x.a.reg||(decide (x.a.n<0)||decide (0<x.a.n)))=az:=⟨_,rfl⟩
 obtain⟨bz,hbz⟩:∃bz,(x.b.reg||(decide (x.b.n<0)||decide (0<x.b.n)))=bz:=⟨_,rfl⟩
 obtain⟨fz,hfz⟩:∃fz,(decide (x.fn<0)||decide (0<x.fn))=fz:=⟨_,rfl⟩
 obtain⟨lz,hlz⟩:∃lz,decide (0<x.args.length)=lz:=⟨_,rfl⟩
 rw [hD,hA,hB,hkz,hdz,haz,hbz,hfz,hlz] at hbe;rw [hD,hA,hB,hkz] at hcl;rw [hD] at s0;rw [hA] at s1;rw [hB] at s2;rw [hkz] at s3;have Hbe:=hid hbe;have HD:=hid hD;have Hkz:=hid hkz;clear hbe hD hA hB hkz;go_cut [62] from 8 to 62 (fun v wc=>v = .bool bad∧W=wc)
 case first =>
  clear Hfs Has HbW ha2 z1 z2 HD Hkz Hbad HC;rcases hcl with⟨rfl,rfl,rfl,rfl⟩ | ⟨rfl,rfl,rfl,rfl⟩ | ⟨rfl,rfl,rfl,rfl⟩ | ⟨rfl,rfl,rfl,rfl⟩ | ⟨rfl,rfl,rfl,rfl⟩ | ⟨rfl,rfl,rfl,rfl⟩
  all_goals
   go_wp2_with fail
  all_goals
   go_meet;refine⟨congrArg Value.bool ?_,rfl⟩;rw [Hbe.out];simp [*]
 case rest =>
  obtain⟨rfl,rfl⟩:=hcut;clear hdz haz hbz hfz hlz hcl Hbe;have hW0:Below w.heap.size w W:=(by (repeat (first | exact Below.refl _ _ | refine Below.alloc ?_ (by first|omega|(simp<;>omega)) _ | refine Below.setCell ?_ (by first|omega|(simp<;>omega)) _ | refine below_drewN ?_ _ | refine Below.drew ?_)):Below w.heap.size w ((w.alloc (.cells #[.slice ga gn gc,.slice fa fs.length fc,.string s,.int .i64 p,.int .i64 regs,.slice ba bn bc,.slice aa an ac] 53)).alloc (.cells #[.int .i64 x.op,.int .i64 x.dst,.bool x.a.reg,.int .i64 x.a.n,.bool x.b.reg,.int .i64 x.b.n,.int .i64 x.fn,.slice ra x.args.length rc] 80))).trans (HbW.out.mono (by omega));have HW0:=hid hW0;cases bad
  case true =>
   have Hr:=hid (show insE fs regs x=5 by simp only [insE,hop,Hbad.out];simp);clear hW0;go_wp2_with fail;go_ret;exact⟨ret_int Hr.out.symm,by have h:=HW0.out;(have hz0:=(h).size;have hy0:=hz0;(try simp at hy0);repeat (first | exact Below.refl _ _ | refine Below.trans ?_ ((h).mono (by first|omega|(simp<;>omega))) | refine Below.alloc ?_ (by first|omega|(simp<;>omega)) _ | refine Below.setCell ?_ (by first|omega|(simp<;>omega)) _ | refine below_drewN ?_ _ | refine Below.drew ?_))⟩
  have hkz':kz=decide (x.op=20):=by rw [←Hkz.out,Bool.eq_iff_iff];simp;omega
  have HC1:Hid (∀w',Below W.heap.size W w'→Calls Tryz.prog 87 #[.pointer (some ⟨w.heap.size,0,none⟩),.pointer (some ⟨w.heap.size+1,0,none⟩)] w' fun e w''=>e = .returned (.int .i64 (valE regs x.a))∧Below w'.heap.size w' w'') :=
   fun w' h=>ins1_any _ _ _ _ _ _ regs _ _ _ _ _ _ x.a w' h0 h1 _ _ _ _ _ _ _ _ rfl rfl rfl rfl (HC.out.later h) (cell_later' x2 h) (cell_later' x3 h)
  have HC2:Hid (∀w',Below W.heap.size W w'→Calls Tryz.prog 88 #[.pointer (some ⟨w.heap.size,0,none⟩),.pointer (some ⟨w.heap.size+1,0,none⟩)] w' fun e w''=>e = .returned (.int .i64 (valE regs x.b))∧Below w'.heap.size w' w'') :=
   fun w' h=>ins2_any _ _ _ _ _ _ regs _ _ _ _ _ _ x.b w' h0 h1 _ _ _ _ _ _ _ _ rfl rfl rfl rfl (HC.out.later h) (cell_later' x4 h) (cell_later' x5 h)
  have HC3:Hid (∀w',Below W.heap.size W w'→Calls Tryz.prog 89 #[.pointer (some ⟨sb+1,0,none⟩),.pointer (some ⟨w.heap.size+1,0,none⟩),.pointer (some ⟨w.heap.size,0,none⟩)] w' fun e w''=>e = .returned (.int .i64 (callE fs regs x))∧Below w'.heap.size w' w'') :=
   fun w' h=>ins3_any _ _ _ _ _ _ fs regs _ _ _ _ _ _ x w' h0 h1 _ _ _ _ _ _ _ _ _ rfl rfl rfl (HC.out.later h) (by rw [←hkz'];exact cell_later' s3 h) (cell_later' x6 h) (cell_later' x7 h) ((Hfs.out.later rFunc_mono HW0.out).later rFunc_mono h) ((Has.out.later rVal_mono HW0.out).later rVal_mono h) hfl
  obtain⟨y0,y1,y2,y3,y4,y5,y6⟩:=HC.out.get7;simp only [Nat.zero_add] at y1 y2 y3 y4 y5 y6;have z0:w.heap.size<W.heap.size:=by omega
  clear hW0 hkz';have hfin:∀d:Bool,d=(D&&!(kz&&(decide (x.dst ≤ -1)&&decide (-1≤x.dst))))→((shpD x.op=true∧¬(x.op=20∧x.dst = -1))↔d=true):=by
   intro d hd;rw [hd,HD.out,←Hkz.out];simp;omega
  have Hfin:=hid hfin;clear hfin;obtain⟨ez,hez⟩:∃ez,(decide (x.dst ≤ -1)&&decide (-1≤x.dst))=ez:=⟨_,rfl⟩
  rw [hez] at Hfin;have hdz:D=true∨D=false:=by cases D <;> simp
  have hkz:kz=true∨kz=false:=by cases kz <;> simp
  by_cases hgo:(D&&!(kz&&ez))=true
  · have hins:insE fs regs x=if dstE regs x.dst≠0 then 3 else firstE (valE regs x.a) (valE regs x.b) (callE fs regs x):=by
     simp only [insE,hop,Hbad.out,(Hfin.out _ rfl).2 hgo];simp
    have hgo':(D=true∧kz=false)∨(D=true∧kz=true∧ez=false):=by revert hgo;cases D <;> cases kz <;> cases ez <;> simp
    clear hgo hdz hkz Hfin HD Hkz
    by_cases hd:dstE regs x.dst=0
    · have Hins:=hid (show insE fs regs x=firstE (valE regs x.a) (valE regs x.b) (callE fs regs x) by rw [hins,hd];simp)
      clear hins;rcases hgo' with⟨rfl,rfl⟩ | ⟨rfl,rfl,rfl⟩
      all_goals
       go_wp2_with (first | (go_at_call 84;((with_reducible refine (dst_any _ _ _ _ _ _ _ _ _ h0 h1).mono ?_);rintro e w2 ⟨rfl,hb2⟩)) | (go_at_call 86;((with_reducible refine (first_from W _ _ _ _ (valE regs x.a) (valE regs x.b) (callE fs regs x) _ HC1 HC2 HC3 ?_ ?_ ?_ ?_).mono ?_);(have hz0:=(hb2).size;have hy0:=hz0;(try simp at hy0);repeat (first | exact Below.refl _ _ | refine Below.trans ?_ ((hb2).mono (by first|omega|(simp<;>omega))) | refine Below.alloc ?_ (by first|omega|(simp<;>omega)) _ | refine Below.setCell ?_ (by first|omega|(simp<;>omega)) _ | refine below_drewN ?_ _ | refine Below.drew ?_));simp;simp;simp;rintro e w3 ⟨rfl,hb3⟩)));go_ret;exact⟨ret_int Hins.out.symm,by have h:=HW0.out;(have hz0:=(hb3).size;have hy0:=hz0;(try simp at hy0);have hz1:=(hb2).size;have hy1:=hz1;(try simp at hy1);have hz2:=(h).size;have hy2:=hz2;(try simp at hy2);repeat (first | exact Below.refl _ _ | refine Below.trans ?_ ((hb3).mono (by first|omega|(simp<;>omega))) | refine Below.trans ?_ ((hb2).mono (by first|omega|(simp<;>omega))) | refine Below.trans ?_ ((h).mono (by first|omega|(simp<;>omega))) | refine Below.alloc ?_ (by first|omega|(simp<;>omega)) _ | refine Below.setCell ?_ (by first|omega|(simp<;>omega)) _ | refine below_drewN ?_ _ | refine Below.drew ?_))⟩
    · have hd3:dstE regs x.dst=3:=(dstE_or _ _).resolve_left hd
      have Hins:=hid (show insE fs regs x=3 by rw [hins,hd3];simp);clear hins hd;rcases hgo' with⟨rfl,rfl⟩ | ⟨rfl,rfl,rfl⟩
      all_goals
       go_wp2_with (go_at_call 84;((with_reducible refine (dst_any _ _ _ _ _ _ _ _ _ h0 h1).mono ?_);rintro e w2 ⟨rfl,hb2⟩));go_ret;exact⟨ret_int Hins.out.symm,by have h:=HW0.out;(have hz0:=(hb2).size;have hy0:=hz0;(try simp at hy0);have hz1:=(h).size;have hy1:=hz1;(try simp at hy1);repeat (first | exact Below.refl _ _ | refine Below.trans ?_ ((hb2).mono (by first|omega|(simp<;>omega))) | refine Below.trans ?_ ((h).mono (by first|omega|(simp<;>omega))) | refine Below.alloc ?_ (by first|omega|(simp<;>omega)) _ | refine Below.setCell ?_ (by first|omega|(simp<;>omega)) _ | refine below_drewN ?_ _ | refine Below.drew ?_))⟩
  · have hins:insE fs regs x=firstE (valE regs x.a) (valE regs x.b) (callE fs regs x):=by
     have:¬(shpD x.op=true∧¬(x.op=20∧x.dst = -1)):=fun h=>hgo ((Hfin.out _ rfl).1 h);simp only [insE,hop,Hbad.out,this];simp
    have Hins:=hid hins;clear hins;have hgo':D=false∨(D=true∧kz=true∧ez=true):=by revert hgo;cases D <;> cases kz <;> cases ez <;> simp
    clear hgo hdz hkz Hfin HD Hkz;rcases hgo' with rfl | ⟨rfl,rfl,rfl⟩
    all_goals
     go_wp2_with (go_at_call 86;((with_reducible refine (first_from W _ _ _ _ (valE regs x.a) (valE regs x.b) (callE fs regs x) _ HC1 HC2 HC3 ?_ ?_ ?_ ?_).mono ?_);(repeat (first | exact Below.refl _ _ | refine Below.alloc ?_ (by first|omega|(simp<;>omega)) _ | refine Below.setCell ?_ (by first|omega|(simp<;>omega)) _ | refine below_drewN ?_ _ | refine Below.drew ?_));simp;simp;simp;rintro e w3 ⟨rfl,hb3⟩));go_ret;exact⟨ret_int Hins.out.symm,by have h:=HW0.out;(have hz0:=(hb3).size;have hy0:=hz0;(try simp at hy0);have hz1:=(h).size;have hy1:=hz1;(try simp at hy1);repeat (first | exact Below.refl _ _ | refine Below.trans ?_ ((hb3).mono (by first|omega|(simp<;>omega))) | refine Below.trans ?_ ((h).mono (by first|omega|(simp<;>omega))) | refine Below.alloc ?_ (by first|omega|(simp<;>omega)) _ | refine Below.setCell ?_ (by first|omega|(simp<;>omega)) _ | refine below_drewN ?_ _ | refine Below.drew ?_))⟩

end Go.Proofs.YtnkogppgacappaaGreatDoor

namespace Go.Proofs.YtnkogppgacappaaGreatDoor
open Go.RowKit

def firstF (e : Nat → Int) : Nat → Int
 | 0=>0
 | n+1=>if firstF e n≠0 then firstF e n else e n
theorem firstF_zero {e:Nat→Int}{n:Nat}(h:∀j,j<n→e j=0):firstF e n=0:=by
 induction n with
 | zero=>rfl
 | succ n ih=>rw [firstF,ih (fun j hj=>h j (by omega)),if_neg (by simp)];exact h n (by omega)
theorem firstF_at {e:Nat→Int}{n k:Nat}(h:∀j,j<k→e j=0)(hk:k<n)(he:e k≠0):firstF e n=e k:=by
 induction n with
 | zero=>omega
 | succ n ih =>
   rw [firstF];rcases Nat.lt_succ_iff_lt_or_eq.1 hk with h1 | h1
   · rw [ih h1,if_pos he]
   · subst h1;rw [firstF_zero h,if_neg (by simp)]
theorem firstF_inv {e:Nat→Int}{n:Nat}(h:firstF e n=0):∀j,j<n→e j=0:=by
 induction n with
 | zero=>intro j hj;omega
 | succ n ih =>
   rw [firstF] at h
   by_cases h1:firstF e n=0
   · rw [if_neg (by simpa using h1)] at h
     exact ext_lt (ih h1) h
   · rw [if_pos h1] at h;exact absurd h h1

theorem endE_ok {n:Nat}{regs:Int}{e:DEnd}(h:endE n regs e=0) :
 1≤e.kind∧e.kind≤3∧(e.to.length:Int)=e.kind - 1∧(∀t∈e.to,1≤t∧t≤(n:Int) - 1)∧¬(e.kind=3∧e.to.getD 0 0=e.to.getD 1 0)∧valE regs e.on=0:=by
 unfold endE at h
 by_cases h1:1≤e.kind∧e.kind≤3
 case neg=>rw [if_pos h1] at h;omega
 rw [if_neg (by simpa using h1)] at h
 by_cases h2:(e.to.length:Int)=e.kind - 1
 case neg=>rw [if_pos h2] at h;omega
 rw [if_neg (by simpa using h2)] at h
 by_cases h3:e.to.any (badTo n)=true
 · rw [if_pos h3] at h;omega
 rw [if_neg h3] at h
 by_cases h4:(e.kind=3∧e.to.getD 0 0=e.to.getD 1 0)∨(e.kind=2∧e.on≠⟨false,0⟩)
 · rw [if_pos h4] at h;omega
 rw [if_neg h4] at h;refine⟨h1.1,h1.2,h2,fun t ht=>?_,fun h=>h4 (.inl h),h⟩;have:badTo n t≠true:=fun hb=>h3 (List.any_eq_true.2 ⟨t,ht,hb⟩);simpa [badTo] using this

def endsE(regs:Int)(bs:List DBlock)(k:Nat):Int:=match bs[k]? with | some b=>endE bs.length regs b.fin | none=>0
def phisE(regs:Int)(bs:List DBlock)(i:Nat)(b:DBlock)(k:Nat):Int:=match b.phis[k]? with | some p=>phiE regs i (aheadF bs) p | none=>0
def listE(fs:List DFunc)(regs:Int)(b:DBlock)(k:Nat):Int:=match b.list[k]? with | some x=>insE fs regs x | none=>0
def blockE(fs:List DFunc)(regs:Int)(bs:List DBlock)(k:Nat):Int :=
 match bs[k]? with
 | some b=>if firstF (phisE regs bs k b) b.phis.length≠0 then firstF (phisE regs bs k b) b.phis.length else firstF (listE fs regs b) b.list.length
 | none=>0
def bodyE(fs:List DFunc)(f:DFunc):Int :=
 if firstF (endsE f.regs f.blocks) f.blocks.length≠0 then firstF (endsE f.regs f.blocks) f.blocks.length
 else firstF (blockE fs f.regs f.blocks) f.blocks.length

set_option maxRecDepth 100000 in
set_option maxHeartbeats 2000000 in
theorem body_any {S S' : Nat → Prop} (ga : Option Addr) (gn gc : Nat) (fs : List DFunc) (fa : Option Addr) (fc : Nat) (f : DFunc) (ba : Option Addr) (bc : Nat) (aa : Option Addr) (an ac : Nat) (w : World) (h0 : 0 ≤ f.regs) (h1 : f.regs ≤ 100)
 (hfs:SlAt S w 4 rFunc (.slice fa fs.length fc) fs) (hbs:SlAt S' w 6 rBlock (.slice ba f.blocks.length bc) f.blocks) (hfl:fs.length≤1048576) (hbl:f.blocks.length≤1048576) (hw:Ways w) :
 Calls Tryz.prog 24 #[.agg #[.slice ga gn gc,.slice fa fs.length fc,.string f.name,.int .i64 f.params,.int .i64 f.regs,.slice ba f.blocks.length bc,.slice aa an ac]] w fun e w' =>
  e = .returned (.int .i64 (bodyE fs f))∧Below w.heap.size w w':=by
 have Hfs:=hid hfs;have Hbs:=hid hbs;have Hw:=hid hw;clear hfs hbs hw;obtain⟨regs,hregs⟩:∃r,r=f.regs:=⟨_,rfl⟩
 obtain⟨bs,hbse⟩:∃b,b=f.blocks:=⟨_,rfl⟩
 rw [←hregs] at h0 h1 ⊢;rw [←hbse] at Hbs hbl ⊢;have Hregs:=hid hregs;have Hbse:=hid hbse;clear hregs hbse;have hW1:∀o,Below w.heap.size w (w.alloc o):=fun o=>by (repeat (first | exact Below.refl _ _ | refine Below.alloc ?_ (by first|omega|(simp<;>omega)) _ | refine Below.setCell ?_ (by first|omega|(simp<;>omega)) _ | refine below_drewN ?_ _ | refine Below.drew ?_))
 have HW1:=hid hW1;clear hW1;go_enter Tryz.func24,Tryz.ntmps24;go_wp2_with fail;go_loopw [18] (fun i wr=>∃k:Nat,k≤bs.length∧i = .int .i64 k∧(∀j,j<k→endsE regs bs j=0)∧Below (w.heap.size+1) (w.alloc (.cells #[.slice ga gn gc,.slice fa fs.length fc,.string f.name,.int .i64 f.params,.int .i64 regs,.slice ba bs.length bc,.slice aa an ac] 53)) wr) (fun i _=>bs.length - (intOf i).toNat)
 case atStart=>exact⟨0,Nat.zero_le _,rfl,fun j hj=>by omega,Below.refl _ _⟩
 case round =>
  obtain⟨k,hk,rfl,hall,hblw⟩:=hrel;have Hall:=hid hall;have hwr:Below w.heap.size w wr:=(HW1.out _).trans (hblw.mono (by omega));obtain⟨hc1,hf1⟩:=below_cells hblw;have hz1:w.heap.size<wr.heap.size:=by have:=hblw.size;simp at this;omega
  have Hwr:=hid hwr;have Hblw:=hid hblw;clear hall hblw
  by_cases hlt:k<bs.length
  · obtain⟨b,off,cs,rfl,hS,hx,-,hcs⟩:=Hbs.out.get hlt
    obtain⟨pa,pc,la,lc,ta,tc,rfl,-,-,hts,hpm,hlm2,htm,-,-⟩:=hx.opens;obtain⟨c0,c1,c2,c3,c4,c5⟩:=(hcs.later hwr).get6;have Hts:=hid hts;clear hcs hx hts hwr;have he:endsE regs bs k=endE bs.length regs bs[k].fin:=by unfold endsE;rw [List.getElem?_eq_getElem hlt]
    have He:=hid he;clear he
    by_cases hz:endE bs.length regs bs[k].fin=0
    · go_wp2_with (go_at_call 48;go_must ((with_reducible refine (end_any (S:=S') _ _ _ _ regs _ bs.length _ _ _ _ _ _ bs[k].fin.to _ h0 h1 (by omega) ?_ ?_).mono ?_);exact Ways.below Hw.out (by have h:=Hwr.out;(have hz0:=(h).size;have hy0:=hz0;(try simp at hy0);repeat (first | exact Below.refl _ _ | refine Below.trans ?_ ((h).mono (by first|omega|(simp<;>omega))) | refine Below.alloc ?_ (by first|omega|(simp<;>omega)) _ | refine Below.setCell ?_ (by first|omega|(simp<;>omega)) _ | refine below_drewN ?_ _ | refine Below.drew ?_)));refine Hts.out.later rInt_mono ?_;have h:=Hwr.out;(have hz0:=(h).size;have hy0:=hz0;(try simp at hy0);repeat (first | exact Below.refl _ _ | refine Below.trans ?_ ((h).mono (by first|omega|(simp<;>omega))) | refine Below.alloc ?_ (by first|omega|(simp<;>omega)) _ | refine Below.setCell ?_ (by first|omega|(simp<;>omega)) _ | refine below_drewN ?_ _ | refine Below.drew ?_));rintro e w2 ⟨rfl,hb2⟩))
      go_roundw
      case rel=>exact⟨k+1,by omega,by go_num,ext_lt Hall.out (He.out.trans hz),by have h:=Hblw.out;(have hz0:=(hb2).size;have hy0:=hz0;(try simp at hy0);have hz1:=(h).size;have hy1:=hz1;(try simp at hy1);repeat (first | exact Below.refl _ _ | refine Below.trans ?_ ((hb2).mono (by first|omega|(simp<;>omega))) | refine Below.trans ?_ ((h).mono (by first|omega|(simp<;>omega))) | refine Below.alloc ?_ (by first|omega|(simp<;>omega)) _ | refine Below.setCell ?_ (by first|omega|(simp<;>omega)) _ | refine below_drewN ?_ _ | refine Below.drew ?_))⟩
      case measure=>simp [intOf];omega
    · have hz':=ne_yes hz
      have Hr:Hid (bodyE fs f=endE bs.length regs bs[k].fin):=by
       have h:=firstF_at Hall.out hlt (by rw [He.out];exact hz);unfold bodyE;rw [←Hregs.out,←Hbse.out,h,He.out];exact if_pos hz
      clear hz;go_wp2_with (go_at_call 48;go_must ((with_reducible refine (end_any (S:=S') _ _ _ _ regs _ bs.length _ _ _ _ _ _ bs[k].fin.to _ h0 h1 (by omega) ?_ ?_).mono ?_);exact Ways.below Hw.out (by have h:=Hwr.out;(have hz0:=(h).size;have hy0:=hz0;(try simp at hy0);repeat (first | exact Below.refl _ _ | refine Below.trans ?_ ((h).mono (by first|omega|(simp<;>omega))) | refine Below.alloc ?_ (by first|omega|(simp<;>omega)) _ | refine Below.setCell ?_ (by first|omega|(simp<;>omega)) _ | refine below_drewN ?_ _ | refine Below.drew ?_)));refine Hts.out.later rInt_mono ?_;have h:=Hwr.out;(have hz0:=(h).size;have hy0:=hz0;(try simp at hy0);repeat (first | exact Below.refl _ _ | refine Below.trans ?_ ((h).mono (by first|omega|(simp<;>omega))) | refine Below.alloc ?_ (by first|omega|(simp<;>omega)) _ | refine Below.setCell ?_ (by first|omega|(simp<;>omega)) _ | refine below_drewN ?_ _ | refine Below.drew ?_));rintro e w2 ⟨rfl,hb2⟩));go_ret;exact⟨ret_int Hr.out.symm,by have h:=Hwr.out;(have hz0:=(hb2).size;have hy0:=hz0;(try simp at hy0);have hz1:=(h).size;have hy1:=hz1;(try simp at hy1);repeat (first | exact Below.refl _ _ | refine Below.trans ?_ ((hb2).mono (by first|omega|(simp<;>omega))) | refine Below.trans ?_ ((h).mono (by first|omega|(simp<;>omega))) | refine Below.alloc ?_ (by first|omega|(simp<;>omega)) _ | refine Below.setCell ?_ (by first|omega|(simp<;>omega)) _ | refine below_drewN ?_ _ | refine Below.drew ?_))⟩
  · obtain rfl:k=bs.length:=by omega
    have Hok:Hid (∀(j:Nat) (x:DBlock),bs[j]?=some x→endE bs.length regs x.fin=0):=fun j x hx=>by
     have hj:=(List.getElem?_eq_some_iff.1 hx).1;have:=Hall.out j hj;unfold endsE at this;rw [hx] at this;exact this
    have Hf0:=hid (firstF_zero Hall.out);clear hwr;go_wp2_with (go_at_call 49;go_must ((with_reducible refine (ahead_any (S:=S') _ _ _ _ _ bs _ ?_ hbl ?_).mono ?_);exact Hbs.out.later rBlock_mono Hwr.out;exact fun j x hx=>⟨by have:=endE_ok (Hok.out j x hx);omega,fun t ht=>by have:=(endE_ok (Hok.out j x hx)).2.2.2.1 t ht;omega⟩;rintro e w2 ⟨v,rfl,hah,hb2⟩;obtain⟨va,vc,rfl,hvm⟩:=hah.val;have Hah:=hid hah;clear hah;obtain⟨hc2,hf2⟩:=below_cells hb2;have hz2:w.heap.size<w2.heap.size:=(by have:=hb2.size;omega);have Hb2:=hid hb2;clear hb2));have Hal:Hid ((aheadF bs).length=bs.length):=by simp [aheadF,Hid]
    obtain⟨W,hW⟩:∃W,W=w2.setCell ⟨w.heap.size,6,none⟩ (.slice va (aheadF bs).length vc):=⟨_,rfl⟩
    rw [←hW];have HC:Hid (CellsAt W w.heap.size 0 [.slice ga gn gc,.slice fa fs.length fc,.string f.name,.int .i64 f.params,.int .i64 regs,.slice ba bs.length bc,.slice va (aheadF bs).length vc]):=by
     rw [hW];exact .cons (by simp [go_sem,hc2,hz1,hc1]) (.cons (by simp [go_sem,hc2,hz1,hc1]) (.cons (by simp [go_sem,hc2,hz1,hc1]) (.cons (by simp [go_sem,hc2,hz1,hc1]) (.cons (by simp [go_sem,hc2,hz1,hc1]) (.cons (by simp [go_sem,hc2,hz1,hc1]) (.cons (by simp [go_sem,hc2,hz1,hc1]) (.nil _ _ _)))))))
    have HW:Hid (Below w.heap.size w W):=by
     rw [hW];exact (Hwr.out.trans (Hb2.out.mono (by omega))).setCell (Nat.le_refl _) _
    have Hah2:Hid (SlAt (fun b=>wr.heap.size≤b) W 1 rRow (.slice va (aheadF bs).length vc) (aheadF bs)):=by
     rw [hW];exact Hah.out.mono rRow_mono (fun _ h=>h) (fun b o v hb hc=>by rw [World.cell?_of_block (w:=w2) (Below.heap_setCell _ _ _ _ (by dsimp only;omega))];exact hc)
    have hz3:w.heap.size<W.heap.size:=by rw [hW];simp [World.setCell];omega
    clear hW hc1 hc2 hf1 hf2 hz1 hz2 Hah;obtain⟨S2,Hah3⟩:∃S2,Hid (SlAt S2 W 1 rRow (.slice va (aheadF bs).length vc) (aheadF bs)):=⟨_,Hah2⟩
    clear Hah2;go_loopw [38] (fun i wr=>∃k:Nat,k≤bs.length∧i = .int .i64 k∧(∀j,j<k→blockE fs regs bs j=0)∧Below W.heap.size W wr) (fun i _=>bs.length - (intOf i).toNat)
    case atStart=>exact⟨0,Nat.zero_le _,rfl,fun j hj=>by omega,Below.refl _ _⟩
    case round =>
     obtain⟨wq,rfl⟩:∃wq:World,wq=wr:=⟨_,rfl⟩
     obtain⟨k,hk,rfl,hall,hblw⟩:=hrel;have Hall2:=hid hall;have HWq0:=hid hblw;have hwq:Below w.heap.size w wq:=HW.out.trans (hblw.mono (by omega));have hz4:w.heap.size<wq.heap.size:=by have:=hblw.size;omega
     clear hall
     by_cases hlt:k<bs.length
     · obtain⟨b,off,cs,rfl,hS,hx,-,hcs⟩:=Hbs.out.get hlt
       obtain⟨pa,pc,la,lc,ta,tc,rfl,hps,hls,-,hpm,hlm2,htm,-,-⟩:=hx.opens;obtain⟨c0,c1,c2,c3,c4,c5⟩:=(hcs.later hwq).get6;have HkA:Hid (k<(aheadF bs).length):=by rw [Hal.out];exact hlt
       have HbA:Hid ((aheadF bs).length≤1048576):=by rw [Hal.out];exact hbl
       have Hps:=hid hps;have Hls:=hid hls;have Hwr2:=hid hwq;have He:Hid (blockE fs regs bs k=if firstF (phisE regs bs k bs[k]) bs[k].phis.length≠0 then firstF (phisE regs bs k bs[k]) bs[k].phis.length else firstF (listE fs regs bs[k]) bs[k].list.length):=by
        show blockE fs regs bs k=_;unfold blockE;rw [List.getElem?_eq_getElem hlt]
       clear hcs hx hps hls hwq hblw;go_wp2_with fail;obtain⟨X,hX⟩:∃X,X=wq.alloc (.cells #[.slice pa bs[k].phis.length pc,.slice la bs[k].list.length lc,.int .i64 bs[k].fin.kind,.bool bs[k].fin.on.reg,.int .i64 bs[k].fin.on.n,.slice ta bs[k].fin.to.length tc] 76):=⟨_,rfl⟩
       rw [←hX];have HX1:Hid (X.cell? ⟨wq.heap.size,1,none⟩=some (.slice la bs[k].list.length lc)):=by rw [hX];simp [Hid]
       have HXW:Hid (Below W.heap.size W X):=by rw [hX];have h:=HWq0.out;exact h.alloc (by have:=h.size;omega) _
       have HXw:Hid (Below w.heap.size w X):=by rw [hX];have h:=Hwr2.out;exact h.alloc (by have:=h.size;omega) _
       have hz5:wq.heap.size<X.heap.size:=by rw [hX];simp
       clear hX c0 c1 c2 c3 c4 c5;go_loopw [46] (fun i wr=>∃j:Nat,j≤bs[k].phis.length∧i = .int .i64 j∧(∀j',j'<j→phisE regs bs k bs[k] j'=0)∧Below X.heap.size X wr) (fun i _=>bs[k].phis.length - (intOf i).toNat)
       case atStart=>exact⟨0,Nat.zero_le _,rfl,fun j hj=>by omega,Below.refl _ _⟩
       case round =>
        obtain⟨j,hj,rfl,hall3,hbx⟩:=hrel;have Hall3:=hid hall3;have Hbx:=hid hbx;have HWq:Hid (Below W.heap.size W wr):=HXW.out.trans (hbx.mono (HXW.out.size));have Hwq:Hid (Below w.heap.size w wr):=HXw.out.trans (hbx.mono (HXw.out.size));obtain⟨y0,y1,y2,y3,y4,y5,y6⟩:=(HC.out.later HWq.out).get7;simp only [Nat.zero_add] at y1 y2 y3 y4 y5 y6;have hz6:w.heap.size<wr.heap.size:=cell_lt y0;have hx1:=cell_later' HX1.out hbx;clear hall3 hbx
        by_cases hjl:j<bs[k].phis.length
        · obtain⟨b2,off2,cs,rfl,-,hx,-,hcs⟩:=Hps.out.get hjl
          obtain⟨sa,sc,rfl,hsrc,hsm,hd64⟩:=hx.opens;obtain⟨d0,d1⟩:=(hcs.later Hwq.out).get2;have Hsrc:=hid hsrc;have Hej:Hid (phisE regs bs k bs[k] j=phiE regs k (aheadF bs) bs[k].phis[j]):=by
           show phisE regs bs k bs[k] j=_;unfold phisE;rw [List.getElem?_eq_getElem hjl]
          clear hcs hx hsrc
          by_cases hz:phiE regs k (aheadF bs) bs[k].phis[j]=0
          · go_wp2_with (go_at_call 50;go_must ((with_reducible refine (phi_any (S:=S2) (S':=S') _ _ _ _ _ _ _ _ regs _ _ _ _ _ (aheadF bs) bs[k].phis[j] _ _ k _ h0 h1 ?_ ?_ HkA.out HbA.out).mono ?_);refine Hah3.out.later rRow_mono ?_;have h:=HWq.out;(have hz0:=(h).size;have hy0:=hz0;(try simp at hy0);repeat (first | exact Below.refl _ _ | refine Below.trans ?_ ((h).mono (by first|omega|(simp<;>omega))) | refine Below.alloc ?_ (by first|omega|(simp<;>omega)) _ | refine Below.setCell ?_ (by first|omega|(simp<;>omega)) _ | refine below_drewN ?_ _ | refine Below.drew ?_));refine Hsrc.out.later rVal_mono ?_;have h:=Hwq.out;(have hz0:=(h).size;have hy0:=hz0;(try simp at hy0);repeat (first | exact Below.refl _ _ | refine Below.trans ?_ ((h).mono (by first|omega|(simp<;>omega))) | refine Below.alloc ?_ (by first|omega|(simp<;>omega)) _ | refine Below.setCell ?_ (by first|omega|(simp<;>omega)) _ | refine below_drewN ?_ _ | refine Below.drew ?_));rintro e w4 ⟨rfl,hb4⟩))
            go_roundw
            case rel=>exact⟨j+1,by omega,by go_num,ext_lt Hall3.out (Hej.out.trans hz),by have h:=Hbx.out;(have hz0:=(hb4).size;have hy0:=hz0;(try simp at hy0);have hz1:=(h).size;have hy1:=hz1;(try simp at hy1);repeat (first | exact Below.refl _ _ | refine Below.trans ?_ ((hb4).mono (by first|omega|(simp<;>omega))) | refine Below.trans ?_ ((h).mono (by first|omega|(simp<;>omega))) | refine Below.alloc ?_ (by first|omega|(simp<;>omega)) _ | refine Below.setCell ?_ (by first|omega|(simp<;>omega)) _ | refine below_drewN ?_ _ | refine Below.drew ?_))⟩
            case measure=>simp [intOf];omega
          · have hz':=ne_yes hz
            have Hr:Hid (bodyE fs f=phiE regs k (aheadF bs) bs[k].phis[j]):=by
             have h:=firstF_at Hall3.out hjl (by rw [Hej.out];exact hz);rw [Hej.out] at h;have h2:blockE fs regs bs k=phiE regs k (aheadF bs) bs[k].phis[j]:=by rw [He.out,h];exact if_pos hz
             have h3:=firstF_at Hall2.out hlt (by rw [h2];exact hz);show bodyE fs f=_;unfold bodyE;rw [←Hregs.out,←Hbse.out,Hf0.out,h3,h2];exact if_neg (by simp)
            clear hz;go_wp2_with (go_at_call 50;go_must ((with_reducible refine (phi_any (S:=S2) (S':=S') _ _ _ _ _ _ _ _ regs _ _ _ _ _ (aheadF bs) bs[k].phis[j] _ _ k _ h0 h1 ?_ ?_ HkA.out HbA.out).mono ?_);refine Hah3.out.later rRow_mono ?_;have h:=HWq.out;(have hz0:=(h).size;have hy0:=hz0;(try simp at hy0);repeat (first | exact Below.refl _ _ | refine Below.trans ?_ ((h).mono (by first|omega|(simp<;>omega))) | refine Below.alloc ?_ (by first|omega|(simp<;>omega)) _ | refine Below.setCell ?_ (by first|omega|(simp<;>omega)) _ | refine below_drewN ?_ _ | refine Below.drew ?_));refine Hsrc.out.later rVal_mono ?_;have h:=Hwq.out;(have hz0:=(h).size;have hy0:=hz0;(try simp at hy0);repeat (first | exact Below.refl _ _ | refine Below.trans ?_ ((h).mono (by first|omega|(simp<;>omega))) | refine Below.alloc ?_ (by first|omega|(simp<;>omega)) _ | refine Below.setCell ?_ (by first|omega|(simp<;>omega)) _ | refine below_drewN ?_ _ | refine Below.drew ?_));rintro e w4 ⟨rfl,hb4⟩));go_ret;exact⟨ret_int Hr.out.symm,by have h:=Hwq.out;(have hz0:=(hb4).size;have hy0:=hz0;(try simp at hy0);have hz1:=(h).size;have hy1:=hz1;(try simp at hy1);repeat (first | exact Below.refl _ _ | refine Below.trans ?_ ((hb4).mono (by first|omega|(simp<;>omega))) | refine Below.trans ?_ ((h).mono (by first|omega|(simp<;>omega))) | refine Below.alloc ?_ (by first|omega|(simp<;>omega)) _ | refine Below.setCell ?_ (by first|omega|(simp<;>omega)) _ | refine below_drewN ?_ _ | refine Below.drew ?_))⟩
        · obtain rfl:j=bs[k].phis.length:=by omega
          have Hp0:=hid (firstF_zero Hall3.out);go_wp2_with fail;obtain⟨wp,rfl⟩:∃wp:World,wp=wr:=⟨_,rfl⟩
          clear y0 y1 y2 y3 y4 y5 y6 hx1;go_loopw [61] (fun i wr=>∃j:Nat,j≤bs[k].list.length∧i = .int .i64 j∧(∀j',j'<j→listE fs regs bs[k] j'=0)∧Below X.heap.size X wr) (fun i _=>bs[k].list.length - (intOf i).toNat)
          case atStart=>exact⟨0,Nat.zero_le _,rfl,fun j hj=>by omega,Hbx.out⟩
          case round =>
           obtain⟨j,hj,rfl,hall3,hbx⟩:=hrel;have Hall4:=hid hall3;have Hbx:=hid hbx;have HWq:Hid (Below W.heap.size W wr):=HXW.out.trans (hbx.mono (HXW.out.size));have Hwq:Hid (Below w.heap.size w wr):=HXw.out.trans (hbx.mono (HXw.out.size));obtain⟨y0,y1,y2,y3,y4,y5,y6⟩:=(HC.out.later HWq.out).get7;simp only [Nat.zero_add] at y1 y2 y3 y4 y5 y6;have hz6:w.heap.size<wr.heap.size:=cell_lt y0;clear hall3 hbx
           by_cases hjl:j<bs[k].list.length
           · obtain⟨b2,off2,cs,rfl,-,hx,-,hcs⟩:=Hls.out.get hjl
             obtain⟨sa,sc,rfl,hargs,hsm,hi1,hi2,hi3,hi4,hi5⟩:=hx.opens;obtain⟨d0,d1,d2,d3,d4,d5,d6,d7⟩:=(hcs.later Hwq.out).get8;have Hargs:=hid hargs;have Hi1:=hid hi1;have Hi2:=hid hi2;have Hi3:=hid hi3;have Hi4:=hid hi4;have Hi5:=hid hi5;have Hej:Hid (listE fs regs bs[k] j=insE fs regs bs[k].list[j]):=by
              show listE fs regs bs[k] j=_;unfold listE;rw [List.getElem?_eq_getElem hjl]
             clear hcs hx hargs hi1 hi2 hi3 hi4 hi5
             by_cases hz:insE fs regs bs[k].list[j]=0
             · go_wp2_with (go_at_call 51;go_must ((with_reducible refine (ins_any (S:=S) (S':=S') _ _ _ fs _ _ _ _ regs _ _ _ _ _ _ bs[k].list[j] _ _ _ h0 h1 ?_ ?_ hfl Hi1.out Hi2.out Hi3.out Hi4.out Hi5.out).mono ?_);refine Hfs.out.later rFunc_mono ?_;have h:=Hwq.out;(have hz0:=(h).size;have hy0:=hz0;(try simp at hy0);repeat (first | exact Below.refl _ _ | refine Below.trans ?_ ((h).mono (by first|omega|(simp<;>omega))) | refine Below.alloc ?_ (by first|omega|(simp<;>omega)) _ | refine Below.setCell ?_ (by first|omega|(simp<;>omega)) _ | refine below_drewN ?_ _ | refine Below.drew ?_));refine Hargs.out.later rVal_mono ?_;have h:=Hwq.out;(have hz0:=(h).size;have hy0:=hz0;(try simp at hy0);repeat (first | exact Below.refl _ _ | refine Below.trans ?_ ((h).mono (by first|omega|(simp<;>omega))) | refine Below.alloc ?_ (by first|omega|(simp<;>omega)) _ | refine Below.setCell ?_ (by first|omega|(simp<;>omega)) _ | refine below_drewN ?_ _ | refine Below.drew ?_));rintro e w4 ⟨rfl,hb4⟩))
               go_roundw
               case rel=>exact⟨j+1,by omega,by go_num,ext_lt Hall4.out (Hej.out.trans hz),by have h:=Hbx.out;(have hz0:=(hb4).size;have hy0:=hz0;(try simp at hy0);have hz1:=(h).size;have hy1:=hz1;(try simp at hy1);repeat (first | exact Below.refl _ _ | refine Below.trans ?_ ((hb4).mono (by first|omega|(simp<;>omega))) | refine Below.trans ?_ ((h).mono (by first|omega|(simp<;>omega))) | refine Below.alloc ?_ (by first|omega|(simp<;>omega)) _ | refine Below.setCell ?_ (by first|omega|(simp<;>omega)) _ | refine below_drewN ?_ _ | refine Below.drew ?_))⟩
               case measure=>simp [intOf];omega
             · have hz':=ne_yes hz
               have Hr:Hid (bodyE fs f=insE fs regs bs[k].list[j]):=by
                have h:=firstF_at Hall4.out hjl (by rw [Hej.out];exact hz);rw [Hej.out] at h;have h2:blockE fs regs bs k=insE fs regs bs[k].list[j]:=by rw [He.out,Hp0.out,if_neg (by simp),h]
                have h3:=firstF_at Hall2.out hlt (by rw [h2];exact hz);show bodyE fs f=_;unfold bodyE;rw [←Hregs.out,←Hbse.out,Hf0.out,h3,h2];exact if_neg (by simp)
               clear hz;go_wp2_with (go_at_call 51;go_must ((with_reducible refine (ins_any (S:=S) (S':=S') _ _ _ fs _ _ _ _ regs _ _ _ _ _ _ bs[k].list[j] _ _ _ h0 h1 ?_ ?_ hfl Hi1.out Hi2.out Hi3.out Hi4.out Hi5.out).mono ?_);refine Hfs.out.later rFunc_mono ?_;have h:=Hwq.out;(have hz0:=(h).size;have hy0:=hz0;(try simp at hy0);repeat (first | exact Below.refl _ _ | refine Below.trans ?_ ((h).mono (by first|omega|(simp<;>omega))) | refine Below.alloc ?_ (by first|omega|(simp<;>omega)) _ | refine Below.setCell ?_ (by first|omega|(simp<;>omega)) _ | refine below_drewN ?_ _ | refine Below.drew ?_));refine Hargs.out.later rVal_mono ?_;have h:=Hwq.out;(have hz0:=(h).size;have hy0:=hz0;(try simp at hy0);repeat (first | exact Below.refl _ _ | refine Below.trans ?_ ((h).mono (by first|omega|(simp<;>omega))) | refine Below.alloc ?_ (by first|omega|(simp<;>omega)) _ | refine Below.setCell ?_ (by first|omega|(simp<;>omega)) _ | refine below_drewN ?_ _ | refine Below.drew ?_));rintro e w4 ⟨rfl,hb4⟩));go_ret;exact⟨ret_int Hr.out.symm,by have h:=Hwq.out;(have hz0:=(hb4).size;have hy0:=hz0;(try simp at hy0);have hz1:=(h).size;have hy1:=hz1;(try simp at hy1);repeat (first | exact Below.refl _ _ | refine Below.trans ?_ ((hb4).mono (by first|omega|(simp<;>omega))) | refine Below.trans ?_ ((h).mono (by first|omega|(simp<;>omega))) | refine Below.alloc ?_ (by first|omega|(simp<;>omega)) _ | refine Below.setCell ?_ (by first|omega|(simp<;>omega)) _ | refine below_drewN ?_ _ | refine Below.drew ?_))⟩
           · obtain rfl:j=bs[k].list.length:=by omega
             have Hb0:Hid (blockE fs regs bs k=0):=by
              show blockE fs regs bs k=0;rw [He.out,Hp0.out,if_neg (by simp)];exact firstF_zero Hall4.out
             go_wp2_with fail;go_roundw
             case rel=>exact⟨k+1,by omega,by go_num,ext_lt Hall2.out Hb0.out,HWq.out⟩
             case measure=>simp [intOf];omega
     · obtain rfl:k=bs.length:=by omega
       have Hr:Hid (bodyE fs f=0):=by
        show bodyE fs f=0;unfold bodyE;rw [←Hregs.out,←Hbse.out,Hf0.out,if_neg (by simp)];exact firstF_zero Hall2.out
       have Hwr2:=hid hwq;clear hwq hblw;go_wp2_with fail;go_ret;exact⟨ret_int Hr.out.symm,Hwr2.out⟩

end Go.Proofs.YtnkogppgacappaaGreatDoor
