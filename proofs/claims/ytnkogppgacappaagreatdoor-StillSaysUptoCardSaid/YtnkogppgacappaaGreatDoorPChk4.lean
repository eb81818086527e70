/- The contract of the checker's head. -/
import Derived.Test.YtnkogppgacappaaGreatDoorPEq
namespace Go.Proofs.YtnkogppgacappaaGreatDoor
open Go.RowKit

def manyOf(l:List DBlock):Nat:=(l.map fun b=>b.phis.length+b.list.length).sum
def headE(names:List ByteArray)(f:DFunc):Int :=
 if nameOk f.name=false then 12
 else if hasStr names f.name=true then 7
 else if ¬(0≤f.params∧f.params≤6)∨¬(f.params≤f.regs∧f.regs≤100) then 3
 else if ¬(1≤f.blocks.length∧f.blocks.length≤40)∨300<manyOf f.blocks then 2
 else 0

theorem manyOf_take(l:List DBlock)(k:Nat)(h:k<l.length):manyOf (l.take (k+1))=manyOf (l.take k)+(l[k].phis.length+l[k].list.length):=by
 unfold manyOf;rw [List.take_succ_eq_append_getElem h,List.map_append,List.sum_append];simp
theorem manyOf_le(l:List DBlock)(k:Nat):manyOf (l.take k)≤manyOf l:=by
 unfold manyOf
 conv=>rhs;rw [←List.take_append_drop k l]
 rw [List.map_append,List.sum_append];omega

set_option maxHeartbeats 1000000 in
theorem head_any {S S' : Nat → Prop} (g f : Value) (x : DFunc) (bl ah nv : Value) (names : List ByteArray) (w : World) (hb : SlAt S w 6 rBlock bl x.blocks) (hn : SlAt S' w 1 rStr nv names)
 (hm:manyOf x.blocks≤1048576) (hp:I64 x.params) (hr:I64 x.regs) :
 Calls Tryz.prog 23 #[.agg #[g,f,.string x.name,.int .i64 x.params,.int .i64 x.regs,bl,ah],nv] w fun e w' =>
  e = .returned (.int .i64 (headE names x))∧Below w.heap.size w w':=by
 obtain⟨ao,c,rfl,hlm⟩:=hb.val;have Hn:=hid hn;have Hb:=hid hb;clear hn hb;unfold I64 at hp hr;go_enter Tryz.func23,Tryz.ntmps23;go_wp2_with fail
 go_loopw [5, 12] (fun m i wr => ∃ k : Nat, k ≤ x.blocks.length ∧ i = .int .i64 k ∧ m = .int .i64 (manyOf (x.blocks.take k) : Nat) ∧ Below (w.heap.size + 1) (w.alloc (Obj.cells #[g, f, .string x.name, .int .i64 x.params, .int .i64 x.regs, .slice ao x.blocks.length c, ah] 53)) wr)
  (fun _ i _=>x.blocks.length - (intOf i).toNat)
 case atStart=>exact⟨0,Nat.zero_le _,rfl,rfl,Below.refl _ _⟩
 case round =>
  obtain⟨k,hk,rfl,rfl,hbl⟩:=hrel
  by_cases hlt:k<x.blocks.length
  · have hmt:=manyOf_take x.blocks k hlt
    have hml:=manyOf_le x.blocks (k+1);have hbl2:=hid hbl;have hn2:=((Below.refl w.heap.size w).alloc (Nat.le_refl _) _).trans (hbl.mono (by simp));obtain⟨b,off,cs,rfl,hS,hx,hcl,hcs⟩:=(Hb.out.later rBlock_mono hn2).get hlt;obtain⟨pa,pc,la,lc,ta,tc,rfl,-,-,-,hpm,hlm2,htm,-,-⟩:=hx.opens;obtain⟨c0,c1,c2,c3,c4,c5⟩:=hcs.get6;have hsz:=hbl.size;simp at hsz;clear hbl hn2 hcs hcl hx;go_wp2_with fail;go_roundw
    case rel=>exact⟨k+1,by omega,by go_num,by rw [hmt];go_num,by have h:=hbl2.out;(have hz0:=(h).size;have hy0:=hz0;(try simp at hy0);repeat (first | exact Below.refl _ _ | refine Below.trans ?_ ((h).mono (by first|omega|(simp<;>omega))) | refine Below.alloc ?_ (by first|omega|(simp<;>omega)) _ | refine Below.setCell ?_ (by first|omega|(simp<;>omega)) _ | refine below_drewN ?_ _ | refine Below.drew ?_))⟩
    case measure=>simp [intOf];omega
  · obtain⟨hc,hf⟩:=below_cells hbl
    have Hn2:=hid (Hn.out.later rStr_mono (((Below.refl w.heap.size w).alloc (Nat.le_refl _) _).trans (hbl.mono (by simp))));have hbl2:=hid hbl;have hsz:=hbl.size;simp at hsz;clear hbl;obtain rfl:k=x.blocks.length:=by omega
    rw [List.take_length];generalize hmany:manyOf x.blocks=many at *;have Hm:=hid hmany;clear hmany;have hend:∀r:Int,headE names x=r→∃H:Hid (headE names x=r),True:=fun r h=>⟨h,trivial⟩
    by_cases h1:nameOk x.name=true
    case neg =>
     obtain⟨Hr,-⟩:=hend 12 (by simp [headE,h1]);have h1':nameOk x.name=false:=by simpa using h1
     clear h1 hend;go_wp2_with (go_at_call 20;((with_reducible refine (name_any _ _).mono ?_);rintro e w' ⟨rfl,rfl⟩));go_ret;exact⟨ret_int Hr.out.symm,by have h:=hbl2.out;(have hz0:=(h).size;have hy0:=hz0;(try simp at hy0);repeat (first | exact Below.refl _ _ | refine Below.trans ?_ ((h).mono (by first|omega|(simp<;>omega))) | refine Below.alloc ?_ (by first|omega|(simp<;>omega)) _ | refine Below.setCell ?_ (by first|omega|(simp<;>omega)) _ | refine below_drewN ?_ _ | refine Below.drew ?_))⟩
    by_cases h2:hasStr names x.name=true
    case pos =>
     obtain⟨Hr,-⟩:=hend 7 (by simp [headE,h1,h2]);clear hend;go_wp2_with (first | (go_at_call 20;((with_reducible refine (name_any _ _).mono ?_);rintro e w' ⟨rfl,rfl⟩)) | (go_at_call 21;((with_reducible refine (containsStr_any _ _ _ _ Hn2.out).mono ?_);rintro e w' ⟨rfl,rfl⟩)));go_ret;exact⟨ret_int Hr.out.symm,by have h:=hbl2.out;(have hz0:=(h).size;have hy0:=hz0;(try simp at hy0);repeat (first | exact Below.refl _ _ | refine Below.trans ?_ ((h).mono (by first|omega|(simp<;>omega))) | refine Below.alloc ?_ (by first|omega|(simp<;>omega)) _ | refine Below.setCell ?_ (by first|omega|(simp<;>omega)) _ | refine below_drewN ?_ _ | refine Below.drew ?_))⟩
    have h2':hasStr names x.name=false:=by simpa using h2
    by_cases h3:¬(0≤x.params∧x.params≤6)∨¬(x.params≤x.regs∧x.regs≤100)
    case pos =>
     obtain⟨Hr,-⟩:=hend 3 (by simp only [headE,h1,h2];simp only [h3];simp);clear hend h2
     by_cases h4:0≤x.params∧x.params≤6
     all_goals
      go_wp2_with (first | (go_at_call 20;((with_reducible refine (name_any _ _).mono ?_);rintro e w' ⟨rfl,rfl⟩)) | (go_at_call 21;((with_reducible refine (containsStr_any _ _ _ _ Hn2.out).mono ?_);rintro e w' ⟨rfl,rfl⟩)) | (go_at_call 22;((with_reducible refine (within_any _ _ _ _).mono ?_);rintro e w' ⟨rfl,rfl⟩)));go_ret;exact⟨ret_int Hr.out.symm,by have h:=hbl2.out;(have hz0:=(h).size;have hy0:=hz0;(try simp at hy0);repeat (first | exact Below.refl _ _ | refine Below.trans ?_ ((h).mono (by first|omega|(simp<;>omega))) | refine Below.alloc ?_ (by first|omega|(simp<;>omega)) _ | refine Below.setCell ?_ (by first|omega|(simp<;>omega)) _ | refine below_drewN ?_ _ | refine Below.drew ?_))⟩
    have h4:(0≤x.params∧x.params≤6)∧(x.params≤x.regs∧x.regs≤100):=by omega
    by_cases h5:¬(1≤x.blocks.length∧x.blocks.length≤40)∨300<many
    case pos =>
     obtain⟨Hr,-⟩:=hend 2 (by simp only [headE,h1,h2,h3,Hm.out];simp only [h5];simp);clear hend h2 h3
     by_cases h6:1≤x.blocks.length∧x.blocks.length≤40
     all_goals
      go_wp2_with (first | (go_at_call 20;((with_reducible refine (name_any _ _).mono ?_);rintro e w' ⟨rfl,rfl⟩)) | (go_at_call 21;((with_reducible refine (containsStr_any _ _ _ _ Hn2.out).mono ?_);rintro e w' ⟨rfl,rfl⟩)) | (go_at_call 22;((with_reducible refine (within_any _ _ _ _).mono ?_);rintro e w' ⟨rfl,rfl⟩)));go_ret;exact⟨ret_int Hr.out.symm,by have h:=hbl2.out;(have hz0:=(h).size;have hy0:=hz0;(try simp at hy0);repeat (first | exact Below.refl _ _ | refine Below.trans ?_ ((h).mono (by first|omega|(simp<;>omega))) | refine Below.alloc ?_ (by first|omega|(simp<;>omega)) _ | refine Below.setCell ?_ (by first|omega|(simp<;>omega)) _ | refine below_drewN ?_ _ | refine Below.drew ?_))⟩
    have h6:(1≤x.blocks.length∧x.blocks.length≤40)∧many≤300:=by omega
    obtain⟨Hr,-⟩:=hend 0 (by simp only [headE,h1,h2,h3,Hm.out];simp only [h5];simp);clear hend h2 h3 h5;go_wp2_with (first | (go_at_call 20;((with_reducible refine (name_any _ _).mono ?_);rintro e w' ⟨rfl,rfl⟩)) | (go_at_call 21;((with_reducible refine (containsStr_any _ _ _ _ Hn2.out).mono ?_);rintro e w' ⟨rfl,rfl⟩)) | (go_at_call 22;((with_reducible refine (within_any _ _ _ _).mono ?_);rintro e w' ⟨rfl,rfl⟩)));go_ret;exact⟨ret_int Hr.out.symm,by have h:=hbl2.out;(have hz0:=(h).size;have hy0:=hz0;(try simp at hy0);repeat (first | exact Below.refl _ _ | refine Below.trans ?_ ((h).mono (by first|omega|(simp<;>omega))) | refine Below.alloc ?_ (by first|omega|(simp<;>omega)) _ | refine Below.setCell ?_ (by first|omega|(simp<;>omega)) _ | refine below_drewN ?_ _ | refine Below.drew ?_))⟩

end Go.Proofs.YtnkogppgacappaaGreatDoor
