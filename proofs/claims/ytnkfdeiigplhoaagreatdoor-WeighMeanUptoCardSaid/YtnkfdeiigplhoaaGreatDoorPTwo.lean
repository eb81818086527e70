import Derived.Test.YtnkfdeiigplhoaaGreatDoorPTz
/- What an instruction makes of two numbers, in plain Lean. bits.makes. core.Two and turneryref5.Two: what an instruction makes of two numbers. -/
set_option maxHeartbeats 1000000
set_option maxRecDepth 100000
namespace Go.Proofs.YtnkfdeiigplhoaaGreatDoor
section
open Go.RowKit
def shX(x:BitVec 64):Nat:=x.toNat % 64
def abf(op:Int)(x y:BitVec 64):Option (BitVec 64) :=
 if op=1 then some x
 else if op=2 then some (x+y)
 else if op=3 then some (x - y)
 else if op=4 then some (x * y)
 else if op=5 then if y=0#64 then none else some (akm ((bi x).tdiv (bi y)))
 else if op=6 then if y=0#64 then none else some (akm ((bi x).tmod (bi y)))
 else if op=7 then some (x &&& y)
 else if op=8 then some (x ||| y)
 else if op=9 then some (x ^^^ y)
 else if op=10 then some (x <<< shX y)
 else if op=11 then some (x.sshiftRight (shX y))
 else if op=12 then some (if bi x=bi y then 1#64 else 0#64)
 else if op=13 then some (if bi x=bi y then 0#64 else 1#64)
 else if op=14 then some (if bi x<bi y then 1#64 else 0#64)
 else if op=15 then some (if bi x<=bi y then 1#64 else 0#64)
 else if op=16 then some (-x)
 else some (~~~x)
end
section
open Go.RowKit
theorem acU(n:Int):wrap64 n=bi (BitVec.ofInt 64 n):=by
 rw [<-agy,IntKind.wrap_i64];unfold wrap64;omega
@[go_sem] theorem aps(x y:BitVec 64):wrap64 (bi x+bi y)=bi (x+y):=by
  rw [acU];unfold bi;rw [BitVec.ofInt_add,BitVec.ofInt_toInt,BitVec.ofInt_toInt]
@[go_sem] theorem apN(x y:BitVec 64):wrap64 (bi x * bi y)=bi (x * y):=by
  rw [acU];unfold bi;rw [BitVec.ofInt_mul,BitVec.ofInt_toInt,BitVec.ofInt_toInt]
@[go_sem] theorem apO(x:BitVec 64):wrap64 (-bi x)=bi (-x):=by
  rw [acU];unfold bi;rw [BitVec.ofInt_neg,BitVec.ofInt_toInt]
@[go_sem] theorem apY(x y:BitVec 64):wrap64 (bi x - bi y)=bi (x - y):=by
  rw [acU];unfold bi;rw [Int.sub_eq_add_neg,BitVec.ofInt_add,BitVec.ofInt_neg,BitVec.ofInt_toInt,BitVec.ofInt_toInt,BitVec.sub_eq_add_neg]
@[go_sem] theorem aqh(x:BitVec 64):bits .and .i64 (bi x) 63=(shX x:Int):=by
  rw [show (63:Int)=bi 63#64 from rfl,aiM];unfold bi shX;have h:(x &&& 63#64).toNat=x.toNat % 64:=by
   rw [BitVec.toNat_and];exact Nat.and_two_pow_sub_one_eq_mod x.toNat 6
  rw [BitVec.toInt_eq_toNat_of_lt (by rw [h];omega),h]
theorem amk(x:BitVec 64):shX x<64:=Nat.mod_lt _ (by omega)
end
section
open Go.RowKit
@[go_sem] theorem aot(x y:BitVec 64):bits .xor .i64 (bi x) (bi y)=bi (x ^^^ y):=by
  show IntKind.i64.wrap ((BitVec.ofInt 64 x.toInt ^^^ BitVec.ofInt 64 y.toInt).toNat:Int)=_;rw [BitVec.ofInt_toInt,BitVec.ofInt_toInt,agy,adw]
theorem aoV(x:BitVec 64)(n:Nat):wrap64 (bi x * 2 ^ n)=bi (x <<< n):=by
 rw [acU]
 congr 1
 rw [show ((2:Int) ^ n)=((2 ^ n:Nat):Int) by norm_cast,BitVec.ofInt_mul];unfold bi;rw [BitVec.ofInt_toInt,BitVec.ofInt_natCast];apply BitVec.eq_of_toNat_eq;rw [BitVec.toNat_mul,BitVec.toNat_ofNat,BitVec.toNat_shiftLeft,Nat.shiftLeft_eq,Nat.mul_mod_mod]
theorem aoY(x:BitVec 64)(n:Nat):bi x / 2 ^ n=bi (x.sshiftRight n):=by
 unfold bi;rw [BitVec.toInt_sshiftRight,Int.shiftRight_eq_div_pow]
 norm_cast
theorem ao4(x y:BitVec 64):(bi x).tmod (bi y)=bi (akm ((bi x).tmod (bi y))):=by
 refine (aoq ?_).symm;have h:=ahg x;have h4:((bi x).tmod (bi y)).natAbs<=(bi x).natAbs:=by rw [Int.natAbs_tmod];exact Nat.mod_le _ _
 unfold I64;rcases Int.le_total 0 (bi x) with h1 | h1
 . omega
 . have e:bi x = -(-bi x):=by omega
   have h2:=Int.tmod_nonneg (bi y) (show 0 <= -bi x by omega);have h3:(bi x).tmod (bi y) = -((-bi x).tmod (bi y)):=by rw [<-Int.neg_tmod,Int.neg_neg]
   omega
def afm : Option (BitVec 64) -> Value
 | some z => .tuple #[.int .i64 (bi z),.bool true]
 | none => .tuple #[.int .i64 0,.bool false]
theorem adz {a b:Int}(h:a=b):Ending.returned (.tuple #[.int .i64 a,.bool true]) = .returned (.tuple #[.int .i64 b,.bool true]):=by rw [h]
theorem aoj(x:BitVec 64):IntKind.u64.wrap (shX x:Int)=(shX x:Int):=by have:=amk x;rw [IntKind.wrap_u64];omega
theorem adG(b:Bool)(w:World):Calls Tryz.prog 119 #[.bool b] w fun e w'=>e = .returned (.int .i64 (bi (if b=true then 1#64 else 0#64)))∧w=w':=by
 cases b <;> (go_enter Tryz.func119,Tryz.ntmps119;go_wp2_with fail;go_ret;exact⟨rfl,rfl⟩)
theorem ao7(x y:BitVec 64)(w:World):Calls Tryz.prog 87 #[.int .i64 1,.int .i64 (bi x),.int .i64 (bi y)] w fun e w'=>e = .returned (afm (abf 1 x y))∧w=w':=by
 have Hr:Hid (abf 1 x y=some x):=by show _=_;unfold abf;simp
 go_enter Tryz.func87,Tryz.ntmps87;go_wp2_with fail;go_ret2;refine⟨?_,rfl⟩;rw [Hr.out];exact rfl
theorem ao8(x y:BitVec 64)(w:World):Calls Tryz.prog 87 #[.int .i64 2,.int .i64 (bi x),.int .i64 (bi y)] w fun e w'=>e = .returned (afm (abf 2 x y))∧w=w':=by
 have Hr:Hid (abf 2 x y=some (x+y)):=by show _=_;unfold abf;simp
 go_enter Tryz.func87,Tryz.ntmps87;go_wp2_with fail;go_ret2;refine⟨?_,rfl⟩;rw [Hr.out];exact adz (aps x y)
theorem ao9(x y:BitVec 64)(w:World):Calls Tryz.prog 87 #[.int .i64 3,.int .i64 (bi x),.int .i64 (bi y)] w fun e w'=>e = .returned (afm (abf 3 x y))∧w=w':=by
 have Hr:Hid (abf 3 x y=some (x - y)):=by show _=_;unfold abf;simp
 go_enter Tryz.func87,Tryz.ntmps87;go_wp2_with fail;go_ret2;refine⟨?_,rfl⟩;rw [Hr.out];exact adz (apY x y)
theorem apa(x y:BitVec 64)(w:World):Calls Tryz.prog 87 #[.int .i64 4,.int .i64 (bi x),.int .i64 (bi y)] w fun e w'=>e = .returned (afm (abf 4 x y))∧w=w':=by
 have Hr:Hid (abf 4 x y=some (x * y)):=by show _=_;unfold abf;simp
 go_enter Tryz.func87,Tryz.ntmps87;go_wp2_with fail;go_ret2;refine⟨?_,rfl⟩;rw [Hr.out];exact adz (apN x y)
theorem an2(x y:BitVec 64)(w:World)(h:y=0#64):Calls Tryz.prog 87 #[.int .i64 5,.int .i64 (bi x),.int .i64 (bi y)] w fun e w'=>e = .returned (afm (abf 5 x y))∧w=w':=by
 have Hr:Hid (abf 5 x y=none):=by show _=_;unfold abf;simp [*]
 have q0:(decide (bi y<=0)&&decide (0<=bi y))=true:=aia (by rw [h];rfl);clear h;go_enter Tryz.func87,Tryz.ntmps87;go_wp2_with fail;go_ret2;refine⟨?_,rfl⟩;rw [Hr.out];exact rfl
theorem apb(x y:BitVec 64)(w:World)(h:¬y=0#64)(h0:¬bi y=0):Calls Tryz.prog 87 #[.int .i64 5,.int .i64 (bi x),.int .i64 (bi y)] w fun e w'=>e = .returned (afm (abf 5 x y))∧w=w':=by
 have Hr:Hid (abf 5 x y=some (akm ((bi x).tdiv (bi y)))):=by show _=_;unfold abf;simp [*]
 have q0:(decide (bi y<=0)&&decide (0<=bi y))=false:=ahl h0;have q1:¬bi y=0:=h0;clear h h0;go_enter Tryz.func87,Tryz.ntmps87;go_wp2_with fail;go_ret2;refine⟨?_,rfl⟩;rw [Hr.out];exact adz (acU _)
theorem an3(x y:BitVec 64)(w:World)(h:y=0#64):Calls Tryz.prog 87 #[.int .i64 6,.int .i64 (bi x),.int .i64 (bi y)] w fun e w'=>e = .returned (afm (abf 6 x y))∧w=w':=by
 have Hr:Hid (abf 6 x y=none):=by show _=_;unfold abf;simp [*]
 have q0:(decide (bi y<=0)&&decide (0<=bi y))=true:=aia (by rw [h];rfl);clear h;go_enter Tryz.func87,Tryz.ntmps87;go_wp2_with fail;go_ret2;refine⟨?_,rfl⟩;rw [Hr.out];exact rfl
theorem apc(x y:BitVec 64)(w:World)(h:¬y=0#64)(h0:¬bi y=0):Calls Tryz.prog 87 #[.int .i64 6,.int .i64 (bi x),.int .i64 (bi y)] w fun e w'=>e = .returned (afm (abf 6 x y))∧w=w':=by
 have Hr:Hid (abf 6 x y=some (akm ((bi x).tmod (bi y)))):=by show _=_;unfold abf;simp [*]
 have q0:(decide (bi y<=0)&&decide (0<=bi y))=false:=ahl h0;have q1:¬bi y=0:=h0;clear h h0;go_enter Tryz.func87,Tryz.ntmps87;go_wp2_with fail;go_ret2;refine⟨?_,rfl⟩;rw [Hr.out];exact adz (ao4 x y)
theorem apd(x y:BitVec 64)(w:World):Calls Tryz.prog 87 #[.int .i64 7,.int .i64 (bi x),.int .i64 (bi y)] w fun e w'=>e = .returned (afm (abf 7 x y))∧w=w':=by
 have Hr:Hid (abf 7 x y=some (x &&& y)):=by show _=_;unfold abf;simp
 go_enter Tryz.func87,Tryz.ntmps87;go_wp2_with fail;go_ret2;refine⟨?_,rfl⟩;rw [Hr.out];exact rfl
theorem ape(x y:BitVec 64)(w:World):Calls Tryz.prog 87 #[.int .i64 8,.int .i64 (bi x),.int .i64 (bi y)] w fun e w'=>e = .returned (afm (abf 8 x y))∧w=w':=by
 have Hr:Hid (abf 8 x y=some (x ||| y)):=by show _=_;unfold abf;simp
 go_enter Tryz.func87,Tryz.ntmps87;go_wp2_with fail;go_ret2;refine⟨?_,rfl⟩;rw [Hr.out];exact rfl
theorem apf(x y:BitVec 64)(w:World):Calls Tryz.prog 87 #[.int .i64 9,.int .i64 (bi x),.int .i64 (bi y)] w fun e w'=>e = .returned (afm (abf 9 x y))∧w=w':=by
 have Hr:Hid (abf 9 x y=some (x ^^^ y)):=by show _=_;unfold abf;simp
 go_enter Tryz.func87,Tryz.ntmps87;go_wp2_with fail;go_ret2;refine⟨?_,rfl⟩;rw [Hr.out];exact rfl
theorem anY(x y:BitVec 64)(w:World):Calls Tryz.prog 87 #[.int .i64 10,.int .i64 (bi x),.int .i64 (bi y)] w fun e w'=>e = .returned (afm (abf 10 x y))∧w=w':=by
 have Hr:Hid (abf 10 x y=some (x <<< shX y)):=by show _=_;unfold abf;simp
 have ad:=amk y;have ae:=aoj y;go_enter Tryz.func87,Tryz.ntmps87;go_wp2_with fail;go_ret2;refine⟨?_,rfl⟩;rw [Hr.out];exact adz (aoV x _)
theorem anZ(x y:BitVec 64)(w:World):Calls Tryz.prog 87 #[.int .i64 11,.int .i64 (bi x),.int .i64 (bi y)] w fun e w'=>e = .returned (afm (abf 11 x y))∧w=w':=by
 have Hr:Hid (abf 11 x y=some (x.sshiftRight (shX y))):=by show _=_;unfold abf;simp
 have ad:=amk y;have ae:=aoj y;go_enter Tryz.func87,Tryz.ntmps87;go_wp2_with fail;go_ret2;refine⟨?_,rfl⟩;rw [Hr.out];exact adz (aoY x _)
theorem amw(x y:BitVec 64)(w:World)(h:bi x=bi y):Calls Tryz.prog 87 #[.int .i64 12,.int .i64 (bi x),.int .i64 (bi y)] w fun e w'=>e = .returned (afm (abf 12 x y))∧w=w':=by
 have Hr:Hid (abf 12 x y=some 1#64):=by show _=_;unfold abf;simp [*]
 have q0:(decide (bi x<=bi y)&&decide (bi y<=bi x))=true:=aia h;clear h;go_enter Tryz.func87,Tryz.ntmps87;go_wp2_with (go_at_call 119;((with_reducible refine (adG _ _).mono ?_);rintro e w' ⟨rfl,rfl⟩));go_ret2;refine⟨?_,rfl⟩;rw [Hr.out];exact rfl
theorem amv(x y:BitVec 64)(w:World)(h:¬bi x=bi y):Calls Tryz.prog 87 #[.int .i64 12,.int .i64 (bi x),.int .i64 (bi y)] w fun e w'=>e = .returned (afm (abf 12 x y))∧w=w':=by
 have Hr:Hid (abf 12 x y=some 0#64):=by show _=_;unfold abf;simp [*]
 have q0:(decide (bi x<=bi y)&&decide (bi y<=bi x))=false:=ahl h;clear h;go_enter Tryz.func87,Tryz.ntmps87;go_wp2_with (go_at_call 119;((with_reducible refine (adG _ _).mono ?_);rintro e w' ⟨rfl,rfl⟩));go_ret2;refine⟨?_,rfl⟩;rw [Hr.out];exact rfl
theorem amy(x y:BitVec 64)(w:World)(h:bi x=bi y):Calls Tryz.prog 87 #[.int .i64 13,.int .i64 (bi x),.int .i64 (bi y)] w fun e w'=>e = .returned (afm (abf 13 x y))∧w=w':=by
 have Hr:Hid (abf 13 x y=some 0#64):=by show _=_;unfold abf;simp [*]
 have q0:(decide (bi x<bi y)||decide (bi y<bi x))=false:=aoL h;clear h;go_enter Tryz.func87,Tryz.ntmps87;go_wp2_with (go_at_call 119;((with_reducible refine (adG _ _).mono ?_);rintro e w' ⟨rfl,rfl⟩));go_ret2;refine⟨?_,rfl⟩;rw [Hr.out];exact rfl
theorem amx(x y:BitVec 64)(w:World)(h:¬bi x=bi y):Calls Tryz.prog 87 #[.int .i64 13,.int .i64 (bi x),.int .i64 (bi y)] w fun e w'=>e = .returned (afm (abf 13 x y))∧w=w':=by
 have Hr:Hid (abf 13 x y=some 1#64):=by show _=_;unfold abf;simp [*]
 have q0:(decide (bi x<bi y)||decide (bi y<bi x))=true:=ad1 h;clear h;go_enter Tryz.func87,Tryz.ntmps87;go_wp2_with (go_at_call 119;((with_reducible refine (adG _ _).mono ?_);rintro e w' ⟨rfl,rfl⟩));go_ret2;refine⟨?_,rfl⟩;rw [Hr.out];exact rfl
theorem amA(x y:BitVec 64)(w:World)(h:bi x<bi y):Calls Tryz.prog 87 #[.int .i64 14,.int .i64 (bi x),.int .i64 (bi y)] w fun e w'=>e = .returned (afm (abf 14 x y))∧w=w':=by
 have Hr:Hid (abf 14 x y=some 1#64):=by show _=_;unfold abf;simp [*]
 have q0:decide (bi x<bi y)=true:=decide_eq_true h;clear h;go_enter Tryz.func87,Tryz.ntmps87;go_wp2_with (go_at_call 119;((with_reducible refine (adG _ _).mono ?_);rintro e w' ⟨rfl,rfl⟩));go_ret2;refine⟨?_,rfl⟩;rw [Hr.out];exact rfl
theorem amz(x y:BitVec 64)(w:World)(h:¬bi x<bi y):Calls Tryz.prog 87 #[.int .i64 14,.int .i64 (bi x),.int .i64 (bi y)] w fun e w'=>e = .returned (afm (abf 14 x y))∧w=w':=by
 have Hr:Hid (abf 14 x y=some 0#64):=by show _=_;unfold abf;simp [*]
 have q0:decide (bi x<bi y)=false:=decide_eq_false h;clear h;go_enter Tryz.func87,Tryz.ntmps87;go_wp2_with (go_at_call 119;((with_reducible refine (adG _ _).mono ?_);rintro e w' ⟨rfl,rfl⟩));go_ret2;refine⟨?_,rfl⟩;rw [Hr.out];exact rfl
theorem amC(x y:BitVec 64)(w:World)(h:bi x<=bi y):Calls Tryz.prog 87 #[.int .i64 15,.int .i64 (bi x),.int .i64 (bi y)] w fun e w'=>e = .returned (afm (abf 15 x y))∧w=w':=by
 have Hr:Hid (abf 15 x y=some 1#64):=by show _=_;unfold abf;simp [*]
 have q0:decide (bi x<=bi y)=true:=decide_eq_true h;clear h;go_enter Tryz.func87,Tryz.ntmps87;go_wp2_with (go_at_call 119;((with_reducible refine (adG _ _).mono ?_);rintro e w' ⟨rfl,rfl⟩));go_ret2;refine⟨?_,rfl⟩;rw [Hr.out];exact rfl
theorem amB(x y:BitVec 64)(w:World)(h:¬bi x<=bi y):Calls Tryz.prog 87 #[.int .i64 15,.int .i64 (bi x),.int .i64 (bi y)] w fun e w'=>e = .returned (afm (abf 15 x y))∧w=w':=by
 have Hr:Hid (abf 15 x y=some 0#64):=by show _=_;unfold abf;simp [*]
 have q0:decide (bi x<=bi y)=false:=decide_eq_false h;clear h;go_enter Tryz.func87,Tryz.ntmps87;go_wp2_with (go_at_call 119;((with_reducible refine (adG _ _).mono ?_);rintro e w' ⟨rfl,rfl⟩));go_ret2;refine⟨?_,rfl⟩;rw [Hr.out];exact rfl
theorem an0(x y:BitVec 64)(w:World):Calls Tryz.prog 87 #[.int .i64 16,.int .i64 (bi x),.int .i64 (bi y)] w fun e w'=>e = .returned (afm (abf 16 x y))∧w=w':=by
 have Hr:Hid (abf 16 x y=some (-x)):=by show _=_;unfold abf;simp
 go_enter Tryz.func87,Tryz.ntmps87;go_wp2_with fail;go_ret2;refine⟨?_,rfl⟩;rw [Hr.out];exact adz (apO x)
theorem an1(x y:BitVec 64)(w:World):Calls Tryz.prog 87 #[.int .i64 17,.int .i64 (bi x),.int .i64 (bi y)] w fun e w'=>e = .returned (afm (abf 17 x y))∧w=w':=by
 have Hr:Hid (abf 17 x y=some (~~~x)):=by show _=_;unfold abf;simp
 have hx:=ahg x;obtain⟨x1,x2⟩:=hx;go_enter Tryz.func87,Tryz.ntmps87;go_wp2_with fail;go_ret2;refine⟨?_,rfl⟩;rw [Hr.out];exact rfl
theorem amD(op:Int)(x y:BitVec 64)(w:World)(h1:1<=op)(h2:op<=17):Calls Tryz.prog 87 #[.int .i64 op,.int .i64 (bi x),.int .i64 (bi y)] w fun e w'=>e = .returned (afm (abf op x y))∧w=w':=by
 have hs:op=1∨op=2∨op=3∨op=4∨op=5∨op=6∨op=7∨op=8∨op=9∨op=10∨op=11∨op=12∨op=13∨op=14∨op=15∨op=16∨op=17:=by omega
 have hz:∀y:BitVec 64,¬y=0#64->¬bi y=0:=fun y h e=>h (apw (e.trans (show (0:Int)=bi 0#64 from rfl)));rcases hs with rfl | rfl | rfl | rfl | rfl | rfl | rfl | rfl | rfl | rfl | rfl | rfl | rfl | rfl | rfl | rfl | rfl
 . exact ao7 x y w
 . exact ao8 x y w
 . exact ao9 x y w
 . exact apa x y w
 . by_cases h:y=0#64
   . exact an2 x y w h
   . exact apb x y w h (hz y h)
 . by_cases h:y=0#64
   . exact an3 x y w h
   . exact apc x y w h (hz y h)
 . exact apd x y w
 . exact ape x y w
 . exact apf x y w
 . exact anY x y w
 . exact anZ x y w
 . by_cases h:bi x=bi y
   . exact amw x y w h
   . exact amv x y w h
 . by_cases h:bi x=bi y
   . exact amy x y w h
   . exact amx x y w h
 . by_cases h:bi x<bi y
   . exact amA x y w h
   . exact amz x y w h
 . by_cases h:bi x<=bi y
   . exact amC x y w h
   . exact amB x y w h
 . exact an0 x y w
 . exact an1 x y w
end
end Go.Proofs.YtnkfdeiigplhoaaGreatDoor
