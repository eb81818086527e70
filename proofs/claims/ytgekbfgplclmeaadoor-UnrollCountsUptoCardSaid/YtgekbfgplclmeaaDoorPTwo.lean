import Derived.Test.YtgekbfgplclmeaaDoorPMakes
/- Rows of 64 codes: known bits as the document writes them; the rounds of a table, step by step. No program in sight. core.Two and turneryref5.Two: what an instruction makes of two numbers. -/
set_option maxHeartbeats 1000000
set_option maxRecDepth 100000
namespace Go.Proofs.YtgekbfgplclmeaaDoor
section
end
section
open Go.RowKit
@[go_sem] theorem akV(x y:BitVec 64):bits .xor .i64 (bi x) (bi y)=bi (x ^^^ y):=by
  show IntKind.i64.wrap ((BitVec.ofInt 64 x.toInt ^^^ BitVec.ofInt 64 y.toInt).toNat:Int)=_;rw [BitVec.ofInt_toInt,BitVec.ofInt_toInt,ae0,acR]
theorem alu(x:BitVec 64)(n:Nat):wrap64 (bi x * 2 ^ n)=bi (x <<< n):=by
 rw [acm]
 congr 1
 rw [show ((2:Int) ^ n)=((2 ^ n:Nat):Int) by norm_cast,BitVec.ofInt_mul];unfold bi;rw [BitVec.ofInt_toInt,BitVec.ofInt_natCast];apply BitVec.eq_of_toNat_eq;rw [BitVec.toNat_mul,BitVec.toNat_ofNat,BitVec.toNat_shiftLeft,Nat.shiftLeft_eq,Nat.mul_mod_mod]
theorem alx(x:BitVec 64)(n:Nat):bi x / 2 ^ n=bi (x.sshiftRight n):=by
 unfold bi;rw [BitVec.toInt_sshiftRight,Int.shiftRight_eq_div_pow]
 norm_cast
theorem alC(x y:BitVec 64):(bi x).tmod (bi y)=bi (af8 ((bi x).tmod (bi y))):=by
 refine (aiH ?_).symm;have h:=aei x;have h4:((bi x).tmod (bi y)).natAbs<=(bi x).natAbs:=by rw [Int.natAbs_tmod];exact Nat.mod_le _ _
 unfold I64;rcases Int.le_total 0 (bi x) with h1 | h1
 . omega
 . have e:bi x = -(-bi x):=by omega
   have h2:=Int.tmod_nonneg (bi y) (show 0 <= -bi x by omega);have h3:(bi x).tmod (bi y) = -((-bi x).tmod (bi y)):=by rw [<-Int.neg_tmod,Int.neg_neg]
   omega
def aeb : Option (BitVec 64) -> Value
 | some z => .tuple #[.int .i64 (bi z),.bool true]
 | none => .tuple #[.int .i64 0,.bool false]
theorem acT {a b:Int}(h:a=b):Ending.returned (.tuple #[.int .i64 a,.bool true]) = .returned (.tuple #[.int .i64 b,.bool true]):=by rw [h]
theorem akR(x:BitVec 64):IntKind.u64.wrap (shX x:Int)=(shX x:Int):=by have:=ajr x;rw [IntKind.wrap_u64];omega
theorem acW(b:Bool)(w:World):Calls Tryd.prog 63 #[.bool b] w fun e w'=>e = .returned (.int .i64 (bi (if b=true then 1#64 else 0#64)))∧w=w':=by
 cases b <;> (go_enter Tryd.func63,Tryd.ntmps63;go_wp2_with fail;go_ret;exact⟨rfl,rfl⟩)
theorem alD(x y:BitVec 64)(w:World):Calls Tryd.prog 37 #[.int .i64 1,.int .i64 (bi x),.int .i64 (bi y)] w fun e w'=>e = .returned (aeb (aaV 1 x y))∧w=w':=by
 have Hr:Hid (aaV 1 x y=some x):=by show _=_;unfold aaV;simp
 go_enter Tryd.func37,Tryd.ntmps37;go_wp2_with fail;go_ret2;refine⟨?_,rfl⟩;rw [Hr.out];exact rfl
theorem alE(x y:BitVec 64)(w:World):Calls Tryd.prog 37 #[.int .i64 2,.int .i64 (bi x),.int .i64 (bi y)] w fun e w'=>e = .returned (aeb (aaV 2 x y))∧w=w':=by
 have Hr:Hid (aaV 2 x y=some (x+y)):=by show _=_;unfold aaV;simp
 go_enter Tryd.func37,Tryd.ntmps37;go_wp2_with fail;go_ret2;refine⟨?_,rfl⟩;rw [Hr.out];exact acT (al2 x y)
theorem alF(x y:BitVec 64)(w:World):Calls Tryd.prog 37 #[.int .i64 3,.int .i64 (bi x),.int .i64 (bi y)] w fun e w'=>e = .returned (aeb (aaV 3 x y))∧w=w':=by
 have Hr:Hid (aaV 3 x y=some (x - y)):=by show _=_;unfold aaV;simp
 go_enter Tryd.func37,Tryd.ntmps37;go_wp2_with fail;go_ret2;refine⟨?_,rfl⟩;rw [Hr.out];exact acT (amv x y)
theorem alG(x y:BitVec 64)(w:World):Calls Tryd.prog 37 #[.int .i64 4,.int .i64 (bi x),.int .i64 (bi y)] w fun e w'=>e = .returned (aeb (aaV 4 x y))∧w=w':=by
 have Hr:Hid (aaV 4 x y=some (x * y)):=by show _=_;unfold aaV;simp
 go_enter Tryd.func37,Tryd.ntmps37;go_wp2_with fail;go_ret2;refine⟨?_,rfl⟩;rw [Hr.out];exact acT (amh x y)
theorem akH(x y:BitVec 64)(w:World)(h:y=0#64):Calls Tryd.prog 37 #[.int .i64 5,.int .i64 (bi x),.int .i64 (bi y)] w fun e w'=>e = .returned (aeb (aaV 5 x y))∧w=w':=by
 have Hr:Hid (aaV 5 x y=none):=by show _=_;unfold aaV;simp [*]
 have q0:(decide (bi y<=0)&&decide (0<=bi y))=true:=aey (by rw [h];rfl);clear h;go_enter Tryd.func37,Tryd.ntmps37;go_wp2_with fail;go_ret2;refine⟨?_,rfl⟩;rw [Hr.out];exact rfl
theorem alH(x y:BitVec 64)(w:World)(h:¬y=0#64)(h0:¬bi y=0):Calls Tryd.prog 37 #[.int .i64 5,.int .i64 (bi x),.int .i64 (bi y)] w fun e w'=>e = .returned (aeb (aaV 5 x y))∧w=w':=by
 have Hr:Hid (aaV 5 x y=some (af8 ((bi x).tdiv (bi y)))):=by show _=_;unfold aaV;simp [*]
 have q0:(decide (bi y<=0)&&decide (0<=bi y))=false:=afE h0;have q1:¬bi y=0:=h0;clear h h0;go_enter Tryd.func37,Tryd.ntmps37;go_wp2_with fail;go_ret2;refine⟨?_,rfl⟩;rw [Hr.out];exact acT (acm _)
theorem akI(x y:BitVec 64)(w:World)(h:y=0#64):Calls Tryd.prog 37 #[.int .i64 6,.int .i64 (bi x),.int .i64 (bi y)] w fun e w'=>e = .returned (aeb (aaV 6 x y))∧w=w':=by
 have Hr:Hid (aaV 6 x y=none):=by show _=_;unfold aaV;simp [*]
 have q0:(decide (bi y<=0)&&decide (0<=bi y))=true:=aey (by rw [h];rfl);clear h;go_enter Tryd.func37,Tryd.ntmps37;go_wp2_with fail;go_ret2;refine⟨?_,rfl⟩;rw [Hr.out];exact rfl
theorem alI(x y:BitVec 64)(w:World)(h:¬y=0#64)(h0:¬bi y=0):Calls Tryd.prog 37 #[.int .i64 6,.int .i64 (bi x),.int .i64 (bi y)] w fun e w'=>e = .returned (aeb (aaV 6 x y))∧w=w':=by
 have Hr:Hid (aaV 6 x y=some (af8 ((bi x).tmod (bi y)))):=by show _=_;unfold aaV;simp [*]
 have q0:(decide (bi y<=0)&&decide (0<=bi y))=false:=afE h0;have q1:¬bi y=0:=h0;clear h h0;go_enter Tryd.func37,Tryd.ntmps37;go_wp2_with fail;go_ret2;refine⟨?_,rfl⟩;rw [Hr.out];exact acT (alC x y)
theorem alJ(x y:BitVec 64)(w:World):Calls Tryd.prog 37 #[.int .i64 7,.int .i64 (bi x),.int .i64 (bi y)] w fun e w'=>e = .returned (aeb (aaV 7 x y))∧w=w':=by
 have Hr:Hid (aaV 7 x y=some (x &&& y)):=by show _=_;unfold aaV;simp
 go_enter Tryd.func37,Tryd.ntmps37;go_wp2_with fail;go_ret2;refine⟨?_,rfl⟩;rw [Hr.out];exact rfl
theorem alK(x y:BitVec 64)(w:World):Calls Tryd.prog 37 #[.int .i64 8,.int .i64 (bi x),.int .i64 (bi y)] w fun e w'=>e = .returned (aeb (aaV 8 x y))∧w=w':=by
 have Hr:Hid (aaV 8 x y=some (x ||| y)):=by show _=_;unfold aaV;simp
 go_enter Tryd.func37,Tryd.ntmps37;go_wp2_with fail;go_ret2;refine⟨?_,rfl⟩;rw [Hr.out];exact rfl
theorem alL(x y:BitVec 64)(w:World):Calls Tryd.prog 37 #[.int .i64 9,.int .i64 (bi x),.int .i64 (bi y)] w fun e w'=>e = .returned (aeb (aaV 9 x y))∧w=w':=by
 have Hr:Hid (aaV 9 x y=some (x ^^^ y)):=by show _=_;unfold aaV;simp
 go_enter Tryd.func37,Tryd.ntmps37;go_wp2_with fail;go_ret2;refine⟨?_,rfl⟩;rw [Hr.out];exact rfl
theorem akD(x y:BitVec 64)(w:World):Calls Tryd.prog 37 #[.int .i64 10,.int .i64 (bi x),.int .i64 (bi y)] w fun e w'=>e = .returned (aeb (aaV 10 x y))∧w=w':=by
 have Hr:Hid (aaV 10 x y=some (x <<< shX y)):=by show _=_;unfold aaV;simp
 have ad:=ajr y;have ae:=akR y;go_enter Tryd.func37,Tryd.ntmps37;go_wp2_with fail;go_ret2;refine⟨?_,rfl⟩;rw [Hr.out];exact acT (alu x _)
theorem akE(x y:BitVec 64)(w:World):Calls Tryd.prog 37 #[.int .i64 11,.int .i64 (bi x),.int .i64 (bi y)] w fun e w'=>e = .returned (aeb (aaV 11 x y))∧w=w':=by
 have Hr:Hid (aaV 11 x y=some (x.sshiftRight (shX y))):=by show _=_;unfold aaV;simp
 have ad:=ajr y;have ae:=akR y;go_enter Tryd.func37,Tryd.ntmps37;go_wp2_with fail;go_ret2;refine⟨?_,rfl⟩;rw [Hr.out];exact acT (alx x _)
theorem ajB(x y:BitVec 64)(w:World)(h:bi x=bi y):Calls Tryd.prog 37 #[.int .i64 12,.int .i64 (bi x),.int .i64 (bi y)] w fun e w'=>e = .returned (aeb (aaV 12 x y))∧w=w':=by
 have Hr:Hid (aaV 12 x y=some 1#64):=by show _=_;unfold aaV;simp [*]
 have q0:(decide (bi x<=bi y)&&decide (bi y<=bi x))=true:=aey h;clear h;go_enter Tryd.func37,Tryd.ntmps37;go_wp2_with (go_at_call 63;((with_reducible refine (acW _ _).mono ?_);rintro e w' ⟨rfl,rfl⟩));go_ret2;refine⟨?_,rfl⟩;rw [Hr.out];exact rfl
theorem ajA(x y:BitVec 64)(w:World)(h:¬bi x=bi y):Calls Tryd.prog 37 #[.int .i64 12,.int .i64 (bi x),.int .i64 (bi y)] w fun e w'=>e = .returned (aeb (aaV 12 x y))∧w=w':=by
 have Hr:Hid (aaV 12 x y=some 0#64):=by show _=_;unfold aaV;simp [*]
 have q0:(decide (bi x<=bi y)&&decide (bi y<=bi x))=false:=afE h;clear h;go_enter Tryd.func37,Tryd.ntmps37;go_wp2_with (go_at_call 63;((with_reducible refine (acW _ _).mono ?_);rintro e w' ⟨rfl,rfl⟩));go_ret2;refine⟨?_,rfl⟩;rw [Hr.out];exact rfl
theorem ajD(x y:BitVec 64)(w:World)(h:bi x=bi y):Calls Tryd.prog 37 #[.int .i64 13,.int .i64 (bi x),.int .i64 (bi y)] w fun e w'=>e = .returned (aeb (aaV 13 x y))∧w=w':=by
 have Hr:Hid (aaV 13 x y=some 0#64):=by show _=_;unfold aaV;simp [*]
 have q0:(decide (bi x<bi y)||decide (bi y<bi x))=false:=aib h;clear h;go_enter Tryd.func37,Tryd.ntmps37;go_wp2_with (go_at_call 63;((with_reducible refine (acW _ _).mono ?_);rintro e w' ⟨rfl,rfl⟩));go_ret2;refine⟨?_,rfl⟩;rw [Hr.out];exact rfl
theorem ajC(x y:BitVec 64)(w:World)(h:¬bi x=bi y):Calls Tryd.prog 37 #[.int .i64 13,.int .i64 (bi x),.int .i64 (bi y)] w fun e w'=>e = .returned (aeb (aaV 13 x y))∧w=w':=by
 have Hr:Hid (aaV 13 x y=some 1#64):=by show _=_;unfold aaV;simp [*]
 have q0:(decide (bi x<bi y)||decide (bi y<bi x))=true:=abN h;clear h;go_enter Tryd.func37,Tryd.ntmps37;go_wp2_with (go_at_call 63;((with_reducible refine (acW _ _).mono ?_);rintro e w' ⟨rfl,rfl⟩));go_ret2;refine⟨?_,rfl⟩;rw [Hr.out];exact rfl
theorem ajF(x y:BitVec 64)(w:World)(h:bi x<bi y):Calls Tryd.prog 37 #[.int .i64 14,.int .i64 (bi x),.int .i64 (bi y)] w fun e w'=>e = .returned (aeb (aaV 14 x y))∧w=w':=by
 have Hr:Hid (aaV 14 x y=some 1#64):=by show _=_;unfold aaV;simp [*]
 have q0:decide (bi x<bi y)=true:=decide_eq_true h;clear h;go_enter Tryd.func37,Tryd.ntmps37;go_wp2_with (go_at_call 63;((with_reducible refine (acW _ _).mono ?_);rintro e w' ⟨rfl,rfl⟩));go_ret2;refine⟨?_,rfl⟩;rw [Hr.out];exact rfl
theorem ajE(x y:BitVec 64)(w:World)(h:¬bi x<bi y):Calls Tryd.prog 37 #[.int .i64 14,.int .i64 (bi x),.int .i64 (bi y)] w fun e w'=>e = .returned (aeb (aaV 14 x y))∧w=w':=by
 have Hr:Hid (aaV 14 x y=some 0#64):=by show _=_;unfold aaV;simp [*]
 have q0:decide (bi x<bi y)=false:=decide_eq_false h;clear h;go_enter Tryd.func37,Tryd.ntmps37;go_wp2_with (go_at_call 63;((with_reducible refine (acW _ _).mono ?_);rintro e w' ⟨rfl,rfl⟩));go_ret2;refine⟨?_,rfl⟩;rw [Hr.out];exact rfl
theorem ajH(x y:BitVec 64)(w:World)(h:bi x<=bi y):Calls Tryd.prog 37 #[.int .i64 15,.int .i64 (bi x),.int .i64 (bi y)] w fun e w'=>e = .returned (aeb (aaV 15 x y))∧w=w':=by
 have Hr:Hid (aaV 15 x y=some 1#64):=by show _=_;unfold aaV;simp [*]
 have q0:decide (bi x<=bi y)=true:=decide_eq_true h;clear h;go_enter Tryd.func37,Tryd.ntmps37;go_wp2_with (go_at_call 63;((with_reducible refine (acW _ _).mono ?_);rintro e w' ⟨rfl,rfl⟩));go_ret2;refine⟨?_,rfl⟩;rw [Hr.out];exact rfl
theorem ajG(x y:BitVec 64)(w:World)(h:¬bi x<=bi y):Calls Tryd.prog 37 #[.int .i64 15,.int .i64 (bi x),.int .i64 (bi y)] w fun e w'=>e = .returned (aeb (aaV 15 x y))∧w=w':=by
 have Hr:Hid (aaV 15 x y=some 0#64):=by show _=_;unfold aaV;simp [*]
 have q0:decide (bi x<=bi y)=false:=decide_eq_false h;clear h;go_enter Tryd.func37,Tryd.ntmps37;go_wp2_with (go_at_call 63;((with_reducible refine (acW _ _).mono ?_);rintro e w' ⟨rfl,rfl⟩));go_ret2;refine⟨?_,rfl⟩;rw [Hr.out];exact rfl
theorem akF(x y:BitVec 64)(w:World):Calls Tryd.prog 37 #[.int .i64 16,.int .i64 (bi x),.int .i64 (bi y)] w fun e w'=>e = .returned (aeb (aaV 16 x y))∧w=w':=by
 have Hr:Hid (aaV 16 x y=some (-x)):=by show _=_;unfold aaV;simp
 go_enter Tryd.func37,Tryd.ntmps37;go_wp2_with fail;go_ret2;refine⟨?_,rfl⟩;rw [Hr.out];exact acT (amj x)
theorem akG(x y:BitVec 64)(w:World):Calls Tryd.prog 37 #[.int .i64 17,.int .i64 (bi x),.int .i64 (bi y)] w fun e w'=>e = .returned (aeb (aaV 17 x y))∧w=w':=by
 have Hr:Hid (aaV 17 x y=some (~~~x)):=by show _=_;unfold aaV;simp
 have hx:=aei x;obtain⟨x1,x2⟩:=hx;go_enter Tryd.func37,Tryd.ntmps37;go_wp2_with fail;go_ret2;refine⟨?_,rfl⟩;rw [Hr.out];exact rfl
theorem aeW(op:Int)(x y:BitVec 64)(w:World)(h1:1<=op)(h2:op<=17):Calls Tryd.prog 37 #[.int .i64 op,.int .i64 (bi x),.int .i64 (bi y)] w fun e w'=>e = .returned (aeb (aaV op x y))∧w=w':=by
 have hs:op=1∨op=2∨op=3∨op=4∨op=5∨op=6∨op=7∨op=8∨op=9∨op=10∨op=11∨op=12∨op=13∨op=14∨op=15∨op=16∨op=17:=by omega
 have hz:∀y:BitVec 64,¬y=0#64->¬bi y=0:=fun y h e=>h (al5 (e.trans (show (0:Int)=bi 0#64 from rfl)));rcases hs with rfl | rfl | rfl | rfl | rfl | rfl | rfl | rfl | rfl | rfl | rfl | rfl | rfl | rfl | rfl | rfl | rfl
 . exact alD x y w
 . exact alE x y w
 . exact alF x y w
 . exact alG x y w
 . by_cases h:y=0#64
   . exact akH x y w h
   . exact alH x y w h (hz y h)
 . by_cases h:y=0#64
   . exact akI x y w h
   . exact alI x y w h (hz y h)
 . exact alJ x y w
 . exact alK x y w
 . exact alL x y w
 . exact akD x y w
 . exact akE x y w
 . by_cases h:bi x=bi y
   . exact ajB x y w h
   . exact ajA x y w h
 . by_cases h:bi x=bi y
   . exact ajD x y w h
   . exact ajC x y w h
 . by_cases h:bi x<bi y
   . exact ajF x y w h
   . exact ajE x y w h
 . by_cases h:bi x<=bi y
   . exact ajH x y w h
   . exact ajG x y w h
 . exact akF x y w
 . exact akG x y w
end
end Go.Proofs.YtgekbfgplclmeaaDoor
