import Derived.Deep.CutRange
import Derived.Deep.Light
import Derived.Test.YtpeejlpcikefcaaGreatDoorPGAhd
import Derived.Test.YtpeejlpcikefcaaGreatDoorPChk4
/- Contracts of code.first over the three closures, and of the checker's ins. The contract of the checker's ins. The contract of the checker's body. Contracts of core.Fault, of the closure that looks for main, and of slices.IndexFunc over it. What is wrong with a unit: plain. The contract of code.Check. -/
set_option maxHeartbeats 4000000
set_option maxRecDepth 100000
namespace Go.Proofs.YtpeejlpcikefcaaGreatDoor
section
open Go.RowKit
def ada(e1 e2 e3:Int):Int:=if e1≠0 then e1 else if e2≠0 then e2 else e3
theorem aof (lb : Nat) (pc px pk : Value) (e1 e2 e3 : Int) (w : World)
 (h0:w.cell? ⟨lb,0,none⟩=some (.func (.func 101) #[] #[pc,px]))
 (h1:w.cell? ⟨lb,1,none⟩=some (.func (.func 102) #[] #[pc,px]))
 (h2:w.cell? ⟨lb,2,none⟩=some (.func (.func 103) #[] #[pk,px,pc]))
 (H1:Hid (∀w',Below w.heap.size w w'->Calls Tryz.prog 101 #[pc,px] w' fun e aC=>e = .returned (.int .i64 e1)∧Below w'.heap.size w' aC))
 (H2:Hid (∀w',Below w.heap.size w w'->Calls Tryz.prog 102 #[pc,px] w' fun e aC=>e = .returned (.int .i64 e2)∧Below w'.heap.size w' aC))
 (H3:Hid (∀w',Below w.heap.size w w'->Calls Tryz.prog 103 #[pk,px,pc] w' fun e aC=>e = .returned (.int .i64 e3)∧Below w'.heap.size w' aC)) :
 Calls Tryz.prog 100 #[.slice (some ⟨lb,0,none⟩) 3 3] w fun e w'=>e = .returned (.int .i64 (ada e1 e2 e3))∧Below w.heap.size w w':=by
 go_enter Tryz.func100,Tryz.ntmps100;go_wp2_with fail;go_loopw [8] (fun i wr=>∃k:Nat,k<=3∧i = .int .i64 k∧(1<=k->e1=0)∧(2<=k->e2=0)∧(3<=k->e3=0)∧Below w.heap.size w wr) (fun i _=>3 - (intOf i).toNat)
 case atStart=>exact⟨0,by omega,rfl,fun _=>by omega,fun _=>by omega,fun _=>by omega,bE⟩
 case round =>
  obtain⟨k,hk,rfl,z1,z2,z3,aY⟩:=hrel;have g0:=aab h0 aY;have g1:=aab h1 aY;have g2:=aab h2 aY;have aK:=hid aY;have Z1:=hid z1;have Z2:=hid z2;have Z3:=hid z3;have cg:=aY.size;clear aY z1 z2 z3;have dC:k=0∨k=1∨k=2∨k=3:=by omega
  rcases dC with rfl | rfl | rfl | rfl
  . by_cases hz:e1=0
    . have al:e1<=0:=by omega
      have bt:0<=e1:=by omega
      have Hz:=hid hz;clear hz;go_wp2_with (go_at_call 101;((with_reducible refine (H1.out _ aK.out).mono ?_);rintro e w1 ⟨rfl,aG⟩));go_roundw
      case rel=>exact⟨1,by omega,rfl,fun _=>Hz.out,fun _=>by omega,fun _=>by omega,by have h:=aK.out;exact bE2 aG h⟩
      case measure=>simp [intOf]
    . have al:e1<0∨0<e1:=by omega
      have Hz:=hid hz;clear hz;go_wp2_with (go_at_call 101;((with_reducible refine (H1.out _ aK.out).mono ?_);rintro e w1 ⟨rfl,aG⟩));go_ret;exact⟨aaK (by unfold ada;rw [if_pos Hz.out]),by have h:=aK.out;exact bE2 aG h⟩
  . by_cases hz:e2=0
    . have al:e2<=0:=by omega
      have bt:0<=e2:=by omega
      have Hz:=hid hz;clear hz;go_wp2_with (go_at_call 102;((with_reducible refine (H2.out _ aK.out).mono ?_);rintro e w1 ⟨rfl,aG⟩));go_roundw
      case rel=>exact⟨2,by omega,rfl,fun _=>Z1.out (by omega),fun _=>Hz.out,fun _=>by omega,by have h:=aK.out;exact bE2 aG h⟩
      case measure=>simp [intOf]
    . have al:e2<0∨0<e2:=by omega
      have Hz:=hid hz;clear hz;go_wp2_with (go_at_call 102;((with_reducible refine (H2.out _ aK.out).mono ?_);rintro e w1 ⟨rfl,aG⟩));go_ret;exact⟨aaK (by unfold ada;rw [if_neg (by simpa using Z1.out (by omega)),if_pos Hz.out]),by have h:=aK.out;exact bE2 aG h⟩
  . by_cases hz:e3=0
    . have al:e3<=0:=by omega
      have bt:0<=e3:=by omega
      have Hz:=hid hz;clear hz;go_wp2_with (go_at_call 103;((with_reducible refine (H3.out _ aK.out).mono ?_);rintro e w1 ⟨rfl,aG⟩));go_roundw
      case rel=>exact⟨3,by omega,rfl,fun _=>Z1.out (by omega),fun _=>Z2.out (by omega),fun _=>Hz.out,by have h:=aK.out;exact bE2 aG h⟩
      case measure=>simp [intOf]
    . have al:e3<0∨0<e3:=by omega
      have Hz:=hid hz;clear hz;go_wp2_with (go_at_call 103;((with_reducible refine (H3.out _ aK.out).mono ?_);rintro e w1 ⟨rfl,aG⟩));go_ret;exact⟨aaK (by unfold ada;rw [if_neg (by simpa using Z1.out (by omega)),if_neg (by simpa using Z2.out (by omega))]),by have h:=aK.out;exact bE2 aG h⟩
  . go_wp2_with fail
    go_ret;exact⟨aaK (by unfold ada;rw [if_neg (by simpa using Z1.out (by omega)),if_neg (by simpa using Z2.out (by omega)),Z3.out (by omega)]),by have h:=aK.out;exact bE1 h⟩
theorem aiI (W : World) (lb : Nat) (pc px pk : Value) (e1 e2 e3 : Int) (w : World)
 (H1:Hid (∀w',Below W.heap.size W w'->Calls Tryz.prog 101 #[pc,px] w' fun e aC=>e = .returned (.int .i64 e1)∧Below w'.heap.size w' aC))
 (H2:Hid (∀w',Below W.heap.size W w'->Calls Tryz.prog 102 #[pc,px] w' fun e aC=>e = .returned (.int .i64 e2)∧Below w'.heap.size w' aC))
 (H3:Hid (∀w',Below W.heap.size W w'->Calls Tryz.prog 103 #[pk,px,pc] w' fun e aC=>e = .returned (.int .i64 e3)∧Below w'.heap.size w' aC))
 (hW:Below W.heap.size W w)
 (h0:w.cell? ⟨lb,0,none⟩=some (.func (.func 101) #[] #[pc,px]))
 (h1:w.cell? ⟨lb,1,none⟩=some (.func (.func 102) #[] #[pc,px]))
 (h2:w.cell? ⟨lb,2,none⟩=some (.func (.func 103) #[] #[pk,px,pc])) :
 Calls Tryz.prog 100 #[.slice (some ⟨lb,0,none⟩) 3 3] w fun e w'=>e = .returned (.int .i64 (ada e1 e2 e3))∧Below w.heap.size w w' :=
 aof lb pc px pk e1 e2 e3 w h0 h1 h2 (fun w' h=>H1 w' (hW.trans (h.mono hW.size))) (fun w' h=>H2 w' (hW.trans (h.mono hW.size))) (fun w' h=>H3 w' (hW.trans (h.mono hW.size)))
def acv(x:aaJ):Bool :=
 (!shpD x.op&&decide (x.dst ≠ -1))||(!shpA x.op&&decide (x.a≠⟨false,0⟩))||(!shpB x.op&&decide (x.b≠⟨false,0⟩))||(decide (x.op≠20)&&(decide (x.fn≠0)||decide (0<x.args.length)))
def aga(fs:List aaz)(regs:Int)(x:aaJ):Int :=
 if ¬(1<=x.op∧x.op<=22) then 4
 else if acv x=true then 5
 else if (shpD x.op=true∧¬(x.op=20∧x.dst = -1))∧agY regs x.dst≠0 then 3
 else ada (aco regs x.a) (aco regs x.b) (adl fs regs x)
end
section
open Go.RowKit
theorem aog {op:Int}(h:1<=op∧op<=22) :
 (shpD op=true∧shpA op=true∧shpB op=false∧(decide (op<=20)&&decide (20<=op))=false) ∨
 (shpD op=true∧shpA op=true∧shpB op=true∧(decide (op<=20)&&decide (20<=op))=false) ∨
 (shpD op=false∧shpA op=true∧shpB op=true∧(decide (op<=20)&&decide (20<=op))=false) ∨
 (shpD op=true∧shpA op=false∧shpB op=false∧(decide (op<=20)&&decide (20<=op))=true) ∨
 (shpD op=true∧shpA op=false∧shpB op=false∧(decide (op<=20)&&decide (20<=op))=false) ∨
 (shpD op=false∧shpA op=true∧shpB op=false∧(decide (op<=20)&&decide (20<=op))=false):=by
 simp only [shpD,shpA,shpB,Bool.or_eq_true,Bool.or_eq_false_iff,Abg,Bool.and_eq_false_iff,decide_eq_true_eq,decide_eq_false_iff_not];omega
theorem aoh {S S' : Nat -> Prop} (ga : Option Addr) (gn gc : Nat) (fs : List aaz) (fa : Option Addr) (fc : Nat) (s : ByteArray) (p : Int) (regs : Int) (ba : Option Addr) (bn bc : Nat) (aa : Option Addr) (an ac : Nat) (x : aaJ) (ra : Option Addr) (rc : Nat) (w : World) (h0 : 0 <= regs) (h1 : regs <= 100)
 (bM:SlAt S w 4 abD (.slice fa fs.length fc) fs) (has:SlAt S' w 2 agd (.slice ra x.args.length rc) x.args) (bI:fs.length<=1048576) (_ho:I64 x.op) (_hd:I64 x.dst) (_ha:I64 x.a.n) (_hb:I64 x.b.n) (_hf:I64 x.fn) :
 Calls Tryz.prog 72 #[.agg #[.slice ga gn gc,.slice fa fs.length fc,.string s,.int .i64 p,.int .i64 regs,.slice ba bn bc,.slice aa an ac],.agg #[.int .i64 x.op,.int .i64 x.dst,.bool x.a.reg,.int .i64 x.a.n,.bool x.b.reg,.int .i64 x.b.n,.int .i64 x.fn,.slice ra x.args.length rc]] w fun e w' =>
  e = .returned (.int .i64 (aga fs regs x))∧Below w.heap.size w w':=by
 have b1:=hid bM;have Has:=hid has;obtain⟨_,_,dN,dE⟩:=has.val;cases dN;clear bM has
 by_cases hop:1<=x.op∧x.op<=22
 case neg =>
  have Hr:=hid (show aga fs regs x=4 by simp only [aga,hop];simp);go_enter Tryz.func72,Tryz.ntmps72;go_wp2_with (go_at_call 42;((with_reducible refine (aaC _ _ _ _).mono ?_);rintro e w' ⟨rfl,rfl⟩));go_ret;exact⟨aaK Hr.out.symm,bE⟩
 generalize hbad:acv x=bad;have aS:=hid hbad;clear hbad;go_enter Tryz.func72,Tryz.ntmps72;go_upto_region 5 with (first | (go_at_call 42;((with_reducible refine (aaC _ _ _ _).mono ?_);rintro e w' ⟨rfl,rfl⟩)) | (go_at_call 99;((with_reducible refine (aiM _ _).mono ?_);rintro e w1 ⟨rfl,aG⟩;obtain⟨ai,aN⟩:=aaH aG;have al:w.heap.size+1<w1.heap.size:=(by have:=aG.size;simp at this;omega);have aA:w.heap.size<w1.heap.size:=(by omega))))
 obtain⟨W,hW⟩:∃W,W=(w1.alloc (.cells #[.bool (shpD x.op),.bool (shpA x.op),.bool (shpB x.op)] 154)).alloc (.cells #[.bool (decide (x.op<=20)&&decide (20<=x.op))] 4):=⟨_,rfl⟩
 rw [<-hW];have s0:W.cell? ⟨w1.heap.size,0,none⟩=some (.bool (shpD x.op)):=by rw [hW];simp
 have s1:W.cell? ⟨w1.heap.size,1,none⟩=some (.bool (shpA x.op)):=by rw [hW];simp
 have s2:W.cell? ⟨w1.heap.size,2,none⟩=some (.bool (shpB x.op)):=by rw [hW];simp
 have s3:W.cell? ⟨w1.heap.size+1,0,none⟩=some (.bool (decide (x.op<=20)&&decide (20<=x.op))):=by rw [hW];simp
 have x0:W.cell? ⟨w.heap.size+1,0,none⟩=some (.int .i64 x.op):=by rw [hW];simp [go_sem,ai,al,aA]
 have x1:W.cell? ⟨w.heap.size+1,1,none⟩=some (.int .i64 x.dst):=by rw [hW];simp [go_sem,ai,al,aA]
 have x2:W.cell? ⟨w.heap.size+1,2,none⟩=some (.bool x.a.reg):=by rw [hW];simp [go_sem,ai,al,aA]
 have x3:W.cell? ⟨w.heap.size+1,3,none⟩=some (.int .i64 x.a.n):=by rw [hW];simp [go_sem,ai,al,aA]
 have x4:W.cell? ⟨w.heap.size+1,4,none⟩=some (.bool x.b.reg):=by rw [hW];simp [go_sem,ai,al,aA]
 have x5:W.cell? ⟨w.heap.size+1,5,none⟩=some (.int .i64 x.b.n):=by rw [hW];simp [go_sem,ai,al,aA]
 have x6:W.cell? ⟨w.heap.size+1,6,none⟩=some (.int .i64 x.fn):=by rw [hW];simp [go_sem,ai,al,aA]
 have x7:W.cell? ⟨w.heap.size+1,7,none⟩=some (.slice ra x.args.length rc):=by rw [hW];simp [go_sem,ai,al,aA]
 have c6:Below (w.heap.size+2) ((w.alloc (.cells #[.slice ga gn gc,.slice fa fs.length fc,.string s,.int .i64 p,.int .i64 regs,.slice ba bn bc,.slice aa an ac] 86)).alloc (.cells #[.int .i64 x.op,.int .i64 x.dst,.bool x.a.reg,.int .i64 x.a.n,.bool x.b.reg,.int .i64 x.b.n,.int .i64 x.fn,.slice ra x.args.length rc] 49)) W:=by
  rw [hW];exact bE1 aG
 have dj:=hid c6;have HC:Hid (aal W w.heap.size 0 [.slice ga gn gc,.slice fa fs.length fc,.string s,.int .i64 p,.int .i64 regs,.slice ba bn bc,.slice aa an ac]):=by
  rw [hW];exact .cons (by simp [go_sem,ai,aA]) (.cons (by simp [go_sem,ai,aA]) (.cons (by simp [go_sem,ai,aA]) (.cons (by simp [go_sem,ai,aA]) (.cons (by simp [go_sem,ai,aA]) (.cons (by simp [go_sem,ai,aA]) (.cons (by simp [go_sem,ai,aA]) (.nil _ _ _)))))))
 have z1:w.heap.size+1<W.heap.size:=by rw [hW];simp;omega
 have z2:w1.heap.size+1<W.heap.size:=by rw [hW];simp
 clear c6 hW ai aN aG al aA;generalize w1.heap.size=sb at *;have hb:=aS.out;unfold acv at hb;have cD:bad=((!shpD x.op&&(decide (x.dst < -1)||decide (-1<x.dst)))||(!shpA x.op&&(x.a.reg||(decide (x.a.n<0)||decide (0<x.a.n))))||(!shpB x.op&&(x.b.reg||(decide (x.b.n<0)||decide (0<x.b.n))))||(!(decide (x.op<=20)&&decide (20<=x.op))&&((decide (x.fn<0)||decide (0<x.fn))||decide (0<x.args.length)))):=by
  have v0:∀v:aay,decide (v≠⟨false,0⟩)=(v.reg||(decide (v.n<0)||decide (0<v.n))):=fun⟨r,n⟩=>by
   rw [Abe];cases r <;> simp <;> omega
  have i0:∀a b:Int,decide (a≠b)=(decide (a<b)||decide (b<a)):=fun a b=>by rw [Abe];simp;omega
  have i1:∀a b:Int,(decide (a<b)||decide (b<a))=!(decide (a<=b)&&decide (b<=a)):=fun a b=>by rw [Abe];simp;omega
  rw [<-hb,v0,v0,i0,i0,i0,i1 x.op 20]
 have cB:=aog hop;clear hb;obtain⟨D,hD⟩:∃D,shpD x.op=D:=⟨_,rfl⟩
 obtain⟨A,hA⟩:∃A,shpA x.op=A:=⟨_,rfl⟩
 obtain⟨B,hB⟩:∃B,shpB x.op=B:=⟨_,rfl⟩
 obtain⟨kz,bj⟩:∃kz,(decide (x.op<=20)&&decide (20<=x.op))=kz:=⟨_,rfl⟩
 obtain⟨dz,bW⟩:∃dz,(decide (x.dst < -1)||decide (-1<x.dst))=dz:=⟨_,rfl⟩
 obtain⟨az,dh⟩:∃az,(x.a.reg||(decide (x.a.n<0)||decide (0<x.a.n)))=az:=⟨_,rfl⟩
 obtain⟨bz,dg⟩:∃bz,(x.b.reg||(decide (x.b.n<0)||decide (0<x.b.n)))=bz:=⟨_,rfl⟩
 obtain⟨fz,dm⟩:∃fz,(decide (x.fn<0)||decide (0<x.fn))=fz:=⟨_,rfl⟩
 obtain⟨lz,cT⟩:∃lz,decide (0<x.args.length)=lz:=⟨_,rfl⟩
 rw [hD,hA,hB,bj,bW,dh,dg,dm,cT] at cD;rw [hD,hA,hB,bj] at cB;rw [hD] at s0;rw [hA] at s1;rw [hB] at s2;rw [bj] at s3;have cO:=hid cD;have HD:=hid hD;have bX:=hid bj;clear cD hD hA hB bj;go_cut [62] from 8 to 62 (fun v wc=>v = .bool bad∧W=wc)
 case first =>
  clear b1 Has dj dE z1 z2 HD bX aS HC;rcases cB with⟨rfl,rfl,rfl,rfl⟩ | ⟨rfl,rfl,rfl,rfl⟩ | ⟨rfl,rfl,rfl,rfl⟩ | ⟨rfl,rfl,rfl,rfl⟩ | ⟨rfl,rfl,rfl,rfl⟩ | ⟨rfl,rfl,rfl,rfl⟩
  all_goals
   go_wp2_with fail
  all_goals
   go_meet;refine⟨congrArg Value.bool ?_,rfl⟩;rw [cO.out];simp [*]
 case rest =>
  obtain⟨rfl,rfl⟩:=hcut;clear bW dh dg dm cT cB cO;have ck:Below w.heap.size w W:=(bE:Below w.heap.size w ((w.alloc (.cells #[.slice ga gn gc,.slice fa fs.length fc,.string s,.int .i64 p,.int .i64 regs,.slice ba bn bc,.slice aa an ac] 86)).alloc (.cells #[.int .i64 x.op,.int .i64 x.dst,.bool x.a.reg,.int .i64 x.a.n,.bool x.b.reg,.int .i64 x.b.n,.int .i64 x.fn,.slice ra x.args.length rc] 49))).trans (dj.out.mono (by omega));have aW:=hid ck;cases bad
  case true =>
   have Hr:=hid (show aga fs regs x=5 by simp only [aga,hop,aS.out];simp);clear ck;go_wp2_with fail;go_ret;exact⟨aaK Hr.out.symm,by have h:=aW.out;exact bE1 h⟩
  have b3:kz=decide (x.op=20):=by rw [<-bX.out,Abe];simp;omega
  have cM:Hid (∀w',Below W.heap.size W w'->Calls Tryz.prog 101 #[.pointer (some ⟨w.heap.size,0,none⟩),.pointer (some ⟨w.heap.size+1,0,none⟩)] w' fun e aC=>e = .returned (.int .i64 (aco regs x.a))∧Below w'.heap.size w' aC) :=
   fun w' h=>aq3 _ _ _ _ _ _ regs _ _ _ _ _ _ x.a w' h0 h1 _ _ _ _ _ _ _ _ rfl rfl rfl rfl (HC.out.later h) (aab x2 h) (aab x3 h)
  have cV:Hid (∀w',Below W.heap.size W w'->Calls Tryz.prog 102 #[.pointer (some ⟨w.heap.size,0,none⟩),.pointer (some ⟨w.heap.size+1,0,none⟩)] w' fun e aC=>e = .returned (.int .i64 (aco regs x.b))∧Below w'.heap.size w' aC) :=
   fun w' h=>aq4 _ _ _ _ _ _ regs _ _ _ _ _ _ x.b w' h0 h1 _ _ _ _ _ _ _ _ rfl rfl rfl rfl (HC.out.later h) (aab x4 h) (aab x5 h)
  have cI:Hid (∀w',Below W.heap.size W w'->Calls Tryz.prog 103 #[.pointer (some ⟨sb+1,0,none⟩),.pointer (some ⟨w.heap.size+1,0,none⟩),.pointer (some ⟨w.heap.size,0,none⟩)] w' fun e aC=>e = .returned (.int .i64 (adl fs regs x))∧Below w'.heap.size w' aC) :=
   fun w' h=>aq5 _ _ _ _ _ _ fs regs _ _ _ _ _ _ x w' h0 h1 _ _ _ _ _ _ _ _ _ rfl rfl rfl (HC.out.later h) (by rw [<-b3];exact aab s3 h) (aab x6 h) (aab x7 h) ((b1.out.later aaG aW.out).later aaG h) ((Has.out.later aaN aW.out).later aaN h) bI
  obtain⟨y0,y1,y2,y3,y4,y5,y6⟩:=HC.out.get7;simp only [Aab] at y1 y2 y3 y4 y5 y6;have z0:w.heap.size<W.heap.size:=by omega
  clear ck b3;have bZ:∀d:Bool,d=(D&&!(kz&&(decide (x.dst <= -1)&&decide (-1<=x.dst))))->((shpD x.op=true∧¬(x.op=20∧x.dst = -1))↔d=true):=by
   intro d hd;rw [hd,HD.out,<-bX.out];simp;omega
  have aT:=hid bZ;clear bZ;obtain⟨ez,dv⟩:∃ez,(decide (x.dst <= -1)&&decide (-1<=x.dst))=ez:=⟨_,rfl⟩
  rw [dv] at aT;have bW:D=true∨D=false:=by cases D <;> simp
  have bj:kz=true∨kz=false:=by cases kz <;> simp
  by_cases hgo:(D&&!(kz&&ez))=true
  . have aI:aga fs regs x=if agY regs x.dst≠0 then 3 else ada (aco regs x.a) (aco regs x.b) (adl fs regs x):=by
     simp only [aga,hop,aS.out,(aT.out _ rfl).2 hgo];simp
    have a1:(D=true∧kz=false)∨(D=true∧kz=true∧ez=false):=by revert hgo;cases D <;> cases kz <;> cases ez <;> simp
    clear hgo bW bj aT HD bX
    by_cases hd:agY regs x.dst=0
    . have aX:=hid (show aga fs regs x=ada (aco regs x.a) (aco regs x.b) (adl fs regs x) by rw [aI,hd];simp)
      clear aI;rcases a1 with⟨rfl,rfl⟩ | ⟨rfl,rfl,rfl⟩
      all_goals
       go_wp2_with (first | (go_at_call 98;((with_reducible refine (ahv _ _ _ _ _ _ _ _ _ h0 h1).mono ?_);rintro e w2 ⟨rfl,ad⟩)) | (go_at_call 100;((with_reducible refine (aiI W _ _ _ _ (aco regs x.a) (aco regs x.b) (adl fs regs x) _ cM cV cI ?_ ?_ ?_ ?_).mono ?_);exact bE1 ad;simp;simp;simp;rintro e w3 ⟨rfl,cf⟩)));go_ret;exact⟨aaK aX.out.symm,by have h:=aW.out;exact bE3 cf ad h⟩
    . have du:agY regs x.dst=3:=(apr _ _).resolve_left hd
      have aX:=hid (show aga fs regs x=3 by rw [aI,du];simp);clear aI hd;rcases a1 with⟨rfl,rfl⟩ | ⟨rfl,rfl,rfl⟩
      all_goals
       go_wp2_with (go_at_call 98;((with_reducible refine (ahv _ _ _ _ _ _ _ _ _ h0 h1).mono ?_);rintro e w2 ⟨rfl,ad⟩));go_ret;exact⟨aaK aX.out.symm,by have h:=aW.out;exact bE2 ad h⟩
  . have aI:aga fs regs x=ada (aco regs x.a) (aco regs x.b) (adl fs regs x):=by
     have:¬(shpD x.op=true∧¬(x.op=20∧x.dst = -1)):=fun h=>hgo ((aT.out _ rfl).1 h);simp only [aga,hop,aS.out,this];simp
    have aX:=hid aI;clear aI;have a1:D=false∨(D=true∧kz=true∧ez=true):=by revert hgo;cases D <;> cases kz <;> cases ez <;> simp
    clear hgo bW bj aT HD bX;rcases a1 with rfl | ⟨rfl,rfl,rfl⟩
    all_goals
     go_wp2_with (go_at_call 100;((with_reducible refine (aiI W _ _ _ _ (aco regs x.a) (aco regs x.b) (adl fs regs x) _ cM cV cI ?_ ?_ ?_ ?_).mono ?_);exact bE;simp;simp;simp;rintro e w3 ⟨rfl,cf⟩));go_ret;exact⟨aaK aX.out.symm,by have h:=aW.out;exact bE2 cf h⟩
end
section
open Go.RowKit
def ab5 (e : Nat -> Int) : Nat -> Int
 | 0=>0
 | n+1=>if ab5 e n≠0 then ab5 e n else e n
variable {e:Nat->Int}{n:Nat}
theorem abz(h:∀j,j<n->e j=0):ab5 e n=0:=by
 induction n with
 | zero=>rfl
 | succ n ih=>rw [ab5,ih (fun j hj=>h j (by omega)),if_neg (by simp)];exact h n (by omega)
theorem aep{k:Nat}(h:∀j,j<k->e j=0)(hk:k<n)(he:e k≠0):ab5 e n=e k:=by
 induction n with
 | zero=>omega
 | succ n ih =>
   rw [ab5];rcases Abk.1 hk with h1 | h1
   . rw [ih h1,if_pos he]
   . subst h1;rw [abz h,if_neg (by simp)]
theorem aeQ(h:ab5 e n=0):∀j,j<n->e j=0:=by
 induction n with
 | zero=>intro j hj;omega
 | succ n ih =>
   rw [ab5] at h
   by_cases h1:ab5 e n=0
   . rw [if_neg (by simpa using h1)] at h
     exact abY (ih h1) h
   . rw [if_pos h1] at h;exact absurd h h1
theorem ahs{regs:Int}{e:asX}(h:afz n regs e=0) :
 1<=e.kind∧e.kind<=3∧(e.to.length:Int)=e.kind - 1∧(∀t∈e.to,1<=t∧t<=(n:Int) - 1)∧¬(e.kind=3∧e.to.getD 0 0=e.to.getD 1 0)∧aco regs e.on=0:=by
 unfold afz at h
 by_cases h1:1<=e.kind∧e.kind<=3
 case neg=>rw [if_pos h1] at h;omega
 rw [if_neg (by simpa using h1)] at h
 by_cases h2:(e.to.length:Int)=e.kind - 1
 case neg=>rw [if_pos h2] at h;omega
 rw [if_neg (by simpa using h2)] at h
 by_cases h3:e.to.any (ae0 n)=true
 . rw [if_pos h3] at h;omega
 rw [if_neg h3] at h
 by_cases h4:(e.kind=3∧e.to.getD 0 0=e.to.getD 1 0)∨(e.kind=2∧e.on≠⟨false,0⟩)
 . rw [if_pos h4] at h;omega
 rw [if_neg h4] at h;refine⟨h1.1,h1.2,h2,fun t ht=>?_,fun h=>h4 (.inl h),h⟩;have:ae0 n t≠true:=fun hb=>h3 (List.any_eq_true.2 ⟨t,ht,hb⟩);simpa [ae0] using this
def agb(regs:Int)(bs:List DBlock)(k:Nat):Int:=match bs[k]? with | some b=>afz bs.length regs b.fin | none=>0
def agP(regs:Int)(bs:List DBlock)(i:Nat)(b:DBlock)(k:Nat):Int:=match b.phis[k]? with | some p=>ajG regs i (aheadF bs) p | none=>0
def ajm(fs:List aaz)(regs:Int)(b:DBlock)(k:Nat):Int:=match b.list[k]? with | some x=>aga fs regs x | none=>0
def aeh(fs:List aaz)(regs:Int)(bs:List DBlock)(k:Nat):Int :=
 match bs[k]? with
 | some b=>if ab5 (agP regs bs k b) b.phis.length≠0 then ab5 (agP regs bs k b) b.phis.length else ab5 (ajm fs regs b) b.list.length
 | none=>0
def ady(fs:List aaz)(f:aaz):Int :=
 if ab5 (agb f.regs f.blocks) f.blocks.length≠0 then ab5 (agb f.regs f.blocks) f.blocks.length
 else ab5 (aeh fs f.regs f.blocks) f.blocks.length
theorem amb {S S' : Nat -> Prop} (ga : Option Addr) (gn gc : Nat) (fs : List aaz) (fa : Option Addr) (fc : Nat) (f : aaz) (ba : Option Addr) (bc : Nat) (aa : Option Addr) (an ac : Nat) (w : World) (h0 : 0 <= f.regs) (h1 : f.regs <= 100)
 (bM:SlAt S w 4 abD (.slice fa fs.length fc) fs) (bm:SlAt S' w 6 aa0 (.slice ba f.blocks.length bc) f.blocks) (bI:fs.length<=1048576) (aY:f.blocks.length<=1048576) (hw:ae1 w) :
 Calls Tryz.prog 44 #[.agg #[.slice ga gn gc,.slice fa fs.length fc,.string f.name,.int .i64 f.params,.int .i64 f.regs,.slice ba f.blocks.length bc,.slice aa an ac]] w fun e w' =>
  e = .returned (.int .i64 (ady fs f))∧Below w.heap.size w w':=by
 have b1:=hid bM;have aP:=hid bm;have Hw:=hid hw;clear bM bm hw;obtain⟨regs,aV⟩:∃r,r=f.regs:=⟨_,rfl⟩
 obtain⟨bs,bC⟩:∃b,b=f.blocks:=⟨_,rfl⟩
 rw [<-aV] at h0 h1 ⊢;rw [<-bC] at aP aY ⊢;have aM:=hid aV;have a7:=hid bC;clear aV bC;have c8:∀o,Below w.heap.size w (w.alloc o):=fun o=>by exact bE
 have dw:=hid c8;clear c8;go_enter Tryz.func44,Tryz.ntmps44;go_wp2_with fail;go_loopw [18] (fun i wr=>∃k:Nat,k<=bs.length∧i = .int .i64 k∧(∀j,j<k->agb regs bs j=0)∧Below (w.heap.size+1) (w.alloc (.cells #[.slice ga gn gc,.slice fa fs.length fc,.string f.name,.int .i64 f.params,.int .i64 regs,.slice ba bs.length bc,.slice aa an ac] 86)) wr) (fun i _=>bs.length - (intOf i).toNat)
 case atStart=>exact⟨0,Aaj _,rfl,fun j hj=>by omega,Below.refl _ _⟩
 case round =>
  obtain⟨k,hk,rfl,ah,av⟩:=hrel;have aD:=hid ah;have b7:Below w.heap.size w wr:=(dw.out _).trans (av.mono (by omega));obtain⟨ai,aN⟩:=aaH av;have al:w.heap.size<wr.heap.size:=by have:=av.size;simp at this;omega
  have aj:=hid b7;have cj:=hid av;clear ah av
  by_cases af:k<bs.length
  . obtain⟨b,off,cs,rfl,hS,hx,-,ar⟩:=aP.out.get af
    obtain⟨pa,pc,la,lc,ta,tc,rfl,-,-,dr,dG,cx,dH,-,-⟩:=hx.opens;obtain⟨c0,c1,c2,c3,c4,c5⟩:=(ar.later b7).get6;have cP:=hid dr;clear ar hx dr b7;have he:agb regs bs k=afz bs.length regs bs[k].fin:=by unfold agb;rw [Aaa af]
    have He:=hid he;clear he
    by_cases hz:afz bs.length regs bs[k].fin=0
    . go_wp2_with (go_at_call 69;go_must ((with_reducible refine (aoj (S:=S') _ _ _ _ regs _ bs.length _ _ _ _ _ _ bs[k].fin.to _ h0 h1 (by omega) ?_ ?_).mono ?_);exact ae1.below Hw.out (by have h:=aj.out;exact bE1 h);refine cP.out.later aaw ?_;have h:=aj.out;exact bE1 h;rintro e w2 ⟨rfl,ad⟩))
      go_roundw
      case rel=>exact⟨k+1,by omega,by go_num,abY aD.out (He.out.trans hz),by have h:=cj.out;exact bE2 ad h⟩
      case measure=>simp [intOf];omega
    . have cb:=aex hz
      have Hr:Hid (ady fs f=afz bs.length regs bs[k].fin):=by
       have h:=aep aD.out af (by rw [He.out];exact hz);unfold ady;rw [<-aM.out,<-a7.out,h,He.out];exact if_pos hz
      clear hz;go_wp2_with (go_at_call 69;go_must ((with_reducible refine (aoj (S:=S') _ _ _ _ regs _ bs.length _ _ _ _ _ _ bs[k].fin.to _ h0 h1 (by omega) ?_ ?_).mono ?_);exact ae1.below Hw.out (by have h:=aj.out;exact bE1 h);refine cP.out.later aaw ?_;have h:=aj.out;exact bE1 h;rintro e w2 ⟨rfl,ad⟩));go_ret;exact⟨aaK Hr.out.symm,by have h:=aj.out;exact bE2 ad h⟩
  . obtain rfl:k=bs.length:=by omega
    have bK:Hid (∀(j:Nat) (x:DBlock),bs[j]?=some x->afz bs.length regs x.fin=0):=fun j x hx=>by
     have hj:=(Aad.1 hx).1;have:=aD.out j hj;unfold agb at this;rw [hx] at this;exact this
    have cp:=hid (abz aD.out);clear b7;go_wp2_with (go_at_call 70;go_must ((with_reducible refine (aoq (S:=S') _ _ _ _ _ bs _ ?_ aY ?_).mono ?_);exact aP.out.later aat aj.out;exact fun j x hx=>⟨by have:=ahs (bK.out j x hx);omega,fun t ht=>by have:=(ahs (bK.out j x hx)).2.2.2.1 t ht;omega⟩;rintro e w2 ⟨v,rfl,cc,ad⟩;obtain⟨va,vc,rfl,dU⟩:=cc.val;have dt:=hid cc;clear cc;obtain⟨aH,a8⟩:=aaH ad;have bt:w.heap.size<w2.heap.size:=(by have:=ad.size;omega);have dD:=hid ad;clear ad));have cZ:Hid ((aheadF bs).length=bs.length):=by simp [aheadF,Hid]
    obtain⟨W,hW⟩:∃W,W=w2.setCell ⟨w.heap.size,6,none⟩ (.slice va (aheadF bs).length vc):=⟨_,rfl⟩
    rw [<-hW];have HC:Hid (aal W w.heap.size 0 [.slice ga gn gc,.slice fa fs.length fc,.string f.name,.int .i64 f.params,.int .i64 regs,.slice ba bs.length bc,.slice va (aheadF bs).length vc]):=by
     rw [hW];exact .cons (by simp [go_sem,aH,al,ai]) (.cons (by simp [go_sem,aH,al,ai]) (.cons (by simp [go_sem,aH,al,ai]) (.cons (by simp [go_sem,aH,al,ai]) (.cons (by simp [go_sem,aH,al,ai]) (.cons (by simp [go_sem,aH,al,ai]) (.cons (by simp [go_sem,aH,al,ai]) (.nil _ _ _)))))))
    have HW:Hid (Below w.heap.size w W):=by
     rw [hW];exact (aj.out.trans (dD.out.mono (by omega))).setCell (Aac _) _
    have bL:Hid (SlAt (fun b=>wr.heap.size<=b) W 1 rRow (.slice va (aheadF bs).length vc) (aheadF bs)):=by
     rw [hW];exact dt.out.mono acX (fun _ h=>h) (fun b o v hb hc=>by rw [World.cell?_of_block (w:=w2) (Below.heap_setCell _ _ _ _ (by dsimp only;omega))];exact hc)
    have aE:w.heap.size<W.heap.size:=by rw [hW];simp [World.setCell];omega
    clear hW ai aH aN a8 al bt dt;obtain⟨S2,bY⟩:∃S2,Hid (SlAt S2 W 1 rRow (.slice va (aheadF bs).length vc) (aheadF bs)):=⟨_,bL⟩
    clear bL;go_loopw [38] (fun i wr=>∃k:Nat,k<=bs.length∧i = .int .i64 k∧(∀j,j<k->aeh fs regs bs j=0)∧Below W.heap.size W wr) (fun i _=>bs.length - (intOf i).toNat)
    case atStart=>exact⟨0,Aaj _,rfl,fun j hj=>by omega,Below.refl _ _⟩
    case round =>
     obtain⟨wq,rfl⟩:∃wq:World,wq=wr:=⟨_,rfl⟩
     obtain⟨k,hk,rfl,ah,av⟩:=hrel;have ak:=hid ah;have cA:=hid av;have b0:Below w.heap.size w wq:=HW.out.trans (av.mono (by omega));have cv:w.heap.size<wq.heap.size:=by have:=av.size;omega
     clear ah
     by_cases af:k<bs.length
     . obtain⟨b,off,cs,rfl,hS,hx,-,ar⟩:=aP.out.get af
       obtain⟨pa,pc,la,lc,ta,tc,rfl,dk,dd,-,dG,cx,dH,-,-⟩:=hx.opens;obtain⟨c0,c1,c2,c3,c4,c5⟩:=(ar.later b0).get6;have cN:Hid (k<(aheadF bs).length):=by rw [cZ.out];exact af
       have dp:Hid ((aheadF bs).length<=1048576):=by rw [cZ.out];exact aY
       have dO:=hid dk;have dL:=hid dd;have bd:=hid b0;have He:Hid (aeh fs regs bs k=if ab5 (agP regs bs k bs[k]) bs[k].phis.length≠0 then ab5 (agP regs bs k bs[k]) bs[k].phis.length else ab5 (ajm fs regs bs[k]) bs[k].list.length):=by
        show aeh fs regs bs k=_;unfold aeh;rw [Aaa af]
       clear ar hx dk dd b0 av;go_wp2_with fail;obtain⟨X,hX⟩:∃X,X=wq.alloc (.cells #[.slice pa bs[k].phis.length pc,.slice la bs[k].list.length lc,.int .i64 bs[k].fin.kind,.bool bs[k].fin.on.reg,.int .i64 bs[k].fin.on.n,.slice ta bs[k].fin.to.length tc] 46):=⟨_,rfl⟩
       rw [<-hX];have dK:Hid (X.cell? ⟨wq.heap.size,1,none⟩=some (.slice la bs[k].list.length lc)):=by rw [hX];simp [Hid]
       have b8:Hid (Below W.heap.size W X):=by rw [hX];have h:=cA.out;exact h.alloc (by have:=h.size;omega) _
       have b9:Hid (Below w.heap.size w X):=by rw [hX];have h:=bd.out;exact h.alloc (by have:=h.size;omega) _
       have bq:wq.heap.size<X.heap.size:=by rw [hX];simp
       clear hX c0 c1 c2 c3 c4 c5;go_loopw [46] (fun i wr=>∃j:Nat,j<=bs[k].phis.length∧i = .int .i64 j∧(∀j',j'<j->agP regs bs k bs[k] j'=0)∧Below X.heap.size X wr) (fun i _=>bs[k].phis.length - (intOf i).toNat)
       case atStart=>exact⟨0,Aaj _,rfl,fun j hj=>by omega,Below.refl _ _⟩
       case round =>
        obtain⟨j,hj,rfl,aF,aZ⟩:=hrel;have ay:=hid aF;have ca:=hid aZ;have bJ:Hid (Below W.heap.size W wr):=b8.out.trans (aZ.mono (b8.out.size));have aR:Hid (Below w.heap.size w wr):=b9.out.trans (aZ.mono (b9.out.size));obtain⟨y0,y1,y2,y3,y4,y5,y6⟩:=(HC.out.later bJ.out).get7;simp only [Aab] at y1 y2 y3 y4 y5 y6;have b4:w.heap.size<wr.heap.size:=aac y0;have dy:=aab dK.out aZ;clear aF aZ
        by_cases hjl:j<bs[k].phis.length
        . obtain⟨b2,cy,cs,rfl,-,hx,-,ar⟩:=dO.out.get hjl
          obtain⟨sa,sc,rfl,bV,b5,dJ⟩:=hx.opens;obtain⟨d0,d1⟩:=(ar.later aR.out).get2;have bP:=hid bV;have br:Hid (agP regs bs k bs[k] j=ajG regs k (aheadF bs) bs[k].phis[j]):=by
           show agP regs bs k bs[k] j=_;unfold agP;rw [Aaa hjl]
          clear ar hx bV
          by_cases hz:ajG regs k (aheadF bs) bs[k].phis[j]=0
          . go_wp2_with (go_at_call 71;go_must ((with_reducible refine (aps (S:=S2) (S':=S') _ _ _ _ _ _ _ _ regs _ _ _ _ _ (aheadF bs) bs[k].phis[j] _ _ k _ h0 h1 ?_ ?_ cN.out dp.out).mono ?_);refine bY.out.later acX ?_;have h:=bJ.out;exact bE1 h;refine bP.out.later aaN ?_;have h:=aR.out;exact bE1 h;rintro e w4 ⟨rfl,bA⟩))
            go_roundw
            case rel=>exact⟨j+1,by omega,by go_num,abY ay.out (br.out.trans hz),by have h:=ca.out;exact bE2 bA h⟩
            case measure=>simp [intOf];omega
          . have cb:=aex hz
            have Hr:Hid (ady fs f=ajG regs k (aheadF bs) bs[k].phis[j]):=by
             have h:=aep ay.out hjl (by rw [br.out];exact hz);rw [br.out] at h;have h2:aeh fs regs bs k=ajG regs k (aheadF bs) bs[k].phis[j]:=by rw [He.out,h];exact if_pos hz
             have h3:=aep ak.out af (by rw [h2];exact hz);show ady fs f=_;unfold ady;rw [<-aM.out,<-a7.out,cp.out,h3,h2];exact if_neg (by simp)
            clear hz;go_wp2_with (go_at_call 71;go_must ((with_reducible refine (aps (S:=S2) (S':=S') _ _ _ _ _ _ _ _ regs _ _ _ _ _ (aheadF bs) bs[k].phis[j] _ _ k _ h0 h1 ?_ ?_ cN.out dp.out).mono ?_);refine bY.out.later acX ?_;have h:=bJ.out;exact bE1 h;refine bP.out.later aaN ?_;have h:=aR.out;exact bE1 h;rintro e w4 ⟨rfl,bA⟩));go_ret;exact⟨aaK Hr.out.symm,by have h:=aR.out;exact bE2 bA h⟩
        . obtain rfl:j=bs[k].phis.length:=by omega
          have cL:=hid (abz ay.out);go_wp2_with fail;obtain⟨wp,rfl⟩:∃wp:World,wp=wr:=⟨_,rfl⟩
          clear y0 y1 y2 y3 y4 y5 y6 dy;go_loopw [61] (fun i wr=>∃j:Nat,j<=bs[k].list.length∧i = .int .i64 j∧(∀j',j'<j->ajm fs regs bs[k] j'=0)∧Below X.heap.size X wr) (fun i _=>bs[k].list.length - (intOf i).toNat)
          case atStart=>exact⟨0,Aaj _,rfl,fun j hj=>by omega,ca.out⟩
          case round =>
           obtain⟨j,hj,rfl,aF,aZ⟩:=hrel;have aQ:=hid aF;have ca:=hid aZ;have bJ:Hid (Below W.heap.size W wr):=b8.out.trans (aZ.mono (b8.out.size));have aR:Hid (Below w.heap.size w wr):=b9.out.trans (aZ.mono (b9.out.size));obtain⟨y0,y1,y2,y3,y4,y5,y6⟩:=(HC.out.later bJ.out).get7;simp only [Aab] at y1 y2 y3 y4 y5 y6;have b4:w.heap.size<wr.heap.size:=aac y0;clear aF aZ
           by_cases hjl:j<bs[k].list.length
           . obtain⟨b2,cy,cs,rfl,-,hx,-,ar⟩:=dL.out.get hjl
             obtain⟨sa,sc,rfl,bg,b5,ds,cW,cY,da,cJ⟩:=hx.opens;obtain⟨d0,d1,d2,d3,d4,d5,d6,d7⟩:=(ar.later aR.out).get8;have bf:=hid bg;have de:=hid ds;have c9:=hid cW;have c7:=hid cY;have df:=hid da;have cQ:=hid cJ;have br:Hid (ajm fs regs bs[k] j=aga fs regs bs[k].list[j]):=by
              show ajm fs regs bs[k] j=_;unfold ajm;rw [Aaa hjl]
             clear ar hx bg ds cW cY da cJ
             by_cases hz:aga fs regs bs[k].list[j]=0
             . go_wp2_with (go_at_call 72;go_must ((with_reducible refine (aoh (S:=S) (S':=S') _ _ _ fs _ _ _ _ regs _ _ _ _ _ _ bs[k].list[j] _ _ _ h0 h1 ?_ ?_ bI de.out c9.out c7.out df.out cQ.out).mono ?_);refine b1.out.later aaG ?_;have h:=aR.out;exact bE1 h;refine bf.out.later aaN ?_;have h:=aR.out;exact bE1 h;rintro e w4 ⟨rfl,bA⟩))
               go_roundw
               case rel=>exact⟨j+1,by omega,by go_num,abY aQ.out (br.out.trans hz),by have h:=ca.out;exact bE2 bA h⟩
               case measure=>simp [intOf];omega
             . have cb:=aex hz
               have Hr:Hid (ady fs f=aga fs regs bs[k].list[j]):=by
                have h:=aep aQ.out hjl (by rw [br.out];exact hz);rw [br.out] at h;have h2:aeh fs regs bs k=aga fs regs bs[k].list[j]:=by rw [He.out,cL.out,if_neg (by simp),h]
                have h3:=aep ak.out af (by rw [h2];exact hz);show ady fs f=_;unfold ady;rw [<-aM.out,<-a7.out,cp.out,h3,h2];exact if_neg (by simp)
               clear hz;go_wp2_with (go_at_call 72;go_must ((with_reducible refine (aoh (S:=S) (S':=S') _ _ _ fs _ _ _ _ regs _ _ _ _ _ _ bs[k].list[j] _ _ _ h0 h1 ?_ ?_ bI de.out c9.out c7.out df.out cQ.out).mono ?_);refine b1.out.later aaG ?_;have h:=aR.out;exact bE1 h;refine bf.out.later aaN ?_;have h:=aR.out;exact bE1 h;rintro e w4 ⟨rfl,bA⟩));go_ret;exact⟨aaK Hr.out.symm,by have h:=aR.out;exact bE2 bA h⟩
           . obtain rfl:j=bs[k].list.length:=by omega
             have dP:Hid (aeh fs regs bs k=0):=by
              show aeh fs regs bs k=0;rw [He.out,cL.out,if_neg (by simp)];exact abz aQ.out
             go_wp2_with fail;go_roundw
             case rel=>exact⟨k+1,by omega,by go_num,abY ak.out dP.out,bJ.out⟩
             case measure=>simp [intOf];omega
     . obtain rfl:k=bs.length:=by omega
       have Hr:Hid (ady fs f=0):=by
        show ady fs f=0;unfold ady;rw [<-aM.out,<-a7.out,cp.out,if_neg (by simp)];exact abz ak.out
       have bd:=hid b0;clear b0 av;go_wp2_with fail;go_ret;exact⟨aaK Hr.out.symm,bd.out⟩
end
section
open Go.RowKit
theorem abC(c a:Int)(w:World) :
 Calls Tryz.prog 20 #[.int .i64 c,.int .i64 a] w fun e w'=>e = .returned (.agg #[.int .i64 c,.int .i64 a])∧Below w.heap.size w w':=by
 go_enter Tryz.func20,Tryz.ntmps20;go_wp2;refine bodyPost_ret (v:=_) ?_ rfl ⟨rfl,?_⟩
 . simp [results,Tryz.results20,go_sem]
 . exact bE
theorem adz {fn : Func} {t : Nat} (dB : fn.results = #[.cell t 27]) {tmps : Array Value} {b : Nat} (ht : tmps.getD t undef = .pointer (some ⟨b, 0, none⟩)) {c a : Int} {W : World}
 (h0:W.cell? ⟨b,0,none⟩=some (.int .i64 c)) (h1:W.cell? ⟨b,1,none⟩=some (.int .i64 a)):(results fn tmps).run Tryz.prog W = .ok (.agg #[.int .i64 c,.int .i64 a]) W:=by
 simp only [Acl] at ht;simp [results,dB,ht,go_sem,h0,h1]
theorem acw {w:World}{b:Nat}{x y u v:Value}(h0:w.cell? ⟨b,0,none⟩=some x)(h1:w.cell? ⟨b,1,none⟩=some y) :
 ((w.setCell ⟨b,0,none⟩ u).setCell ⟨b,1,none⟩ v).cell? ⟨b,0,none⟩=some u∧((w.setCell ⟨b,0,none⟩ u).setCell ⟨b,1,none⟩ v).cell? ⟨b,1,none⟩=some v:=by
 simp only [World.cell?] at h0 h1;cases hh:w.heap[b]? with
 | none=>rw [hh] at h0;cases h0
 | some o =>
   rw [hh] at h0 h1;cases o with
   | cells c e fr =>
     simp only [World.cell?,World.setCell,Array.getElem?_modify,hh];simp at h0 h1;have l0:=(Aag.1 h0).1;have l1:=(Aag.1 h1).1;simp [l0,l1]
   | _=>simp at h0
def aht(f:aaz):Bool:=f.name.toList == [109,97,105,110]
theorem aiJ(s:ByteArray)(p r:Int)(ba:Option Addr)(n c:Nat)(w:World) :
 Calls Tryz.prog 46 #[.agg #[.string s,.int .i64 p,.int .i64 r,.slice ba n c]] w fun e w'=>e = .returned (.bool (s.toList == [109,97,105,110]))∧Below w.heap.size w w':=by
 go_enter Tryz.func46,Tryz.ntmps46;go_wp2;go_ret;exact⟨rfl,bE⟩
def abw(fs:List aaz):Int:=match fs.findIdx? aht with | some k=>k | none => -1
theorem ad0 {S:Nat->Prop}(fa:Option Addr)(fc:Nat)(fs:List aaz)(w:World)(h:SlAt S w 4 abD (.slice fa fs.length fc) fs)(hm:fs.length<=1048576) :
 Calls Tryz.prog 45 #[.slice fa fs.length fc,.func (.func 46) #[] #[]] w fun e w'=>e = .returned (.int .i64 (abw fs))∧Below w.heap.size w w':=by
 have Hh:=hid h;clear h;go_enter Tryz.func45,Tryz.ntmps45;go_wp2_with fail;go_loopw [8] (fun i wr=>∃k:Nat,k<=fs.length∧i = .int .i64 k∧(∀j,j<k->∀x,fs[j]?=some x->aht x=false)∧Below w.heap.size w wr) (fun i _=>fs.length - (intOf i).toNat)
 case atStart=>exact⟨0,Aaj _,rfl,fun j hj=>by omega,Below.refl _ _⟩
 case round =>
  obtain⟨k,hk,rfl,ah,hb⟩:=hrel;have H:=hid ah;have Hb:=hid hb;clear ah
  by_cases af:k<fs.length
  . obtain⟨b,off,cs,rfl,-,hx,-,ar⟩:=Hh.out.get af
    obtain⟨ba,bc,rfl,-,-,-,-⟩:=hx.opens;obtain⟨c0,c1,c2,c3⟩:=(ar.later hb).get4;clear ar hx hb
    by_cases he:aht fs[k]=true
    . have hi:abw fs=k:=by unfold abw;rw [ad3 (Aaa af) he H.out]
      have dM:(fs[k].name.toList == [109,97,105,110])=true:=he;have Hi:=hid hi;clear hi he;go_wp2_with (go_at_call 46;((with_reducible refine (aiJ _ _ _ _ _ _ _).mono ?_);rintro e w2 ⟨rfl,ad⟩));go_ret;exact⟨aaK Hi.out.symm,by have h:=Hb.out;exact bE2 ad h⟩
    . have cG:aht fs[k]=false:=by simpa using he
      have dM:(fs[k].name.toList == [109,97,105,110])=false:=cG;have He:=hid cG;clear cG he;go_wp2_with (go_at_call 46;((with_reducible refine (aiJ _ _ _ _ _ _ _).mono ?_);rintro e w2 ⟨rfl,ad⟩));go_roundw
      case rel=>exact⟨k+1,by omega,by go_num,abY H.out (fun x hx=>by rw [Aaa af] at hx;cases hx;exact He.out),by have h:=Hb.out;exact bE2 ad h⟩
      case measure=>simp [intOf];omega
  . have hi:abw fs = -1:=by
     unfold abw;rw [ad2 (fun j x hx=>H.out j (by have:=(Aad.1 hx).1;omega) x hx)]
    have Hi:=hid hi;clear hi hb;go_wp2_with fail;go_ret;exact⟨aaK Hi.out.symm,Hb.out⟩
end
section
open Go.RowKit
def ado (e : Nat -> Int) : Nat -> Nat
 | 0=>0
 | n+1=>if ado e n<n then ado e n else if e n≠0 then n else n+1
variable {e:Nat->Int}{n:Nat}
theorem abU(h:∀j,j<n->e j=0):ado e n=n:=by
 induction n with
 | zero=>rfl
 | succ n ih=>rw [ado,ih (fun j hj=>h j (by omega)),if_neg (by omega),if_neg (by simpa using h n (by omega))]
variable {k:Nat}
theorem ajn(h:∀j,j<k->e j=0)(hk:k<n)(he:e k≠0):ado e n=k:=by
 induction n with
 | zero=>omega
 | succ n ih =>
   rw [ado];rcases Abk.1 hk with h1 | h1
   . rw [ih h1,if_pos h1]
   . subst h1;rw [abU h,if_neg (by omega),if_pos he]
theorem agX(h:¬ado e n<n):∀j,j<n->e j=0:=by
 induction n with
 | zero=>intro j hj;omega
 | succ n ih =>
   rw [ado] at h
   by_cases h1:ado e n<n
   . rw [if_pos h1] at h;omega
   . rw [if_neg h1] at h
     by_cases h2:e n=0
     . exact abY (ih h1) h2
     . rw [if_pos h2] at h;omega
theorem aeq(h:ado e n<n):e (ado e n)≠0:=by
 induction n with
 | zero=>omega
 | succ n ih =>
   rw [ado] at h ⊢
   by_cases h1:ado e n<n
   . rw [if_pos h1];exact ih h1
   . rw [if_neg h1] at h ⊢
     by_cases h2:e n≠0
     . rw [if_pos h2];exact h2
     . rw [if_neg h2] at h;omega
def adb(gs:List aaF)(k:Nat):List ByteArray:=(gs.take k).map (·.name)
def wordsUp(gs:List aaF)(k:Nat):Int:=((gs.take k).map (·.size)).sum
def ac2(gs:List aaF)(fs:List aaz)(k:Nat):List ByteArray:=adb gs gs.length++(fs.take k).map (·.name)
def ade(names:List ByteArray)(words:Int)(g:aaF):Int :=
 if acR g.name=false then 12
 else if aer names g.name=true then 7
 else if ¬(1<=g.size∧g.size<=200) then 3
 else if g.size<(g.init.length:Int) then 9
 else if 200<words+g.size then 10
 else 0
def ad1(gs:List aaF)(k:Nat):Int:=match gs[k]? with | some g=>ade (adb gs k) (wordsUp gs k) g | none=>0
def ab6(gs:List aaF)(fs:List aaz)(k:Nat):Int:=match fs[k]? with | some f=>aet (ac2 gs fs k) f | none=>0
def abH(fs:List aaz)(k:Nat):Int:=match fs[k]? with | some f=>ady fs f | none=>0
def aiv(fs:List aaz):Int×Int :=
 if abw fs<0 then (6,0) else if 0<(fs.getD (abw fs).toNat ⟨ByteArray.empty,0,0,[]⟩).params then (5,abw fs) else (0,0)
def aav(u:adL):Int×Int :=
 if 10<u.globals.length∨10<u.funcs.length then (2,0)
 else if ado (ad1 u.globals) u.globals.length<u.globals.length then (ad1 u.globals (ado (ad1 u.globals) u.globals.length),ado (ad1 u.globals) u.globals.length)
 else if ado (ab6 u.globals u.funcs) u.funcs.length<u.funcs.length then (ab6 u.globals u.funcs (ado (ab6 u.globals u.funcs) u.funcs.length),ado (ab6 u.globals u.funcs) u.funcs.length)
 else if ado (abH u.funcs) u.funcs.length<u.funcs.length then (abH u.funcs (ado (abH u.funcs) u.funcs.length),ado (abH u.funcs) u.funcs.length)
 else aiv u.funcs
variable {gs:List aaF}
theorem alp(h:k<gs.length):adb gs (k+1)=adb gs k++[gs[k].name]:=by
 unfold adb;rw [Aby h,Aa8];rfl
theorem alq{fs:List aaz}(h:k<fs.length):ac2 gs fs (k+1)=ac2 gs fs k++[fs[k].name]:=by
 unfold ac2;rw [Aby h,Aa8,Abo];rfl
theorem ab7(h:k<gs.length):wordsUp gs (k+1)=wordsUp gs k+gs[k].size:=by
 unfold wordsUp;rw [Aby h,Aa8,List.sum_append];simp
theorem agc {names:List ByteArray}{words:Int}{g:aaF}(h:ade names words g=0) :
 acR g.name=true∧aer names g.name=false∧1<=g.size∧g.size<=200∧(g.init.length:Int)<=g.size∧words+g.size<=200:=by
 unfold ade at h
 by_cases h1:acR g.name=false
 . rw [if_pos h1] at h;omega
 rw [if_neg h1] at h
 by_cases h2:aer names g.name=true
 . rw [if_pos h2] at h;omega
 rw [if_neg h2] at h
 by_cases h3:1<=g.size∧g.size<=200
 case neg=>rw [if_pos h3] at h;omega
 rw [if_neg (by simpa using h3)] at h
 by_cases h4:g.size<(g.init.length:Int)
 . rw [if_pos h4] at h;omega
 rw [if_neg h4] at h
 by_cases h5:200<words+g.size
 . rw [if_pos h5] at h;omega
 exact⟨by simpa using h1,by simpa using h2,h3.1,h3.2,by omega,by omega⟩
theorem adp {names:List ByteArray}{f:aaz}(h:aet names f=0) :
 acR f.name=true∧aer names f.name=false∧0<=f.params∧f.params<=6∧f.params<=f.regs∧f.regs<=100∧1<=f.blocks.length∧f.blocks.length<=40∧aa6 f.blocks<=300:=by
 unfold aet at h
 by_cases h1:acR f.name=false
 . rw [if_pos h1] at h;omega
 rw [if_neg h1] at h
 by_cases h2:aer names f.name=true
 . rw [if_pos h2] at h;omega
 rw [if_neg h2] at h
 by_cases h3:¬(0<=f.params∧f.params<=6)∨¬(f.params<=f.regs∧f.regs<=100)
 . rw [if_pos h3] at h;omega
 rw [if_neg h3] at h
 by_cases h4:¬(1<=f.blocks.length∧f.blocks.length<=40)∨300<aa6 f.blocks
 . rw [if_pos h4] at h;omega
 exact⟨by simpa using h1,by simpa using h2,by omega,by omega,by omega,by omega,by omega,by omega,by omega⟩
theorem aiK {fs:List aaz}(h:¬abw fs<0):∃m:Nat,m<fs.length∧abw fs=m:=by
 unfold abw at *;split at h
 . rename_i k hk
   rw [Aco] at hk;exact⟨k,hk.1,rfl⟩
 . omega
theorem ahu(hk:k<=gs.length)(h:∀j,j<k->ad1 gs j=0):0<=wordsUp gs k∧wordsUp gs k<=200:=by
 induction k with
 | zero=>simp [wordsUp]
 | succ k ih =>
   have h1:=ih (by omega) (fun j hj=>h j (by omega));have h2:=h k (by omega);have af:k<gs.length:=by omega
   unfold ad1 at h2;rw [Aaa af] at h2;have h3:=agc h2;rw [ab7 af];omega
variable {w:World}{base:Nat}{v:Value}
theorem aan{w':World}{e:TypeId}{size:Nat}{xs:List Value}(h:w.ownsRow base e size v n xs)(hb:Below w.heap.size w w'):w'.ownsRow base e size v n xs:=by
 obtain⟨h1,h2⟩:=h;refine⟨h1,?_⟩;rcases h2 with h2 | ⟨g,cap,cur,hv,hg,hh,r⟩
 . exact .inl h2
 . have af:g<w.heap.size:=by
    rcases Abm g w.heap.size with h3 | h3
    . exact h3
    . rw [Array.getElem?_eq_none h3] at hh;cases hh
   exact .inr ⟨g,cap,cur,hv,hg,by rw [hb.block g af];exact hh,r⟩
theorem ate{α:Type}{r:Rp α}(f:α->Value){e:TypeId}{l:List α}(h:w.ownsRow base e 1 v l.length (l.map f))(hr:∀x∈l,r (fun b=>base<=b) w [f x] x) :
 SlAt (fun b=>base<=b) w 1 r v l:=by
 obtain⟨h1,h2⟩:=h;rcases h2 with⟨rfl,h2⟩ | ⟨g,cap,cur,rfl,hg,hh,hn,hm,hs,ht⟩
 . have:l=[]:=Aa9 h2
   subst this;exact⟨none,0,rfl,Aac _,by omega,fun h=>absurd rfl h⟩
 . refine⟨_,cap,rfl,hn,by unfold maxLen at hm;exact hm,fun _=>⟨g,0,rfl,hg,fun i x hx=>⟨[f x],hr x (Aae hx),rfl,?_⟩⟩⟩
   refine .cons ?_ (.nil _ _ _);have h3:(l.map f)[i]?=some (f x):=by rw [Aak,hx];rfl
   rw [<-ht,Abd,Abh] at h3;have hi:i<l.length:=(Aad.1 hx).1;rw [if_pos hi] at h3;simp only [World.cell?,hh,Aab,Abd];simpa using h3
theorem amc{e:TypeId}{l:List ByteArray}(h:w.ownsRow base e 1 v l.length (l.map Value.string)):SlAt (fun b=>base<=b) w 1 arD v l :=
 ate Value.string h (fun _ _=>rfl)
end
section
open Go.RowKit
theorem asa:(Tryz.prog.info? 9).map (fun i=>(i.zero,i.size,i.bytes))=some (some (.string ByteArray.empty),1,16):=by kernel_rfl
theorem aj6 {S : Nat -> Prop} (ga : Option Addr) (gc : Nat) (fa : Option Addr) (fc : Nat) (gs : List aaF) (fs : List aaz) (w : World)
 (hg:SlAt S w 3 aaO (.slice ga gs.length gc) gs) (hf:SlAt S w 4 abD (.slice fa fs.length fc) fs) (hw:ae1 w)
 (dA:gs.length<=1048576) (bI:fs.length<=1048576) (b5:∀(k:Nat) (f:aaz),fs[k]?=some f->aa6 f.blocks<=1048576∧f.blocks.length<=1048576) :
 Calls Tryz.prog 18 #[.agg #[.slice ga gs.length gc,.slice fa fs.length fc]] w fun e w' =>
  e = .returned (.agg #[.int .i64 (aav ⟨gs,fs⟩).1,.int .i64 (aav ⟨gs,fs⟩).2])∧Below w.heap.size w w':=by
 have Hg:=hid hg;have Hf:=hid hf;have Hw:=hid hw;have di:=hid b5;obtain⟨_,_,dR,dS⟩:=hg.val;obtain⟨_,_,aN,a8⟩:=hf.val;cases dR;cases aN;clear hg hf hw b5;obtain⟨i0,hi,aA,al,bt⟩:=info_parts asa
 by_cases hlen:10<gs.length∨10<fs.length
 . have Hr:Hid (aav ⟨gs,fs⟩=(2,0)):=by show aav ⟨gs,fs⟩=_;unfold aav;rw [if_pos hlen]
   by_cases hgl':10<gs.length
   all_goals
    go_enter Tryz.func18,Tryz.ntmps18;go_wp2_with (go_at_call 20;((with_reducible refine (abC _ _ _).mono ?_);rintro e w2 ⟨rfl,ad⟩;obtain⟨aH,a8⟩:=aaH ad));refine bodyPost_ret (v:=_) ?_ rfl ⟨rfl,?_⟩
    . rw [Hr.out]
      simp [results,Tryz.results18,go_sem,aH]
    . exact bE1 ad
 have db:gs.length<=10:=by omega
 have bk:fs.length<=10:=by omega
 have be:=hid hlen;clear hlen dA bI;have aW:Hid (∀a b:Obj,Below w.heap.size w ((w.alloc a).alloc b)):=fun a b=>by exact bE
 go_enter Tryz.func18,Tryz.ntmps18;go_wp2_with fail;go_loopw [3,4,31] (fun v3 wd i wr=>∃(k:Nat) (nv:Value),k<=gs.length∧i = .int .i64 k∧nv=v3∧wd = .int .i64 (wordsUp gs k)∧(∀j,j<k->ad1 gs j=0)∧wr.ownsRow (w.heap.size+2) 9 1 nv (adb gs k).length ((adb gs k).map Value.string)∧Below (w.heap.size+2) ((w.alloc (.cells #[.slice ga gs.length gc,.slice fa fs.length fc] 25)).alloc (.cells #[.int .i64 0,.int .i64 0] 27)) wr) (fun _ _ i _=>gs.length - (intOf i).toNat)
 case atStart=>exact⟨0,_,Aaj _,rfl,rfl,rfl,fun j hj=>by omega,World.ownsRow_nil _ _ _ _,Below.refl _ _⟩
 case round =>
  obtain⟨k,nv,hk,rfl,rfl,rfl,ah,aq,aB⟩:=hrel;have aD:=hid ah;have au:=hid aq;have bh:=hid aB;have aj:Hid (Below w.heap.size w wr):=(aW.out _ _).trans (aB.mono (by omega));have aJ:Hid (SlAt (fun b=>w.heap.size+2<=b) wr 1 arD nv (adb gs k)):=amc aq;obtain⟨na,nc,rfl,bT⟩:=aJ.out.val;obtain⟨ai,aN⟩:=aaH aB;have aE:w.heap.size+1<wr.heap.size:=by have:=aB.size;simp at this;omega
  have cv:w.heap.size<wr.heap.size:=by omega
  have R0:Hid (wr.cell? ⟨w.heap.size+1,0,none⟩=some (.int .i64 0)):=by show _=_;rw [ai _ _ (by omega)];simp
  have R1:Hid (wr.cell? ⟨w.heap.size+1,1,none⟩=some (.int .i64 0)):=by show _=_;rw [ai _ _ (by omega)];simp
  have bH:=ahu hk ah;clear ah aq aB
  by_cases af:k<gs.length
  . obtain⟨b,off,cs,rfl,-,hx,-,ar⟩:=Hg.out.get af
    obtain⟨xa,xc,rfl,-,bR,cg⟩:=hx.opens;obtain⟨c0,c1,c2⟩:=(ar.later aj.out).get3;unfold I64 at cg;have dc:ad1 gs k=ade (adb gs k) (wordsUp gs k) gs[k]:=by unfold ad1;rw [Aaa af]
    have aL:=hid dc;have bo:Hid (∀c:Int,ade (adb gs k) (wordsUp gs k) gs[k]=c->c≠0->aav ⟨gs,fs⟩=(c,(k:Int))):=fun c hc dF=>by
     have h:=ajn aD.out af (by rw [aL.out,hc];exact dF);unfold aav;dsimp only;rw [if_neg be.out,h,if_pos af,aL.out,hc]
    obtain⟨names,ag⟩:∃names,names=adb gs k:=⟨_,rfl⟩
    obtain⟨words,aw⟩:∃words,words=wordsUp gs k:=⟨_,rfl⟩
    rw [<-ag,<-aw] at bo;rw [<-ag] at aJ au bT;rw [<-aw] at bH;rw [<-ag];rw [<-aw];have ao:=hid ag;have aU:=hid aw;clear ar hx dc ag aw;obtain⟨g,cr⟩:∃g,g=gs[k]:=⟨_,rfl⟩
    rw [<-cr] at bo c0 c1 c2 cg bR;have cF:=hid cr;clear cr
    by_cases h1:acR g.name=true
    case neg =>
     have dI:acR g.name=false:=by simpa using h1
     have Hr:Hid (aav ⟨gs,fs⟩=(12,(k:Int))):=bo.out _ (by simp [ade,dI]) (by omega);clear h1 bH;go_wp2_with (first | (go_at_call 20;((with_reducible refine (abC _ _ _).mono ?_);rintro e w2 ⟨rfl,ad⟩;obtain⟨aH,a8⟩:=aaH ad)) | (go_at_call 40;((with_reducible refine (acf _ _).mono ?_);rintro e w' ⟨rfl,rfl⟩)) | (go_at_call 41;((with_reducible refine (aaW (S:=fun b=>w.heap.size+2<=b) _ names _ _ ?_).mono ?_);refine aJ.out.later acd ?_;exact bE;rintro e w' ⟨rfl,rfl⟩)) | (go_at_call 42;((with_reducible refine (aaC _ _ _ _).mono ?_);rintro e w' ⟨rfl,rfl⟩)));have hq:Below wr.heap.size wr w2:=by exact bE1 ad
     have q:=acw (u := .int .i64 (aav ⟨gs,fs⟩).1) (v := .int .i64 (aav ⟨gs,fs⟩).2) (aab R0.out hq) (aab R1.out hq);rw [Hr.out] at q ⊢;refine bodyPost_ret (adz rfl rfl q.1 q.2) rfl ⟨rfl,?_⟩;have h:=aj.out;exact bE2 ad h
    by_cases h2:aer names g.name=true
    . have Hr:Hid (aav ⟨gs,fs⟩=(7,(k:Int))):=bo.out _ (by simp [ade,h1,h2]) (by omega)
      clear bH;go_wp2_with (first | (go_at_call 20;((with_reducible refine (abC _ _ _).mono ?_);rintro e w2 ⟨rfl,ad⟩;obtain⟨aH,a8⟩:=aaH ad)) | (go_at_call 40;((with_reducible refine (acf _ _).mono ?_);rintro e w' ⟨rfl,rfl⟩)) | (go_at_call 41;((with_reducible refine (aaW (S:=fun b=>w.heap.size+2<=b) _ names _ _ ?_).mono ?_);refine aJ.out.later acd ?_;exact bE;rintro e w' ⟨rfl,rfl⟩)) | (go_at_call 42;((with_reducible refine (aaC _ _ _ _).mono ?_);rintro e w' ⟨rfl,rfl⟩)));have hq:Below wr.heap.size wr w2:=by exact bE1 ad
      have q:=acw (u := .int .i64 (aav ⟨gs,fs⟩).1) (v := .int .i64 (aav ⟨gs,fs⟩).2) (aab R0.out hq) (aab R1.out hq);rw [Hr.out] at q ⊢;refine bodyPost_ret (adz rfl rfl q.1 q.2) rfl ⟨rfl,?_⟩;have h:=aj.out;exact bE2 ad h
    have b6:aer names g.name=false:=by simpa using h2
    clear h2
    by_cases h3:1<=g.size∧g.size<=200
    case neg =>
     have Hr:Hid (aav ⟨gs,fs⟩=(3,(k:Int))):=bo.out _ (by simp only [ade,h1,b6,h3];simp) (by omega);clear bH;go_wp2_with (first | (go_at_call 20;((with_reducible refine (abC _ _ _).mono ?_);rintro e w2 ⟨rfl,ad⟩;obtain⟨aH,a8⟩:=aaH ad)) | (go_at_call 40;((with_reducible refine (acf _ _).mono ?_);rintro e w' ⟨rfl,rfl⟩)) | (go_at_call 41;((with_reducible refine (aaW (S:=fun b=>w.heap.size+2<=b) _ names _ _ ?_).mono ?_);refine aJ.out.later acd ?_;exact bE;rintro e w' ⟨rfl,rfl⟩)) | (go_at_call 42;((with_reducible refine (aaC _ _ _ _).mono ?_);rintro e w' ⟨rfl,rfl⟩)));have hq:Below wr.heap.size wr w2:=by exact bE1 ad
     have q:=acw (u := .int .i64 (aav ⟨gs,fs⟩).1) (v := .int .i64 (aav ⟨gs,fs⟩).2) (aab R0.out hq) (aab R1.out hq);rw [Hr.out] at q ⊢;refine bodyPost_ret (adz rfl rfl q.1 q.2) rfl ⟨rfl,?_⟩;have h:=aj.out;exact bE2 ad h
    by_cases h4:g.size<(g.init.length:Int)
    . have Hr:Hid (aav ⟨gs,fs⟩=(9,(k:Int))):=bo.out _ (by simp only [ade,h1,b6,h3,h4];simp) (by omega)
      clear bH;go_wp2_with (first | (go_at_call 20;((with_reducible refine (abC _ _ _).mono ?_);rintro e w2 ⟨rfl,ad⟩;obtain⟨aH,a8⟩:=aaH ad)) | (go_at_call 40;((with_reducible refine (acf _ _).mono ?_);rintro e w' ⟨rfl,rfl⟩)) | (go_at_call 41;((with_reducible refine (aaW (S:=fun b=>w.heap.size+2<=b) _ names _ _ ?_).mono ?_);refine aJ.out.later acd ?_;exact bE;rintro e w' ⟨rfl,rfl⟩)) | (go_at_call 42;((with_reducible refine (aaC _ _ _ _).mono ?_);rintro e w' ⟨rfl,rfl⟩)));have hq:Below wr.heap.size wr w2:=by exact bE1 ad
      have q:=acw (u := .int .i64 (aav ⟨gs,fs⟩).1) (v := .int .i64 (aav ⟨gs,fs⟩).2) (aab R0.out hq) (aab R1.out hq);rw [Hr.out] at q ⊢;refine bodyPost_ret (adz rfl rfl q.1 q.2) rfl ⟨rfl,?_⟩;have h:=aj.out;exact bE2 ad h
    by_cases h5:200<words+g.size
    . have Hr:Hid (aav ⟨gs,fs⟩=(10,(k:Int))):=bo.out _ (by simp only [ade,h1,b6,h3,h4,h5];simp) (by omega)
      go_wp2_with (first | (go_at_call 20;((with_reducible refine (abC _ _ _).mono ?_);rintro e w2 ⟨rfl,ad⟩;obtain⟨aH,a8⟩:=aaH ad)) | (go_at_call 40;((with_reducible refine (acf _ _).mono ?_);rintro e w' ⟨rfl,rfl⟩)) | (go_at_call 41;((with_reducible refine (aaW (S:=fun b=>w.heap.size+2<=b) _ names _ _ ?_).mono ?_);refine aJ.out.later acd ?_;exact bE;rintro e w' ⟨rfl,rfl⟩)) | (go_at_call 42;((with_reducible refine (aaC _ _ _ _).mono ?_);rintro e w' ⟨rfl,rfl⟩)));have hq:Below wr.heap.size wr w2:=by exact bE1 ad
      have q:=acw (u := .int .i64 (aav ⟨gs,fs⟩).1) (v := .int .i64 (aav ⟨gs,fs⟩).2) (aab R0.out hq) (aab R1.out hq);rw [Hr.out] at q ⊢;refine bodyPost_ret (adz rfl rfl q.1 q.2) rfl ⟨rfl,?_⟩;have h:=aj.out;exact bE2 ad h
    have cu:Hid (ad1 gs k=0):=by
     show ad1 gs k=0;rw [aL.out,<-cF.out,<-ao.out,<-aU.out];simp only [ade,h1,b6,h3,h4,h5];simp
    have bS:names.length<=10:=by rw [ao.out];simp [adb];omega
    have bO:=hid bS;clear bS;go_wp2_with (first | (at_builtin;refine wpList_append_own _ rfl _ _ 80 rfl (w.heap.size+2) 9 i0 (.string ByteArray.empty) 1 16 Tryz.underlying80 hi aA al bt rfl (by decide) _ _ _ rfl ((au.out.alloc _).alloc _) ⟨wr.heap.size+1,0,none⟩ 1 1 [.string g.name] rfl rfl ?_ ?_ ?_ ?_ ?_ ?_) | (go_at_call 20;((with_reducible refine (abC _ _ _).mono ?_);rintro e w2 ⟨rfl,ad⟩;obtain⟨aH,a8⟩:=aaH ad)) | (go_at_call 40;((with_reducible refine (acf _ _).mono ?_);rintro e w' ⟨rfl,rfl⟩)) | (go_at_call 41;((with_reducible refine (aaW (S:=fun b=>w.heap.size+2<=b) _ names _ _ ?_).mono ?_);refine aJ.out.later acd ?_;exact bE;rintro e w' ⟨rfl,rfl⟩)) | (go_at_call 42;((with_reducible refine (aaC _ _ _ _).mono ?_);rintro e w' ⟨rfl,rfl⟩)))
    . have h:=cell_one_new (wr.alloc (.cells #[.string g.name,.int .i64 g.size,.slice xa g.init.length xc] 52)) (.string g.name) 9
      simpa using h
    . intro u hu;simp at hu;subst hu;rfl
    . have:=bO.out;simp;unfold maxLen;omega
    . have:=bO.out;simp;omega
    . simp;omega
    . intro v' w2 aq ax bB
      have bN:=hid aq;have bu:Hid (Below (w.heap.size+2) ((w.alloc (.cells #[.slice (some ⟨b,off,none⟩) gs.length gc,.slice fa fs.length fc] 25)).alloc (.cells #[.int .i64 0,.int .i64 0] 27)) w2):=by
       refine ((bh.out.alloc (by omega) _).alloc (by simp;omega) _).grown ax (by simp;omega) (fun q hq=>?_);exact ((au.out.lt q hq).1)
      have cE:=bu.out.size;have dx:=ax.size;have e1:w2.cell? ⟨wr.heap.size,1,none⟩=some (.int .i64 g.size):=ax.cell (by simp) (fun h=>absurd (au.out.lt _ h.symm).2 (Abp _));have bd:Hid (Below w.heap.size w w2):=(aW.out _ _).trans (bu.out.mono (by omega));clear aq ax bB cE dx;go_wp2_with fail;go_roundw
      case rel =>
       refine⟨k+1,_,by omega,by go_num,rfl,?_,abY aD.out cu.out,?_,bu.out⟩
       . rw [ab7 af,<-aU.out,<-cF.out]
       . rw [alp af,<-ao.out,<-cF.out]
         simpa using bN.out
      case measure=>simp [intOf];omega
  . obtain rfl:k=gs.length:=by omega
    have cm:Hid (ado (ad1 gs) gs.length=gs.length):=abU aD.out;have bQ:Hid (wr.ownsRow (w.heap.size+2) 9 1 (.slice na (adb gs gs.length).length nc) (ac2 gs fs 0).length ((ac2 gs fs 0).map Value.string)):=by
     have:ac2 gs fs 0=adb gs gs.length:=by simp [ac2]
     rw [this];exact au.out
    go_wp2_with fail;obtain⟨wl,rfl⟩:∃wl:World,wl=wr:=⟨_,rfl⟩
    have aK:=hid bh.out;clear ai aN R0 R1 aJ bT bH au;go_loopw [3,82] (fun v3 i wr=>∃(k:Nat) (nv:Value),k<=fs.length∧i = .int .i64 k∧nv=v3∧(∀j,j<k->ab6 gs fs j=0)∧wr.ownsRow (w.heap.size+2) 9 1 nv (ac2 gs fs k).length ((ac2 gs fs k).map Value.string)∧Below (w.heap.size+2) ((w.alloc (.cells #[.slice ga gs.length gc,.slice fa fs.length fc] 25)).alloc (.cells #[.int .i64 0,.int .i64 0] 27)) wr) (fun _ i _=>fs.length - (intOf i).toNat)
    case atStart=>exact⟨0,_,Aaj _,rfl,rfl,fun j hj=>by omega,bQ.out,aK.out⟩
    case round =>
     obtain⟨k,nv,hk,rfl,rfl,ah,aq,aB⟩:=hrel;have ak:=hid ah;have au:=hid aq;have bh:=hid aB;have aj:Hid (Below w.heap.size w wr):=(aW.out _ _).trans (aB.mono (by omega));have aJ:Hid (SlAt (fun b=>w.heap.size+2<=b) wr 1 arD nv (ac2 gs fs k)):=amc aq;obtain⟨na,nc,rfl,bT⟩:=aJ.out.val;obtain⟨ai,aN⟩:=aaH aB;have aE:w.heap.size+1<wr.heap.size:=by have:=aB.size;simp at this;omega
     have cv:w.heap.size<wr.heap.size:=by omega
     have R0:Hid (wr.cell? ⟨w.heap.size+1,0,none⟩=some (.int .i64 0)):=by show _=_;rw [ai _ _ (by omega)];simp
     have R1:Hid (wr.cell? ⟨w.heap.size+1,1,none⟩=some (.int .i64 0)):=by show _=_;rw [ai _ _ (by omega)];simp
     have F0:Hid (wr.frozen? ⟨w.heap.size+1,0,none⟩=false):=by show _=_;rw [aN _ _ (by omega)];simp
     have F1:Hid (wr.frozen? ⟨w.heap.size+1,1,none⟩=false):=by show _=_;rw [aN _ _ (by omega)];simp
     clear ah aq aB
     by_cases af:k<fs.length
     . obtain⟨b,off,cs,rfl,-,hx,-,ar⟩:=Hf.out.get af
       obtain⟨xa,xc,rfl,bm,bR,aO,a6⟩:=hx.opens;obtain⟨c0,c1,c2,c3⟩:=(ar.later aj.out).get4;have aP:=hid bm;have bx:=hid aO;have bw:=hid a6;have cw:Hid (aa6 fs[k].blocks<=1048576):=(di.out k _ (Aaa af)).1;have aL:Hid (ab6 gs fs k=aet (ac2 gs fs k) fs[k]):=by show ab6 gs fs k=_;unfold ab6;rw [Aaa af]
       obtain⟨names,ag⟩:∃names,names=ac2 gs fs k:=⟨_,rfl⟩
       obtain⟨f,bp⟩:∃f,f=fs[k]:=⟨_,rfl⟩
       rw [<-ag] at aJ au bT aL ⊢;rw [<-bp] at c0 c1 c2 c3 bR aP bx bw cw aL;have ao:=hid ag;have cR:=hid bp;clear ar hx bm aO a6 ag bp
       by_cases hz:aet names f=0
       case neg =>
        have cb:=aex hz;have Hr:Hid (aav ⟨gs,fs⟩=(aet names f,(k:Int))):=by
         have h:=ajn ak.out af (by rw [aL.out];exact hz);show aav ⟨gs,fs⟩=_;unfold aav;dsimp only;rw [if_neg be.out,cm.out,if_neg (Abp _),h,if_pos af,aL.out]
        clear hz;go_wp2_with (first | (go_at_call 20;((with_reducible refine (abC _ _ _).mono ?_);rintro e w2 ⟨rfl,ad⟩;have hq:Below wr.heap.size wr w2:=(bE2 ad ae);have g0:=aab R0.out hq;have g1:=aab R1.out hq;have f0:=(hq.frozen (p:=⟨w.heap.size+1,0,none⟩) aE).trans F0.out;have f1:=(hq.frozen (p:=⟨w.heap.size+1,1,none⟩) aE).trans F1.out)) | (go_at_call 43;((with_reducible refine (amf (S:=S) (S':=fun b=>w.heap.size+2<=b) _ _ f _ _ _ names _ ?_ ?_ cw.out bx.out bw.out).mono ?_);refine aP.out.later aat ?_;have h:=aj.out;exact bE1 h;refine aJ.out.later acd ?_;exact bE;rintro e w5 ⟨rfl,ae⟩;have bq:wr.heap.size+1<w5.heap.size:=(by have:=ae.size;simp at this;omega);obtain⟨bD,bG⟩:=aaH ae;have bl:=hid (aan au.out (bE1 ae:Below wr.heap.size wr w5)))));have q:=acw (u := .int .i64 (aav ⟨gs,fs⟩).1) (v := .int .i64 (aav ⟨gs,fs⟩).2) (aab R0.out hq) (aab R1.out hq);rw [Hr.out] at q ⊢;refine bodyPost_ret (adz rfl rfl q.1 q.2) rfl ⟨rfl,?_⟩;have h:=aj.out;exact bE3 ad ae h
       have cu:Hid (ab6 gs fs k=0):=aL.out.trans hz;have bS:names.length<=20:=by rw [ao.out];simp [ac2,adb];omega
       have bO:=hid bS;clear bS;go_wp2_with (first | (at_builtin;refine wpList_append_own _ rfl _ _ 80 rfl (w.heap.size+2) 9 i0 (.string ByteArray.empty) 1 16 Tryz.underlying80 hi aA al bt rfl (by decide) _ _ _ rfl (bl.out.alloc _) ⟨w5.heap.size,0,none⟩ 1 1 [.string f.name] rfl rfl (cell_one_new _ _ _) ?_ ?_ ?_ ?_ ?_) | (go_at_call 43;((with_reducible refine (amf (S:=S) (S':=fun b=>w.heap.size+2<=b) _ _ f _ _ _ names _ ?_ ?_ cw.out bx.out bw.out).mono ?_);refine aP.out.later aat ?_;have h:=aj.out;exact bE1 h;refine aJ.out.later acd ?_;exact bE;rintro e w5 ⟨rfl,ae⟩;have bq:wr.heap.size+1<w5.heap.size:=(by have:=ae.size;simp at this;omega);obtain⟨bD,bG⟩:=aaH ae;have bl:=hid (aan au.out (bE1 ae:Below wr.heap.size wr w5)))))
       . intro u hu;simp at hu;subst hu;rfl
       . have:=bO.out;simp;unfold maxLen;omega
       . have:=bO.out;simp;omega
       . have:=bh.out.size;simp at this;simp;omega
       . intro v' w6 aq ax bB
         have bU:=hid aq;have cC:Hid (Below (w.heap.size+2) ((w.alloc (.cells #[.slice ga gs.length gc,.slice (some ⟨b,off,none⟩) fs.length fc] 25)).alloc (.cells #[.int .i64 0,.int .i64 0] 27)) w6):=by
          have hq:Below wr.heap.size wr w5:=by exact bE1 ae
          refine (((bh.out.trans (hq.mono (by omega))).alloc (by omega) _)).grown ax (by simp;omega) (fun q hq=>?_);exact ((au.out.lt q hq).1)
         clear aq ax bB;go_wp2_with fail;go_roundw
         case rel =>
          refine⟨k+1,_,by omega,by go_num,rfl,abY ak.out cu.out,?_,cC.out⟩;rw [alq af,<-ao.out,<-cR.out];simpa using bU.out
         case measure=>simp [intOf];omega
     . obtain rfl:k=fs.length:=by omega
       have cS:Hid (ado (ab6 gs fs) fs.length=fs.length):=abU ak.out;have bK:Hid (∀(j:Nat) (x:aaz),fs[j]?=some x->0<=x.regs∧x.regs<=100):=fun j x hx=>by
        have hj:=(Aad.1 hx).1;have:=ak.out j hj;unfold ab6 at this;rw [hx] at this;have h:=adp this;omega
       go_wp2_with fail;obtain⟨cU,rfl⟩:∃cU:World,cU=wr:=⟨_,rfl⟩
       have cz:=hid bh.out;clear ai aN R0 R1 F0 F1 aJ bT au;go_loopw [107] (fun i wr=>∃k:Nat,k<=fs.length∧i = .int .i64 k∧(∀j,j<k->abH fs j=0)∧Below (w.heap.size+2) ((w.alloc (.cells #[.slice ga gs.length gc,.slice fa fs.length fc] 25)).alloc (.cells #[.int .i64 0,.int .i64 0] 27)) wr) (fun i _=>fs.length - (intOf i).toNat)
       case atStart=>exact⟨0,Aaj _,rfl,fun j hj=>by omega,cz.out⟩
       case round =>
        obtain⟨k,hk,rfl,ah,aB⟩:=hrel;have ay:=hid ah;have bh:=hid aB;have aj:Hid (Below w.heap.size w wr):=(aW.out _ _).trans (aB.mono (by omega));obtain⟨ai,aN⟩:=aaH aB;have aE:w.heap.size+1<wr.heap.size:=by have:=aB.size;simp at this;omega
        have cv:w.heap.size<wr.heap.size:=by omega
        have R0:Hid (wr.cell? ⟨w.heap.size+1,0,none⟩=some (.int .i64 0)):=by show _=_;rw [ai _ _ (by omega)];simp
        have R1:Hid (wr.cell? ⟨w.heap.size+1,1,none⟩=some (.int .i64 0)):=by show _=_;rw [ai _ _ (by omega)];simp
        have F0:Hid (wr.frozen? ⟨w.heap.size+1,0,none⟩=false):=by show _=_;rw [aN _ _ (by omega)];simp
        have F1:Hid (wr.frozen? ⟨w.heap.size+1,1,none⟩=false):=by show _=_;rw [aN _ _ (by omega)];simp
        clear ah aB
        by_cases af:k<fs.length
        . obtain⟨b,off,cs,rfl,-,hx,-,ar⟩:=Hf.out.get af
          obtain⟨xa,xc,rfl,bm,bR,aO,a6⟩:=hx.opens;obtain⟨c0,c1,c2,c3⟩:=(ar.later aj.out).get4;have aP:=hid bm;have cq:Hid (fs[k].blocks.length<=1048576):=(di.out k _ (Aaa af)).2;have ct:Hid (0<=fs[k].regs):=(bK.out k _ (Aaa af)).1;have cH:Hid (fs[k].regs<=100):=(bK.out k _ (Aaa af)).2;have aL:Hid (abH fs k=ady fs fs[k]):=by show abH fs k=_;unfold abH;rw [Aaa af]
          obtain⟨f,bp⟩:∃f,f=fs[k]:=⟨_,rfl⟩
          rw [<-bp] at c0 c1 c2 c3 bR aP cq ct cH aL;have cR:=hid bp;have bF:=hid bk;clear ar hx bm aO a6 bp
          by_cases hz:ady fs f=0
          . go_wp2_with (go_at_call 44;go_must ((with_reducible refine (amb (S:=S) (S':=S) _ _ _ fs _ _ f _ _ _ _ _ _ ct.out cH.out ?_ ?_ (Aai bF.out (by omega)) cq.out ?_).mono ?_);refine Hf.out.later aaG ?_;have h:=aj.out;exact bE1 h;refine aP.out.later aat ?_;have h:=aj.out;exact bE1 h;refine ae1.below Hw.out ?_;have h:=aj.out;exact bE1 h;rintro e w5 ⟨rfl,ae⟩;have bq:wr.heap.size+1<w5.heap.size:=(by have:=ae.size;simp at this;omega);obtain⟨bD,bG⟩:=aaH ae))
            go_roundw
            case rel=>exact⟨k+1,by omega,by go_num,abY ay.out (aL.out.trans hz),by have h:=bh.out;exact bE2 ae h⟩
            case measure=>simp [intOf];omega
          . have cb:=aex hz
            have Hr:Hid (aav ⟨gs,fs⟩=(ady fs f,(k:Int))):=by
             have h:=ajn ay.out af (by rw [aL.out];exact hz);show aav ⟨gs,fs⟩=_;unfold aav;dsimp only;rw [if_neg be.out,cm.out,if_neg (Abp _),cS.out,if_neg (Abp _),h,if_pos af,aL.out]
            clear hz;go_wp2_with (first | (go_at_call 20;((with_reducible refine (abC _ _ _).mono ?_);rintro e w2 ⟨rfl,ad⟩;have hq:Below wr.heap.size wr w2:=(bE2 ad ae);have g0:=aab R0.out hq;have g1:=aab R1.out hq;have f0:=(hq.frozen (p:=⟨w.heap.size+1,0,none⟩) aE).trans F0.out;have f1:=(hq.frozen (p:=⟨w.heap.size+1,1,none⟩) aE).trans F1.out)) | (go_at_call 44;go_must ((with_reducible refine (amb (S:=S) (S':=S) _ _ _ fs _ _ f _ _ _ _ _ _ ct.out cH.out ?_ ?_ (Aai bF.out (by omega)) cq.out ?_).mono ?_);refine Hf.out.later aaG ?_;have h:=aj.out;exact bE1 h;refine aP.out.later aat ?_;have h:=aj.out;exact bE1 h;refine ae1.below Hw.out ?_;have h:=aj.out;exact bE1 h;rintro e w5 ⟨rfl,ae⟩;have bq:wr.heap.size+1<w5.heap.size:=(by have:=ae.size;simp at this;omega);obtain⟨bD,bG⟩:=aaH ae)));have q:=acw (u := .int .i64 (aav ⟨gs,fs⟩).1) (v := .int .i64 (aav ⟨gs,fs⟩).2) (aab R0.out hq) (aab R1.out hq);rw [Hr.out] at q ⊢;refine bodyPost_ret (adz rfl rfl q.1 q.2) rfl ⟨rfl,?_⟩;have h:=aj.out;exact bE3 ad ae h
        . obtain rfl:k=fs.length:=by omega
          have dQ:Hid (ado (abH fs) fs.length=fs.length):=abU ay.out;have dn:aav ⟨gs,fs⟩=aiv fs:=by
           unfold aav;dsimp only;rw [if_neg be.out,cm.out,if_neg (Abp _),cS.out,if_neg (Abp _),dQ.out,if_neg (Abp _)]
          have cn:=hid dn;have bF:=hid bk;clear dn
          by_cases hm:abw fs<0
          . have Hr:Hid (aav ⟨gs,fs⟩=(6,0)):=by show aav ⟨gs,fs⟩=_;rw [cn.out];unfold aiv;rw [if_pos hm]
            go_wp2_with (first | (go_at_call 20;((with_reducible refine (abC _ _ _).mono ?_);rintro e w2 ⟨rfl,ad⟩;have hq:Below wr.heap.size wr w2:=(bE2 ad ae);have g0:=aab R0.out hq;have g1:=aab R1.out hq;have f0:=(hq.frozen (p:=⟨w.heap.size+1,0,none⟩) aE).trans F0.out;have f1:=(hq.frozen (p:=⟨w.heap.size+1,1,none⟩) aE).trans F1.out)) | (go_at_call 45;((with_reducible refine (ad0 (S:=S) _ _ fs _ ?_ (Aai bF.out (by omega))).mono ?_);refine Hf.out.later aaG ?_;have h:=aj.out;exact bE1 h;rintro e w5 ⟨rfl,ae⟩;have bq:w.heap.size+1<w5.heap.size:=(by have:=ae.size;omega);have b4:w.heap.size<w5.heap.size:=(by omega);obtain⟨bD,bG⟩:=aaH ae;have g0:=aab R0.out ae;have g1:=aab R1.out ae;have f0:=(ae.frozen (p:=⟨w.heap.size+1,0,none⟩) aE).trans F0.out;have f1:=(ae.frozen (p:=⟨w.heap.size+1,1,none⟩) aE).trans F1.out)));have q:=acw (u := .int .i64 (aav ⟨gs,fs⟩).1) (v := .int .i64 (aav ⟨gs,fs⟩).2) (aab R0.out hq) (aab R1.out hq);rw [Hr.out] at q ⊢;refine bodyPost_ret (adz rfl rfl q.1 q.2) rfl ⟨rfl,?_⟩;have h:=aj.out;exact bE3 ad ae h
          . obtain⟨m,cK,dq⟩:=aiK hm
            obtain⟨b,off,cs,rfl,-,hx,-,ar⟩:=Hf.out.get cK;obtain⟨xa,xc,rfl,-,-,aO,-⟩:=hx.opens;obtain⟨c0,c1,c2,c3⟩:=(ar.later aj.out).get4;have dT:=aac c1;have cX:Hid ((fs.getD (abw fs).toNat ⟨ByteArray.empty,0,0,[]⟩).params=fs[m].params):=by
             show _=_;rw [dq,Aan,Aaf,Aaa cK];rfl
            have Hm:=hid hm;unfold I64 at aO;clear ar hx hm
            by_cases hpz:0<fs[m].params
            . have Hr:Hid (aav ⟨gs,fs⟩=(5,(m:Int))):=by show aav ⟨gs,fs⟩=_;rw [cn.out];unfold aiv;rw [if_neg Hm.out,cX.out,if_pos hpz,dq]
              go_wp2_with (first | (go_at_call 20;((with_reducible refine (abC _ _ _).mono ?_);rintro e w2 ⟨rfl,ad⟩;have hq:Below wr.heap.size wr w2:=(bE2 ad ae);have g0:=aab R0.out hq;have g1:=aab R1.out hq;have f0:=(hq.frozen (p:=⟨w.heap.size+1,0,none⟩) aE).trans F0.out;have f1:=(hq.frozen (p:=⟨w.heap.size+1,1,none⟩) aE).trans F1.out)) | (go_at_call 45;((with_reducible refine (ad0 (S:=S) _ _ fs _ ?_ (Aai bF.out (by omega))).mono ?_);refine Hf.out.later aaG ?_;have h:=aj.out;exact bE1 h;rintro e w5 ⟨rfl,ae⟩;have bq:w.heap.size+1<w5.heap.size:=(by have:=ae.size;omega);have b4:w.heap.size<w5.heap.size:=(by omega);obtain⟨bD,bG⟩:=aaH ae;have g0:=aab R0.out ae;have g1:=aab R1.out ae;have f0:=(ae.frozen (p:=⟨w.heap.size+1,0,none⟩) aE).trans F0.out;have f1:=(ae.frozen (p:=⟨w.heap.size+1,1,none⟩) aE).trans F1.out)));have q:=acw (u := .int .i64 (aav ⟨gs,fs⟩).1) (v := .int .i64 (aav ⟨gs,fs⟩).2) (aab R0.out hq) (aab R1.out hq);rw [Hr.out] at q ⊢;refine bodyPost_ret (adz rfl rfl q.1 q.2) rfl ⟨rfl,?_⟩;have h:=aj.out;exact bE3 ad ae h
            . have Hr:Hid (aav ⟨gs,fs⟩=(0,0)):=by show aav ⟨gs,fs⟩=_;rw [cn.out];unfold aiv;rw [if_neg Hm.out,cX.out,if_neg hpz]
              go_wp2_with (go_at_call 45;((with_reducible refine (ad0 (S:=S) _ _ fs _ ?_ (Aai bF.out (by omega))).mono ?_);refine Hf.out.later aaG ?_;have h:=aj.out;exact bE1 h;rintro e w5 ⟨rfl,ae⟩;have bq:w.heap.size+1<w5.heap.size:=(by have:=ae.size;omega);have b4:w.heap.size<w5.heap.size:=(by omega);obtain⟨bD,bG⟩:=aaH ae;have g0:=aab R0.out ae;have g1:=aab R1.out ae;have f0:=(ae.frozen (p:=⟨w.heap.size+1,0,none⟩) aE).trans F0.out;have f1:=(ae.frozen (p:=⟨w.heap.size+1,1,none⟩) aE).trans F1.out));have q:=acw (u := .int .i64 (aav ⟨gs,fs⟩).1) (v := .int .i64 (aav ⟨gs,fs⟩).2) (aab R0.out ae) (aab R1.out ae);rw [Hr.out] at q ⊢;refine bodyPost_ret (adz rfl rfl q.1 q.2) rfl ⟨rfl,?_⟩;have h:=aj.out;exact bE2 ae h
end
end Go.Proofs.YtpeejlpcikefcaaGreatDoor
