import Derived.Deep.CutRange
import Derived.Deep.Light
import Derived.Test.YtpeejlpcikefcaaGreatDoorPGAhd
import Derived.Test.YtpeejlpcikefcaaGreatDoorPChk4
/- Contracts of code.first over the three closures, and of the checker's ins. The contract of the checker's ins. The contract of the checker's body. Contracts of core.Fault, of the closure that looks for main, and of slices.IndexFunc over it. What is wrong with a unit: plain. The contract of code.Check. -/
set_option maxHeartbeats 4000000
set_option maxRecDepth 100000
namespace Go.Proofs.YtpeejlpcikefcaaGreatDoor
section
open Go.RowKit
def adh(e1 e2 e3:Int):Int:=if e1≠0 then e1 else if e2≠0 then e2 else e3
theorem aod (lb : Nat) (pc px pk : Value) (e1 e2 e3 : Int) (w : World)
 (h0:w.cell? ⟨lb,0,none⟩=some (.func (.func 101) #[] #[pc,px]))
 (h1:w.cell? ⟨lb,1,none⟩=some (.func (.func 102) #[] #[pc,px]))
 (h2:w.cell? ⟨lb,2,none⟩=some (.func (.func 103) #[] #[pk,px,pc]))
 (H1:Hid (∀w',Below w.heap.size w w'->Calls Tryz.prog 101 #[pc,px] w' fun e aE=>e = .returned (.int .i64 e1)∧Below w'.heap.size w' aE))
 (H2:Hid (∀w',Below w.heap.size w w'->Calls Tryz.prog 102 #[pc,px] w' fun e aE=>e = .returned (.int .i64 e2)∧Below w'.heap.size w' aE))
 (H3:Hid (∀w',Below w.heap.size w w'->Calls Tryz.prog 103 #[pk,px,pc] w' fun e aE=>e = .returned (.int .i64 e3)∧Below w'.heap.size w' aE)) :
 Calls Tryz.prog 100 #[.slice (some ⟨lb,0,none⟩) 3 3] w fun e w'=>e = .returned (.int .i64 (adh e1 e2 e3))∧Below w.heap.size w w':=by
 go_enter Tryz.func100,Tryz.ntmps100;go_wp2_with fail;go_loopw [8] (fun i wr=>∃k:Nat,k<=3∧i = .int .i64 k∧(1<=k->e1=0)∧(2<=k->e2=0)∧(3<=k->e3=0)∧Below w.heap.size w wr) (fun i _=>3 - (intOf i).toNat)
 case atStart=>exact⟨0,by omega,rfl,fun _=>by omega,fun _=>by omega,fun _=>by omega,bE⟩
 case round =>
  obtain⟨k,hk,rfl,z1,z2,z3,aZ⟩:=hrel;have g0:=aab h0 aZ;have g1:=aab h1 aZ;have g2:=aab h2 aZ;have aJ:=hid aZ;have Z1:=hid z1;have Z2:=hid z2;have Z3:=hid z3;have cx:=aZ.size;clear aZ z1 z2 z3;have dK:k=0∨k=1∨k=2∨k=3:=by omega
  rcases dK with rfl | rfl | rfl | rfl
  . by_cases hz:e1=0
    . have aq:e1<=0:=by omega
      have br:0<=e1:=by omega
      have Hz:=hid hz;clear hz;go_wp2_with (go_at_call 101;((with_reducible refine (H1.out _ aJ.out).mono ?_);rintro e w1 ⟨rfl,aG⟩));go_roundw
      case rel=>exact⟨1,by omega,rfl,fun _=>Hz.out,fun _=>by omega,fun _=>by omega,by have h:=aJ.out;exact bE2 aG h⟩
      case measure=>simp [intOf]
    . have aq:e1<0∨0<e1:=by omega
      have Hz:=hid hz;clear hz;go_wp2_with (go_at_call 101;((with_reducible refine (H1.out _ aJ.out).mono ?_);rintro e w1 ⟨rfl,aG⟩));go_ret;exact⟨aaL (by unfold adh;rw [if_pos Hz.out]),by have h:=aJ.out;exact bE2 aG h⟩
  . by_cases hz:e2=0
    . have aq:e2<=0:=by omega
      have br:0<=e2:=by omega
      have Hz:=hid hz;clear hz;go_wp2_with (go_at_call 102;((with_reducible refine (H2.out _ aJ.out).mono ?_);rintro e w1 ⟨rfl,aG⟩));go_roundw
      case rel=>exact⟨2,by omega,rfl,fun _=>Z1.out (by omega),fun _=>Hz.out,fun _=>by omega,by have h:=aJ.out;exact bE2 aG h⟩
      case measure=>simp [intOf]
    . have aq:e2<0∨0<e2:=by omega
      have Hz:=hid hz;clear hz;go_wp2_with (go_at_call 102;((with_reducible refine (H2.out _ aJ.out).mono ?_);rintro e w1 ⟨rfl,aG⟩));go_ret;exact⟨aaL (by unfold adh;rw [if_neg (by simpa using Z1.out (by omega)),if_pos Hz.out]),by have h:=aJ.out;exact bE2 aG h⟩
  . by_cases hz:e3=0
    . have aq:e3<=0:=by omega
      have br:0<=e3:=by omega
      have Hz:=hid hz;clear hz;go_wp2_with (go_at_call 103;((with_reducible refine (H3.out _ aJ.out).mono ?_);rintro e w1 ⟨rfl,aG⟩));go_roundw
      case rel=>exact⟨3,by omega,rfl,fun _=>Z1.out (by omega),fun _=>Z2.out (by omega),fun _=>Hz.out,by have h:=aJ.out;exact bE2 aG h⟩
      case measure=>simp [intOf]
    . have aq:e3<0∨0<e3:=by omega
      have Hz:=hid hz;clear hz;go_wp2_with (go_at_call 103;((with_reducible refine (H3.out _ aJ.out).mono ?_);rintro e w1 ⟨rfl,aG⟩));go_ret;exact⟨aaL (by unfold adh;rw [if_neg (by simpa using Z1.out (by omega)),if_neg (by simpa using Z2.out (by omega))]),by have h:=aJ.out;exact bE2 aG h⟩
  . go_wp2_with fail
    go_ret;exact⟨aaL (by unfold adh;rw [if_neg (by simpa using Z1.out (by omega)),if_neg (by simpa using Z2.out (by omega)),Z3.out (by omega)]),by have h:=aJ.out;exact bE1 h⟩
theorem aiD (W : World) (lb : Nat) (pc px pk : Value) (e1 e2 e3 : Int) (w : World)
 (H1:Hid (∀w',Below W.heap.size W w'->Calls Tryz.prog 101 #[pc,px] w' fun e aE=>e = .returned (.int .i64 e1)∧Below w'.heap.size w' aE))
 (H2:Hid (∀w',Below W.heap.size W w'->Calls Tryz.prog 102 #[pc,px] w' fun e aE=>e = .returned (.int .i64 e2)∧Below w'.heap.size w' aE))
 (H3:Hid (∀w',Below W.heap.size W w'->Calls Tryz.prog 103 #[pk,px,pc] w' fun e aE=>e = .returned (.int .i64 e3)∧Below w'.heap.size w' aE))
 (hW:Below W.heap.size W w)
 (h0:w.cell? ⟨lb,0,none⟩=some (.func (.func 101) #[] #[pc,px]))
 (h1:w.cell? ⟨lb,1,none⟩=some (.func (.func 102) #[] #[pc,px]))
 (h2:w.cell? ⟨lb,2,none⟩=some (.func (.func 103) #[] #[pk,px,pc])) :
 Calls Tryz.prog 100 #[.slice (some ⟨lb,0,none⟩) 3 3] w fun e w'=>e = .returned (.int .i64 (adh e1 e2 e3))∧Below w.heap.size w w' :=
 aod lb pc px pk e1 e2 e3 w h0 h1 h2 (fun w' h=>H1 w' (hW.trans (h.mono hW.size))) (fun w' h=>H2 w' (hW.trans (h.mono hW.size))) (fun w' h=>H3 w' (hW.trans (h.mono hW.size)))
def acx(x:aaK):Bool :=
 (!shpD x.op&&decide (x.dst ≠ -1))||(!shpA x.op&&decide (x.a≠⟨false,0⟩))||(!shpB x.op&&decide (x.b≠⟨false,0⟩))||(decide (x.op≠20)&&(decide (x.fn≠0)||decide (0<x.args.length)))
def age(fs:List aav)(regs:Int)(x:aaK):Int :=
 if ¬(1<=x.op∧x.op<=22) then 4
 else if acx x=true then 5
 else if (shpD x.op=true∧¬(x.op=20∧x.dst = -1))∧agY regs x.dst≠0 then 3
 else adh (acu regs x.a) (acu regs x.b) (ado fs regs x)
end
section
open Go.RowKit
theorem aoe {op:Int}(h:1<=op∧op<=22) :
 (shpD op=true∧shpA op=true∧shpB op=false∧(decide (op<=20)&&decide (20<=op))=false) ∨
 (shpD op=true∧shpA op=true∧shpB op=true∧(decide (op<=20)&&decide (20<=op))=false) ∨
 (shpD op=false∧shpA op=true∧shpB op=true∧(decide (op<=20)&&decide (20<=op))=false) ∨
 (shpD op=true∧shpA op=false∧shpB op=false∧(decide (op<=20)&&decide (20<=op))=true) ∨
 (shpD op=true∧shpA op=false∧shpB op=false∧(decide (op<=20)&&decide (20<=op))=false) ∨
 (shpD op=false∧shpA op=true∧shpB op=false∧(decide (op<=20)&&decide (20<=op))=false):=by
 simp only [shpD,shpA,shpB,Bool.or_eq_true,Bool.or_eq_false_iff,Ab0,Bool.and_eq_false_iff,decide_eq_true_eq,decide_eq_false_iff_not];omega
theorem aof {S S' : Nat -> Prop} (ga : Option Addr) (gn gc : Nat) (fs : List aav) (fa : Option Addr) (fc : Nat) (s : ByteArray) (p : Int) (regs : Int) (ba : Option Addr) (bn bc : Nat) (aa : Option Addr) (an ac : Nat) (x : aaK) (ra : Option Addr) (rc : Nat) (w : World) (h0 : 0 <= regs) (h1 : regs <= 100)
 (b1:SlAt S w 4 abC (.slice fa fs.length fc) fs) (has:SlAt S' w 2 agi (.slice ra x.args.length rc) x.args) (bD:fs.length<=1048576) (_ho:I64 x.op) (_hd:I64 x.dst) (_ha:I64 x.a.n) (_hb:I64 x.b.n) (_hf:I64 x.fn) :
 Calls Tryz.prog 72 #[.agg #[.slice ga gn gc,.slice fa fs.length fc,.string s,.int .i64 p,.int .i64 regs,.slice ba bn bc,.slice aa an ac],.agg #[.int .i64 x.op,.int .i64 x.dst,.bool x.a.reg,.int .i64 x.a.n,.bool x.b.reg,.int .i64 x.b.n,.int .i64 x.fn,.slice ra x.args.length rc]] w fun e w' =>
  e = .returned (.int .i64 (age fs regs x))∧Below w.heap.size w w':=by
 have bL:=hid b1;have Has:=hid has;obtain⟨_,_,dJ,dx⟩:=has.val;cases dJ;clear b1 has
 by_cases hop:1<=x.op∧x.op<=22
 case neg =>
  have Hr:=hid (show age fs regs x=4 by simp only [age,hop];simp);go_enter Tryz.func72,Tryz.ntmps72;go_wp2_with (go_at_call 42;((with_reducible refine (aaC _ _ _ _).mono ?_);rintro e w' ⟨rfl,rfl⟩));go_ret;exact⟨aaL Hr.out.symm,bE⟩
 generalize hbad:acx x=bad;have aU:=hid hbad;clear hbad;go_enter Tryz.func72,Tryz.ntmps72;go_upto_region 5 with (first | (go_at_call 42;((with_reducible refine (aaC _ _ _ _).mono ?_);rintro e w' ⟨rfl,rfl⟩)) | (go_at_call 99;((with_reducible refine (aiH _ _).mono ?_);rintro e w1 ⟨rfl,aG⟩;obtain⟨ai,aM⟩:=aaI aG;have aq:w.heap.size+1<w1.heap.size:=(by have:=aG.size;simp at this;omega);have aA:w.heap.size<w1.heap.size:=(by omega))))
 obtain⟨W,hW⟩:∃W,W=(w1.alloc (.cells #[.bool (shpD x.op),.bool (shpA x.op),.bool (shpB x.op)] 154)).alloc (.cells #[.bool (decide (x.op<=20)&&decide (20<=x.op))] 4):=⟨_,rfl⟩
 rw [<-hW];have s0:W.cell? ⟨w1.heap.size,0,none⟩=some (.bool (shpD x.op)):=by rw [hW];simp
 have s1:W.cell? ⟨w1.heap.size,1,none⟩=some (.bool (shpA x.op)):=by rw [hW];simp
 have s2:W.cell? ⟨w1.heap.size,2,none⟩=some (.bool (shpB x.op)):=by rw [hW];simp
 have s3:W.cell? ⟨w1.heap.size+1,0,none⟩=some (.bool (decide (x.op<=20)&&decide (20<=x.op))):=by rw [hW];simp
 have x0:W.cell? ⟨w.heap.size+1,0,none⟩=some (.int .i64 x.op):=by rw [hW];simp [go_sem,ai,aq,aA]
 have x1:W.cell? ⟨w.heap.size+1,1,none⟩=some (.int .i64 x.dst):=by rw [hW];simp [go_sem,ai,aq,aA]
 have x2:W.cell? ⟨w.heap.size+1,2,none⟩=some (.bool x.a.reg):=by rw [hW];simp [go_sem,ai,aq,aA]
 have x3:W.cell? ⟨w.heap.size+1,3,none⟩=some (.int .i64 x.a.n):=by rw [hW];simp [go_sem,ai,aq,aA]
 have x4:W.cell? ⟨w.heap.size+1,4,none⟩=some (.bool x.b.reg):=by rw [hW];simp [go_sem,ai,aq,aA]
 have x5:W.cell? ⟨w.heap.size+1,5,none⟩=some (.int .i64 x.b.n):=by rw [hW];simp [go_sem,ai,aq,aA]
 have x6:W.cell? ⟨w.heap.size+1,6,none⟩=some (.int .i64 x.fn):=by rw [hW];simp [go_sem,ai,aq,aA]
 have x7:W.cell? ⟨w.heap.size+1,7,none⟩=some (.slice ra x.args.length rc):=by rw [hW];simp [go_sem,ai,aq,aA]
 have cW:Below (w.heap.size+2) ((w.alloc (.cells #[.slice ga gn gc,.slice fa fs.length fc,.string s,.int .i64 p,.int .i64 regs,.slice ba bn bc,.slice aa an ac] 86)).alloc (.cells #[.int .i64 x.op,.int .i64 x.dst,.bool x.a.reg,.int .i64 x.a.n,.bool x.b.reg,.int .i64 x.b.n,.int .i64 x.fn,.slice ra x.args.length rc] 49)) W:=by
  rw [hW];exact bE1 aG
 have cS:=hid cW;have HC:Hid (aal W w.heap.size 0 [.slice ga gn gc,.slice fa fs.length fc,.string s,.int .i64 p,.int .i64 regs,.slice ba bn bc,.slice aa an ac]):=by
  rw [hW];exact .cons (by simp [go_sem,ai,aA]) (.cons (by simp [go_sem,ai,aA]) (.cons (by simp [go_sem,ai,aA]) (.cons (by simp [go_sem,ai,aA]) (.cons (by simp [go_sem,ai,aA]) (.cons (by simp [go_sem,ai,aA]) (.cons (by simp [go_sem,ai,aA]) (.nil _ _ _)))))))
 have z1:w.heap.size+1<W.heap.size:=by rw [hW];simp;omega
 have z2:w1.heap.size+1<W.heap.size:=by rw [hW];simp
 clear cW hW ai aM aG aq aA;generalize w1.heap.size=sb at *;have hb:=aU.out;unfold acx at hb;have cc:bad=((!shpD x.op&&(decide (x.dst < -1)||decide (-1<x.dst)))||(!shpA x.op&&(x.a.reg||(decide (x.a.n<0)||decide (0<x.a.n))))||(!shpB x.op&&(x.b.reg||(decide (x.b.n<0)||decide (0<x.b.n))))||(!(decide (x.op<=20)&&decide (20<=x.op))&&((decide (x.fn<0)||decide (0<x.fn))||decide (0<x.args.length)))):=by
  have v0:∀v:aaA,decide (v≠⟨false,0⟩)=(v.reg||(decide (v.n<0)||decide (0<v.n))):=fun⟨r,n⟩=>by
   rw [Abe];cases r <;> simp <;> omega
  have i0:∀a b:Int,decide (a≠b)=(decide (a<b)||decide (b<a)):=fun a b=>by rw [Abe];simp;omega
  have i1:∀a b:Int,(decide (a<b)||decide (b<a))=!(decide (a<=b)&&decide (b<=a)):=fun a b=>by rw [Abe];simp;omega
  rw [<-hb,v0,v0,i0,i0,i0,i1 x.op 20]
 have cB:=aoe hop;clear hb;obtain⟨D,hD⟩:∃D,shpD x.op=D:=⟨_,rfl⟩
 obtain⟨A,hA⟩:∃A,shpA x.op=A:=⟨_,rfl⟩
 obtain⟨B,hB⟩:∃B,shpB x.op=B:=⟨_,rfl⟩
 obtain⟨kz,bf⟩:∃kz,(decide (x.op<=20)&&decide (20<=x.op))=kz:=⟨_,rfl⟩
 obtain⟨dz,bO⟩:∃dz,(decide (x.dst < -1)||decide (-1<x.dst))=dz:=⟨_,rfl⟩
 obtain⟨az,cL⟩:∃az,(x.a.reg||(decide (x.a.n<0)||decide (0<x.a.n)))=az:=⟨_,rfl⟩
 obtain⟨bz,df⟩:∃bz,(x.b.reg||(decide (x.b.n<0)||decide (0<x.b.n)))=bz:=⟨_,rfl⟩
 obtain⟨fz,dr⟩:∃fz,(decide (x.fn<0)||decide (0<x.fn))=fz:=⟨_,rfl⟩
 obtain⟨lz,dj⟩:∃lz,decide (0<x.args.length)=lz:=⟨_,rfl⟩
 rw [hD,hA,hB,bf,bO,cL,df,dr,dj] at cc;rw [hD,hA,hB,bf] at cB;rw [hD] at s0;rw [hA] at s1;rw [hB] at s2;rw [bf] at s3;have cQ:=hid cc;have HD:=hid hD;have bN:=hid bf;clear cc hD hA hB bf;go_cut [62] from 8 to 62 (fun v wc=>v = .bool bad∧W=wc)
 case first =>
  clear bL Has cS dx z1 z2 HD bN aU HC;rcases cB with⟨rfl,rfl,rfl,rfl⟩ | ⟨rfl,rfl,rfl,rfl⟩ | ⟨rfl,rfl,rfl,rfl⟩ | ⟨rfl,rfl,rfl,rfl⟩ | ⟨rfl,rfl,rfl,rfl⟩ | ⟨rfl,rfl,rfl,rfl⟩
  all_goals
   go_wp2_with fail
  all_goals
   go_meet;refine⟨congrArg Value.bool ?_,rfl⟩;rw [cQ.out];simp [*]
 case rest =>
  obtain⟨rfl,rfl⟩:=hcut;clear bO cL df dr dj cB cQ;have ct:Below w.heap.size w W:=(bE:Below w.heap.size w ((w.alloc (.cells #[.slice ga gn gc,.slice fa fs.length fc,.string s,.int .i64 p,.int .i64 regs,.slice ba bn bc,.slice aa an ac] 86)).alloc (.cells #[.int .i64 x.op,.int .i64 x.dst,.bool x.a.reg,.int .i64 x.a.n,.bool x.b.reg,.int .i64 x.b.n,.int .i64 x.fn,.slice ra x.args.length rc] 49))).trans (cS.out.mono (by omega));have aR:=hid ct;cases bad
  case true =>
   have Hr:=hid (show age fs regs x=5 by simp only [age,hop,aU.out];simp);clear ct;go_wp2_with fail;go_ret;exact⟨aaL Hr.out.symm,by have h:=aR.out;exact bE1 h⟩
  have bS:kz=decide (x.op=20):=by rw [<-bN.out,Abe];simp;omega
  have di:Hid (∀w',Below W.heap.size W w'->Calls Tryz.prog 101 #[.pointer (some ⟨w.heap.size,0,none⟩),.pointer (some ⟨w.heap.size+1,0,none⟩)] w' fun e aE=>e = .returned (.int .i64 (acu regs x.a))∧Below w'.heap.size w' aE) :=
   fun w' h=>ard _ _ _ _ _ _ regs _ _ _ _ _ _ x.a w' h0 h1 _ _ _ _ _ _ _ _ rfl rfl rfl rfl (HC.out.later h) (aab x2 h) (aab x3 h)
  have c9:Hid (∀w',Below W.heap.size W w'->Calls Tryz.prog 102 #[.pointer (some ⟨w.heap.size,0,none⟩),.pointer (some ⟨w.heap.size+1,0,none⟩)] w' fun e aE=>e = .returned (.int .i64 (acu regs x.b))∧Below w'.heap.size w' aE) :=
   fun w' h=>are _ _ _ _ _ _ regs _ _ _ _ _ _ x.b w' h0 h1 _ _ _ _ _ _ _ _ rfl rfl rfl rfl (HC.out.later h) (aab x4 h) (aab x5 h)
  have cY:Hid (∀w',Below W.heap.size W w'->Calls Tryz.prog 103 #[.pointer (some ⟨sb+1,0,none⟩),.pointer (some ⟨w.heap.size+1,0,none⟩),.pointer (some ⟨w.heap.size,0,none⟩)] w' fun e aE=>e = .returned (.int .i64 (ado fs regs x))∧Below w'.heap.size w' aE) :=
   fun w' h=>arf _ _ _ _ _ _ fs regs _ _ _ _ _ _ x w' h0 h1 _ _ _ _ _ _ _ _ _ rfl rfl rfl (HC.out.later h) (by rw [<-bS];exact aab s3 h) (aab x6 h) (aab x7 h) ((bL.out.later aaE aR.out).later aaE h) ((Has.out.later aaM aR.out).later aaM h) bD
  obtain⟨y0,y1,y2,y3,y4,y5,y6⟩:=HC.out.get7;simp only [Aab] at y1 y2 y3 y4 y5 y6;have z0:w.heap.size<W.heap.size:=by omega
  clear ct bS;have b3:∀d:Bool,d=(D&&!(kz&&(decide (x.dst <= -1)&&decide (-1<=x.dst))))->((shpD x.op=true∧¬(x.op=20∧x.dst = -1))↔d=true):=by
   intro d hd;rw [hd,HD.out,<-bN.out];simp;omega
  have aV:=hid b3;clear b3;obtain⟨ez,dH⟩:∃ez,(decide (x.dst <= -1)&&decide (-1<=x.dst))=ez:=⟨_,rfl⟩
  rw [dH] at aV;have bO:D=true∨D=false:=by cases D <;> simp
  have bf:kz=true∨kz=false:=by cases kz <;> simp
  by_cases hgo:(D&&!(kz&&ez))=true
  . have aI:age fs regs x=if agY regs x.dst≠0 then 3 else adh (acu regs x.a) (acu regs x.b) (ado fs regs x):=by
     simp only [age,hop,aU.out,(aV.out _ rfl).2 hgo];simp
    have be:(D=true∧kz=false)∨(D=true∧kz=true∧ez=false):=by revert hgo;cases D <;> cases kz <;> cases ez <;> simp
    clear hgo bO bf aV HD bN
    by_cases hd:agY regs x.dst=0
    . have aW:=hid (show age fs regs x=adh (acu regs x.a) (acu regs x.b) (ado fs regs x) by rw [aI,hd];simp)
      clear aI;rcases be with⟨rfl,rfl⟩ | ⟨rfl,rfl,rfl⟩
      all_goals
       go_wp2_with (first | (go_at_call 98;((with_reducible refine (ahu _ _ _ _ _ _ _ _ _ h0 h1).mono ?_);rintro e w2 ⟨rfl,ad⟩)) | (go_at_call 100;((with_reducible refine (aiD W _ _ _ _ (acu regs x.a) (acu regs x.b) (ado fs regs x) _ di c9 cY ?_ ?_ ?_ ?_).mono ?_);exact bE1 ad;simp;simp;simp;rintro e w3 ⟨rfl,cu⟩)));go_ret;exact⟨aaL aW.out.symm,by have h:=aR.out;exact bE3 cu ad h⟩
    . have dG:agY regs x.dst=3:=(apx _ _).resolve_left hd
      have aW:=hid (show age fs regs x=3 by rw [aI,dG];simp);clear aI hd;rcases be with⟨rfl,rfl⟩ | ⟨rfl,rfl,rfl⟩
      all_goals
       go_wp2_with (go_at_call 98;((with_reducible refine (ahu _ _ _ _ _ _ _ _ _ h0 h1).mono ?_);rintro e w2 ⟨rfl,ad⟩));go_ret;exact⟨aaL aW.out.symm,by have h:=aR.out;exact bE2 ad h⟩
  . have aI:age fs regs x=adh (acu regs x.a) (acu regs x.b) (ado fs regs x):=by
     have:¬(shpD x.op=true∧¬(x.op=20∧x.dst = -1)):=fun h=>hgo ((aV.out _ rfl).1 h);simp only [age,hop,aU.out,this];simp
    have aW:=hid aI;clear aI;have be:D=false∨(D=true∧kz=true∧ez=true):=by revert hgo;cases D <;> cases kz <;> cases ez <;> simp
    clear hgo bO bf aV HD bN;rcases be with rfl | ⟨rfl,rfl,rfl⟩
    all_goals
     go_wp2_with (go_at_call 100;((with_reducible refine (aiD W _ _ _ _ (acu regs x.a) (acu regs x.b) (ado fs regs x) _ di c9 cY ?_ ?_ ?_ ?_).mono ?_);exact bE;simp;simp;simp;rintro e w3 ⟨rfl,cu⟩));go_ret;exact⟨aaL aW.out.symm,by have h:=aR.out;exact bE2 cu h⟩
end
section
open Go.RowKit
def ab8 (e : Nat -> Int) : Nat -> Int
 | 0=>0
 | n+1=>if ab8 e n≠0 then ab8 e n else e n
variable {e:Nat->Int}{n:Nat}
theorem abB(h:∀j,j<n->e j=0):ab8 e n=0:=by
 induction n with
 | zero=>rfl
 | succ n ih=>rw [ab8,ih (fun j hj=>h j (by omega)),if_neg (by simp)];exact h n (by omega)
theorem aer{k:Nat}(h:∀j,j<k->e j=0)(hk:k<n)(he:e k≠0):ab8 e n=e k:=by
 induction n with
 | zero=>omega
 | succ n ih =>
   rw [ab8];rcases Abm.1 hk with h1 | h1
   . rw [ih h1,if_pos he]
   . subst h1;rw [abB h,if_neg (by simp)]
theorem aeR(h:ab8 e n=0):∀j,j<n->e j=0:=by
 induction n with
 | zero=>intro j hj;omega
 | succ n ih =>
   rw [ab8] at h
   by_cases h1:ab8 e n=0
   . rw [if_neg (by simpa using h1)] at h
     exact abY (ih h1) h
   . rw [if_pos h1] at h;exact absurd h h1
theorem ahr{regs:Int}{e:as4}(h:afA n regs e=0) :
 1<=e.kind∧e.kind<=3∧(e.to.length:Int)=e.kind - 1∧(∀t∈e.to,1<=t∧t<=(n:Int) - 1)∧¬(e.kind=3∧e.to.getD 0 0=e.to.getD 1 0)∧acu regs e.on=0:=by
 unfold afA at h
 by_cases h1:1<=e.kind∧e.kind<=3
 case neg=>rw [if_pos h1] at h;omega
 rw [if_neg (by simpa using h1)] at h
 by_cases h2:(e.to.length:Int)=e.kind - 1
 case neg=>rw [if_pos h2] at h;omega
 rw [if_neg (by simpa using h2)] at h
 by_cases h3:e.to.any (ae1 n)=true
 . rw [if_pos h3] at h;omega
 rw [if_neg h3] at h
 by_cases h4:(e.kind=3∧e.to.getD 0 0=e.to.getD 1 0)∨(e.kind=2∧e.on≠⟨false,0⟩)
 . rw [if_pos h4] at h;omega
 rw [if_neg h4] at h;refine⟨h1.1,h1.2,h2,fun t ht=>?_,fun h=>h4 (.inl h),h⟩;have:ae1 n t≠true:=fun hb=>h3 (List.any_eq_true.2 ⟨t,ht,hb⟩);simpa [ae1] using this
def agf(regs:Int)(bs:List DBlock)(k:Nat):Int:=match bs[k]? with | some b=>afA bs.length regs b.fin | none=>0
def agP(regs:Int)(bs:List DBlock)(i:Nat)(b:DBlock)(k:Nat):Int:=match b.phis[k]? with | some p=>ajA regs i (aheadF bs) p | none=>0
def ajg(fs:List aav)(regs:Int)(b:DBlock)(k:Nat):Int:=match b.list[k]? with | some x=>age fs regs x | none=>0
def aeh(fs:List aav)(regs:Int)(bs:List DBlock)(k:Nat):Int :=
 match bs[k]? with
 | some b=>if ab8 (agP regs bs k b) b.phis.length≠0 then ab8 (agP regs bs k b) b.phis.length else ab8 (ajg fs regs b) b.list.length
 | none=>0
def adx(fs:List aav)(f:aav):Int :=
 if ab8 (agf f.regs f.blocks) f.blocks.length≠0 then ab8 (agf f.regs f.blocks) f.blocks.length
 else ab8 (aeh fs f.regs f.blocks) f.blocks.length
theorem al9 {S S' : Nat -> Prop} (ga : Option Addr) (gn gc : Nat) (fs : List aav) (fa : Option Addr) (fc : Nat) (f : aav) (ba : Option Addr) (bc : Nat) (aa : Option Addr) (an ac : Nat) (w : World) (h0 : 0 <= f.regs) (h1 : f.regs <= 100)
 (b1:SlAt S w 4 abC (.slice fa fs.length fc) fs) (bm:SlAt S' w 6 aa2 (.slice ba f.blocks.length bc) f.blocks) (bD:fs.length<=1048576) (aZ:f.blocks.length<=1048576) (hw:ae2 w) :
 Calls Tryz.prog 44 #[.agg #[.slice ga gn gc,.slice fa fs.length fc,.string f.name,.int .i64 f.params,.int .i64 f.regs,.slice ba f.blocks.length bc,.slice aa an ac]] w fun e w' =>
  e = .returned (.int .i64 (adx fs f))∧Below w.heap.size w w':=by
 have bL:=hid b1;have aP:=hid bm;have Hw:=hid hw;clear b1 bm hw;obtain⟨regs,aX⟩:∃r,r=f.regs:=⟨_,rfl⟩
 obtain⟨bs,bB⟩:∃b,b=f.blocks:=⟨_,rfl⟩
 rw [<-aX] at h0 h1 ⊢;rw [<-bB] at aP aZ ⊢;have aN:=hid aX;have a1:=hid bB;clear aX bB;have db:∀o,Below w.heap.size w (w.alloc o):=fun o=>by exact bE
 have dO:=hid db;clear db;go_enter Tryz.func44,Tryz.ntmps44;go_wp2_with fail;go_loopw [18] (fun i wr=>∃k:Nat,k<=bs.length∧i = .int .i64 k∧(∀j,j<k->agf regs bs j=0)∧Below (w.heap.size+1) (w.alloc (.cells #[.slice ga gn gc,.slice fa fs.length fc,.string f.name,.int .i64 f.params,.int .i64 regs,.slice ba bs.length bc,.slice aa an ac] 86)) wr) (fun i _=>bs.length - (intOf i).toNat)
 case atStart=>exact⟨0,Aaj _,rfl,fun j hj=>by omega,Below.refl _ _⟩
 case round =>
  obtain⟨k,hk,rfl,ah,ax⟩:=hrel;have aC:=hid ah;have b6:Below w.heap.size w wr:=(dO.out _).trans (ax.mono (by omega));obtain⟨ai,aM⟩:=aaI ax;have aq:w.heap.size<wr.heap.size:=by have:=ax.size;simp at this;omega
  have aj:=hid b6;have cw:=hid ax;clear ah ax
  by_cases af:k<bs.length
  . obtain⟨b,off,cs,rfl,hS,hx,-,ar⟩:=aP.out.get af
    obtain⟨pa,pc,la,lc,ta,tc,rfl,-,-,dt,dI,cm,dB,-,-⟩:=hx.opens;obtain⟨c0,c1,c2,c3,c4,c5⟩:=(ar.later b6).get6;have cU:=hid dt;clear ar hx dt b6;have he:agf regs bs k=afA bs.length regs bs[k].fin:=by unfold agf;rw [Aaa af]
    have He:=hid he;clear he
    by_cases hz:afA bs.length regs bs[k].fin=0
    . go_wp2_with (go_at_call 69;go_must ((with_reducible refine (aoh (S:=S') _ _ _ _ regs _ bs.length _ _ _ _ _ _ bs[k].fin.to _ h0 h1 (by omega) ?_ ?_).mono ?_);exact ae2.below Hw.out (by have h:=aj.out;exact bE1 h);refine cU.out.later aax ?_;have h:=aj.out;exact bE1 h;rintro e w2 ⟨rfl,ad⟩))
      go_roundw
      case rel=>exact⟨k+1,by omega,by go_num,abY aC.out (He.out.trans hz),by have h:=cw.out;exact bE2 ad h⟩
      case measure=>simp [intOf];omega
    . have b5:=aez hz
      have Hr:Hid (adx fs f=afA bs.length regs bs[k].fin):=by
       have h:=aer aC.out af (by rw [He.out];exact hz);unfold adx;rw [<-aN.out,<-a1.out,h,He.out];exact if_pos hz
      clear hz;go_wp2_with (go_at_call 69;go_must ((with_reducible refine (aoh (S:=S') _ _ _ _ regs _ bs.length _ _ _ _ _ _ bs[k].fin.to _ h0 h1 (by omega) ?_ ?_).mono ?_);exact ae2.below Hw.out (by have h:=aj.out;exact bE1 h);refine cU.out.later aax ?_;have h:=aj.out;exact bE1 h;rintro e w2 ⟨rfl,ad⟩));go_ret;exact⟨aaL Hr.out.symm,by have h:=aj.out;exact bE2 ad h⟩
  . obtain rfl:k=bs.length:=by omega
    have bX:Hid (∀(j:Nat) (x:DBlock),bs[j]?=some x->afA bs.length regs x.fin=0):=fun j x hx=>by
     have hj:=(Aad.1 hx).1;have:=aC.out j hj;unfold agf at this;rw [hx] at this;exact this
    have cz:=hid (abB aC.out);clear b6;go_wp2_with (go_at_call 70;go_must ((with_reducible refine (aoo (S:=S') _ _ _ _ _ bs _ ?_ aZ ?_).mono ?_);exact aP.out.later aau aj.out;exact fun j x hx=>⟨by have:=ahr (bX.out j x hx);omega,fun t ht=>by have:=(ahr (bX.out j x hx)).2.2.2.1 t ht;omega⟩;rintro e w2 ⟨v,rfl,cf,ad⟩;obtain⟨va,vc,rfl,dU⟩:=cf.val;have cT:=hid cf;clear cf;obtain⟨aH,a8⟩:=aaI ad;have br:w.heap.size<w2.heap.size:=(by have:=ad.size;omega);have dN:=hid ad;clear ad));have cO:Hid ((aheadF bs).length=bs.length):=by simp [aheadF,Hid]
    obtain⟨W,hW⟩:∃W,W=w2.setCell ⟨w.heap.size,6,none⟩ (.slice va (aheadF bs).length vc):=⟨_,rfl⟩
    rw [<-hW];have HC:Hid (aal W w.heap.size 0 [.slice ga gn gc,.slice fa fs.length fc,.string f.name,.int .i64 f.params,.int .i64 regs,.slice ba bs.length bc,.slice va (aheadF bs).length vc]):=by
     rw [hW];exact .cons (by simp [go_sem,aH,aq,ai]) (.cons (by simp [go_sem,aH,aq,ai]) (.cons (by simp [go_sem,aH,aq,ai]) (.cons (by simp [go_sem,aH,aq,ai]) (.cons (by simp [go_sem,aH,aq,ai]) (.cons (by simp [go_sem,aH,aq,ai]) (.cons (by simp [go_sem,aH,aq,ai]) (.nil _ _ _)))))))
    have HW:Hid (Below w.heap.size w W):=by
     rw [hW];exact (aj.out.trans (dN.out.mono (by omega))).setCell (Aac _) _
    have bZ:Hid (SlAt (fun b=>wr.heap.size<=b) W 1 rRow (.slice va (aheadF bs).length vc) (aheadF bs)):=by
     rw [hW];exact cT.out.mono acW (fun _ h=>h) (fun b o v hb hc=>by rw [World.cell?_of_block (w:=w2) (Below.heap_setCell _ _ _ _ (by dsimp only;omega))];exact hc)
    have aB:w.heap.size<W.heap.size:=by rw [hW];simp [World.setCell];omega
    clear hW ai aH aM a8 aq br cT;obtain⟨S2,b0⟩:∃S2,Hid (SlAt S2 W 1 rRow (.slice va (aheadF bs).length vc) (aheadF bs)):=⟨_,bZ⟩
    clear bZ;go_loopw [38] (fun i wr=>∃k:Nat,k<=bs.length∧i = .int .i64 k∧(∀j,j<k->aeh fs regs bs j=0)∧Below W.heap.size W wr) (fun i _=>bs.length - (intOf i).toNat)
    case atStart=>exact⟨0,Aaj _,rfl,fun j hj=>by omega,Below.refl _ _⟩
    case round =>
     obtain⟨wq,rfl⟩:∃wq:World,wq=wr:=⟨_,rfl⟩
     obtain⟨k,hk,rfl,ah,ax⟩:=hrel;have ak:=hid ah;have cn:=hid ax;have bT:Below w.heap.size w wq:=HW.out.trans (ax.mono (by omega));have cv:w.heap.size<wq.heap.size:=by have:=ax.size;omega
     clear ah
     by_cases af:k<bs.length
     . obtain⟨b,off,cs,rfl,hS,hx,-,ar⟩:=aP.out.get af
       obtain⟨pa,pc,la,lc,ta,tc,rfl,cJ,dk,-,dI,cm,dB,-,-⟩:=hx.opens;obtain⟨c0,c1,c2,c3,c4,c5⟩:=(ar.later bT).get6;have c6:Hid (k<(aheadF bs).length):=by rw [cO.out];exact af
       have cV:Hid ((aheadF bs).length<=1048576):=by rw [cO.out];exact aZ
       have dw:=hid cJ;have dE:=hid dk;have a7:=hid bT;have He:Hid (aeh fs regs bs k=if ab8 (agP regs bs k bs[k]) bs[k].phis.length≠0 then ab8 (agP regs bs k bs[k]) bs[k].phis.length else ab8 (ajg fs regs bs[k]) bs[k].list.length):=by
        show aeh fs regs bs k=_;unfold aeh;rw [Aaa af]
       clear ar hx cJ dk bT ax;go_wp2_with fail;obtain⟨X,hX⟩:∃X,X=wq.alloc (.cells #[.slice pa bs[k].phis.length pc,.slice la bs[k].list.length lc,.int .i64 bs[k].fin.kind,.bool bs[k].fin.on.reg,.int .i64 bs[k].fin.on.n,.slice ta bs[k].fin.to.length tc] 46):=⟨_,rfl⟩
       rw [<-hX];have dv:Hid (X.cell? ⟨wq.heap.size,1,none⟩=some (.slice la bs[k].list.length lc)):=by rw [hX];simp [Hid]
       have b7:Hid (Below W.heap.size W X):=by rw [hX];have h:=cn.out;exact h.alloc (by have:=h.size;omega) _
       have cb:Hid (Below w.heap.size w X):=by rw [hX];have h:=a7.out;exact h.alloc (by have:=h.size;omega) _
       have bt:wq.heap.size<X.heap.size:=by rw [hX];simp
       clear hX c0 c1 c2 c3 c4 c5;go_loopw [46] (fun i wr=>∃j:Nat,j<=bs[k].phis.length∧i = .int .i64 j∧(∀j',j'<j->agP regs bs k bs[k] j'=0)∧Below X.heap.size X wr) (fun i _=>bs[k].phis.length - (intOf i).toNat)
       case atStart=>exact⟨0,Aaj _,rfl,fun j hj=>by omega,Below.refl _ _⟩
       case round =>
        obtain⟨j,hj,rfl,aF,aY⟩:=hrel;have av:=hid aF;have b4:=hid aY;have bG:Hid (Below W.heap.size W wr):=b7.out.trans (aY.mono (b7.out.size));have aS:Hid (Below w.heap.size w wr):=cb.out.trans (aY.mono (cb.out.size));obtain⟨y0,y1,y2,y3,y4,y5,y6⟩:=(HC.out.later bG.out).get7;simp only [Aab] at y1 y2 y3 y4 y5 y6;have ca:w.heap.size<wr.heap.size:=aac y0;have dP:=aab dv.out aY;clear aF aY
        by_cases hjl:j<bs[k].phis.length
        . obtain⟨b2,cy,cs,rfl,-,hx,-,ar⟩:=dw.out.get hjl
          obtain⟨sa,sc,rfl,bQ,b8,dL⟩:=hx.opens;obtain⟨d0,d1⟩:=(ar.later aS.out).get2;have bK:=hid bQ;have bx:Hid (agP regs bs k bs[k] j=ajA regs k (aheadF bs) bs[k].phis[j]):=by
           show agP regs bs k bs[k] j=_;unfold agP;rw [Aaa hjl]
          clear ar hx bQ
          by_cases hz:ajA regs k (aheadF bs) bs[k].phis[j]=0
          . go_wp2_with (go_at_call 71;go_must ((with_reducible refine (apy (S:=S2) (S':=S') _ _ _ _ _ _ _ _ regs _ _ _ _ _ (aheadF bs) bs[k].phis[j] _ _ k _ h0 h1 ?_ ?_ c6.out cV.out).mono ?_);refine b0.out.later acW ?_;have h:=bG.out;exact bE1 h;refine bK.out.later aaM ?_;have h:=aS.out;exact bE1 h;rintro e w4 ⟨rfl,bA⟩))
            go_roundw
            case rel=>exact⟨j+1,by omega,by go_num,abY av.out (bx.out.trans hz),by have h:=b4.out;exact bE2 bA h⟩
            case measure=>simp [intOf];omega
          . have b5:=aez hz
            have Hr:Hid (adx fs f=ajA regs k (aheadF bs) bs[k].phis[j]):=by
             have h:=aer av.out hjl (by rw [bx.out];exact hz);rw [bx.out] at h;have h2:aeh fs regs bs k=ajA regs k (aheadF bs) bs[k].phis[j]:=by rw [He.out,h];exact if_pos hz
             have h3:=aer ak.out af (by rw [h2];exact hz);show adx fs f=_;unfold adx;rw [<-aN.out,<-a1.out,cz.out,h3,h2];exact if_neg (by simp)
            clear hz;go_wp2_with (go_at_call 71;go_must ((with_reducible refine (apy (S:=S2) (S':=S') _ _ _ _ _ _ _ _ regs _ _ _ _ _ (aheadF bs) bs[k].phis[j] _ _ k _ h0 h1 ?_ ?_ c6.out cV.out).mono ?_);refine b0.out.later acW ?_;have h:=bG.out;exact bE1 h;refine bK.out.later aaM ?_;have h:=aS.out;exact bE1 h;rintro e w4 ⟨rfl,bA⟩));go_ret;exact⟨aaL Hr.out.symm,by have h:=aS.out;exact bE2 bA h⟩
        . obtain rfl:j=bs[k].phis.length:=by omega
          have cP:=hid (abB av.out);go_wp2_with fail;obtain⟨wp,rfl⟩:∃wp:World,wp=wr:=⟨_,rfl⟩
          clear y0 y1 y2 y3 y4 y5 y6 dP;go_loopw [61] (fun i wr=>∃j:Nat,j<=bs[k].list.length∧i = .int .i64 j∧(∀j',j'<j->ajg fs regs bs[k] j'=0)∧Below X.heap.size X wr) (fun i _=>bs[k].list.length - (intOf i).toNat)
          case atStart=>exact⟨0,Aaj _,rfl,fun j hj=>by omega,b4.out⟩
          case round =>
           obtain⟨j,hj,rfl,aF,aY⟩:=hrel;have aQ:=hid aF;have b4:=hid aY;have bG:Hid (Below W.heap.size W wr):=b7.out.trans (aY.mono (b7.out.size));have aS:Hid (Below w.heap.size w wr):=cb.out.trans (aY.mono (cb.out.size));obtain⟨y0,y1,y2,y3,y4,y5,y6⟩:=(HC.out.later bG.out).get7;simp only [Aab] at y1 y2 y3 y4 y5 y6;have ca:w.heap.size<wr.heap.size:=aac y0;clear aF aY
           by_cases hjl:j<bs[k].list.length
           . obtain⟨b2,cy,cs,rfl,-,hx,-,ar⟩:=dE.out.get hjl
             obtain⟨sa,sc,rfl,bg,b8,cN,dd,de,cM,cX⟩:=hx.opens;obtain⟨d0,d1,d2,d3,d4,d5,d6,d7⟩:=(ar.later aS.out).get8;have bh:=hid bg;have dm:=hid cN;have da:=hid dd;have dg:=hid de;have ds:=hid cM;have cK:=hid cX;have bx:Hid (ajg fs regs bs[k] j=age fs regs bs[k].list[j]):=by
              show ajg fs regs bs[k] j=_;unfold ajg;rw [Aaa hjl]
             clear ar hx bg cN dd de cM cX
             by_cases hz:age fs regs bs[k].list[j]=0
             . go_wp2_with (go_at_call 72;go_must ((with_reducible refine (aof (S:=S) (S':=S') _ _ _ fs _ _ _ _ regs _ _ _ _ _ _ bs[k].list[j] _ _ _ h0 h1 ?_ ?_ bD dm.out da.out dg.out ds.out cK.out).mono ?_);refine bL.out.later aaE ?_;have h:=aS.out;exact bE1 h;refine bh.out.later aaM ?_;have h:=aS.out;exact bE1 h;rintro e w4 ⟨rfl,bA⟩))
               go_roundw
               case rel=>exact⟨j+1,by omega,by go_num,abY aQ.out (bx.out.trans hz),by have h:=b4.out;exact bE2 bA h⟩
               case measure=>simp [intOf];omega
             . have b5:=aez hz
               have Hr:Hid (adx fs f=age fs regs bs[k].list[j]):=by
                have h:=aer aQ.out hjl (by rw [bx.out];exact hz);rw [bx.out] at h;have h2:aeh fs regs bs k=age fs regs bs[k].list[j]:=by rw [He.out,cP.out,if_neg (by simp),h]
                have h3:=aer ak.out af (by rw [h2];exact hz);show adx fs f=_;unfold adx;rw [<-aN.out,<-a1.out,cz.out,h3,h2];exact if_neg (by simp)
               clear hz;go_wp2_with (go_at_call 72;go_must ((with_reducible refine (aof (S:=S) (S':=S') _ _ _ fs _ _ _ _ regs _ _ _ _ _ _ bs[k].list[j] _ _ _ h0 h1 ?_ ?_ bD dm.out da.out dg.out ds.out cK.out).mono ?_);refine bL.out.later aaE ?_;have h:=aS.out;exact bE1 h;refine bh.out.later aaM ?_;have h:=aS.out;exact bE1 h;rintro e w4 ⟨rfl,bA⟩));go_ret;exact⟨aaL Hr.out.symm,by have h:=aS.out;exact bE2 bA h⟩
           . obtain rfl:j=bs[k].list.length:=by omega
             have dA:Hid (aeh fs regs bs k=0):=by
              show aeh fs regs bs k=0;rw [He.out,cP.out,if_neg (by simp)];exact abB aQ.out
             go_wp2_with fail;go_roundw
             case rel=>exact⟨k+1,by omega,by go_num,abY ak.out dA.out,bG.out⟩
             case measure=>simp [intOf];omega
     . obtain rfl:k=bs.length:=by omega
       have Hr:Hid (adx fs f=0):=by
        show adx fs f=0;unfold adx;rw [<-aN.out,<-a1.out,cz.out,if_neg (by simp)];exact abB ak.out
       have a7:=hid bT;clear bT ax;go_wp2_with fail;go_ret;exact⟨aaL Hr.out.symm,a7.out⟩
end
section
open Go.RowKit
theorem abF(c a:Int)(w:World) :
 Calls Tryz.prog 20 #[.int .i64 c,.int .i64 a] w fun e w'=>e = .returned (.agg #[.int .i64 c,.int .i64 a])∧Below w.heap.size w w':=by
 go_enter Tryz.func20,Tryz.ntmps20;go_wp2;refine bodyPost_ret (v:=_) ?_ rfl ⟨rfl,?_⟩
 . simp [results,Tryz.results20,go_sem]
 . exact bE
theorem ady {fn : Func} {t : Nat} (dQ : fn.results = #[.cell t 27]) {tmps : Array Value} {b : Nat} (ht : tmps.getD t undef = .pointer (some ⟨b, 0, none⟩)) {c a : Int} {W : World}
 (h0:W.cell? ⟨b,0,none⟩=some (.int .i64 c)) (h1:W.cell? ⟨b,1,none⟩=some (.int .i64 a)):(results fn tmps).run Tryz.prog W = .ok (.agg #[.int .i64 c,.int .i64 a]) W:=by
 simp only [Acn] at ht;simp [results,dQ,ht,go_sem,h0,h1]
theorem acy {w:World}{b:Nat}{x y u v:Value}(h0:w.cell? ⟨b,0,none⟩=some x)(h1:w.cell? ⟨b,1,none⟩=some y) :
 ((w.setCell ⟨b,0,none⟩ u).setCell ⟨b,1,none⟩ v).cell? ⟨b,0,none⟩=some u∧((w.setCell ⟨b,0,none⟩ u).setCell ⟨b,1,none⟩ v).cell? ⟨b,1,none⟩=some v:=by
 simp only [World.cell?] at h0 h1;cases hh:w.heap[b]? with
 | none=>rw [hh] at h0;cases h0
 | some o =>
   rw [hh] at h0 h1;cases o with
   | cells c e fr =>
     simp only [World.cell?,World.setCell,Array.getElem?_modify,hh];simp at h0 h1;have l0:=(Aag.1 h0).1;have l1:=(Aag.1 h1).1;simp [l0,l1]
   | _=>simp at h0
def ahs(f:aav):Bool:=f.name.toList == [109,97,105,110]
theorem aiE(s:ByteArray)(p r:Int)(ba:Option Addr)(n c:Nat)(w:World) :
 Calls Tryz.prog 46 #[.agg #[.string s,.int .i64 p,.int .i64 r,.slice ba n c]] w fun e w'=>e = .returned (.bool (s.toList == [109,97,105,110]))∧Below w.heap.size w w':=by
 go_enter Tryz.func46,Tryz.ntmps46;go_wp2;go_ret;exact⟨rfl,bE⟩
def abz(fs:List aav):Int:=match fs.findIdx? ahs with | some k=>k | none => -1
theorem ad0 {S:Nat->Prop}(fa:Option Addr)(fc:Nat)(fs:List aav)(w:World)(h:SlAt S w 4 abC (.slice fa fs.length fc) fs)(hm:fs.length<=1048576) :
 Calls Tryz.prog 45 #[.slice fa fs.length fc,.func (.func 46) #[] #[]] w fun e w'=>e = .returned (.int .i64 (abz fs))∧Below w.heap.size w w':=by
 have Hh:=hid h;clear h;go_enter Tryz.func45,Tryz.ntmps45;go_wp2_with fail;go_loopw [8] (fun i wr=>∃k:Nat,k<=fs.length∧i = .int .i64 k∧(∀j,j<k->∀x,fs[j]?=some x->ahs x=false)∧Below w.heap.size w wr) (fun i _=>fs.length - (intOf i).toNat)
 case atStart=>exact⟨0,Aaj _,rfl,fun j hj=>by omega,Below.refl _ _⟩
 case round =>
  obtain⟨k,hk,rfl,ah,hb⟩:=hrel;have H:=hid ah;have Hb:=hid hb;clear ah
  by_cases af:k<fs.length
  . obtain⟨b,off,cs,rfl,-,hx,-,ar⟩:=Hh.out.get af
    obtain⟨ba,bc,rfl,-,-,-,-⟩:=hx.opens;obtain⟨c0,c1,c2,c3⟩:=(ar.later hb).get4;clear ar hx hb
    by_cases he:ahs fs[k]=true
    . have hi:abz fs=k:=by unfold abz;rw [ad3 (Aaa af) he H.out]
      have dF:(fs[k].name.toList == [109,97,105,110])=true:=he;have Hi:=hid hi;clear hi he;go_wp2_with (go_at_call 46;((with_reducible refine (aiE _ _ _ _ _ _ _).mono ?_);rintro e w2 ⟨rfl,ad⟩));go_ret;exact⟨aaL Hi.out.symm,by have h:=Hb.out;exact bE2 ad h⟩
    . have cC:ahs fs[k]=false:=by simpa using he
      have dF:(fs[k].name.toList == [109,97,105,110])=false:=cC;have He:=hid cC;clear cC he;go_wp2_with (go_at_call 46;((with_reducible refine (aiE _ _ _ _ _ _ _).mono ?_);rintro e w2 ⟨rfl,ad⟩));go_roundw
      case rel=>exact⟨k+1,by omega,by go_num,abY H.out (fun x hx=>by rw [Aaa af] at hx;cases hx;exact He.out),by have h:=Hb.out;exact bE2 ad h⟩
      case measure=>simp [intOf];omega
  . have hi:abz fs = -1:=by
     unfold abz;rw [ad2 (fun j x hx=>H.out j (by have:=(Aad.1 hx).1;omega) x hx)]
    have Hi:=hid hi;clear hi hb;go_wp2_with fail;go_ret;exact⟨aaL Hi.out.symm,Hb.out⟩
end
section
open Go.RowKit
def adq (e : Nat -> Int) : Nat -> Nat
 | 0=>0
 | n+1=>if adq e n<n then adq e n else if e n≠0 then n else n+1
variable {e:Nat->Int}{n:Nat}
theorem abV(h:∀j,j<n->e j=0):adq e n=n:=by
 induction n with
 | zero=>rfl
 | succ n ih=>rw [adq,ih (fun j hj=>h j (by omega)),if_neg (by omega),if_neg (by simpa using h n (by omega))]
variable {k:Nat}
theorem ajh(h:∀j,j<k->e j=0)(hk:k<n)(he:e k≠0):adq e n=k:=by
 induction n with
 | zero=>omega
 | succ n ih =>
   rw [adq];rcases Abm.1 hk with h1 | h1
   . rw [ih h1,if_pos h1]
   . subst h1;rw [abV h,if_neg (by omega),if_pos he]
theorem agX(h:¬adq e n<n):∀j,j<n->e j=0:=by
 induction n with
 | zero=>intro j hj;omega
 | succ n ih =>
   rw [adq] at h
   by_cases h1:adq e n<n
   . rw [if_pos h1] at h;omega
   . rw [if_neg h1] at h
     by_cases h2:e n=0
     . exact abY (ih h1) h2
     . rw [if_pos h2] at h;omega
theorem aes(h:adq e n<n):e (adq e n)≠0:=by
 induction n with
 | zero=>omega
 | succ n ih =>
   rw [adq] at h ⊢
   by_cases h1:adq e n<n
   . rw [if_pos h1];exact ih h1
   . rw [if_neg h1] at h ⊢
     by_cases h2:e n≠0
     . rw [if_pos h2];exact h2
     . rw [if_neg h2] at h;omega
def adi(gs:List aaG)(k:Nat):List ByteArray:=(gs.take k).map (·.name)
def abm(gs:List aaG)(k:Nat):Int:=((gs.take k).map (·.size)).sum
def ac4(gs:List aaG)(fs:List aav)(k:Nat):List ByteArray:=adi gs gs.length++(fs.take k).map (·.name)
def adj(names:List ByteArray)(words:Int)(g:aaG):Int :=
 if acR g.name=false then 12
 else if aet names g.name=true then 7
 else if ¬(1<=g.size∧g.size<=200) then 3
 else if g.size<(g.init.length:Int) then 9
 else if 200<words+g.size then 10
 else 0
def ad1(gs:List aaG)(k:Nat):Int:=match gs[k]? with | some g=>adj (adi gs k) (abm gs k) g | none=>0
def ab9(gs:List aaG)(fs:List aav)(k:Nat):Int:=match fs[k]? with | some f=>aev (ac4 gs fs k) f | none=>0
def abJ(fs:List aav)(k:Nat):Int:=match fs[k]? with | some f=>adx fs f | none=>0
def air(fs:List aav):Int×Int :=
 if abz fs<0 then (6,0) else if 0<(fs.getD (abz fs).toNat ⟨ByteArray.empty,0,0,[]⟩).params then (5,abz fs) else (0,0)
def aat(u:adz):Int×Int :=
 if 10<u.globals.length∨10<u.funcs.length then (2,0)
 else if adq (ad1 u.globals) u.globals.length<u.globals.length then (ad1 u.globals (adq (ad1 u.globals) u.globals.length),adq (ad1 u.globals) u.globals.length)
 else if adq (ab9 u.globals u.funcs) u.funcs.length<u.funcs.length then (ab9 u.globals u.funcs (adq (ab9 u.globals u.funcs) u.funcs.length),adq (ab9 u.globals u.funcs) u.funcs.length)
 else if adq (abJ u.funcs) u.funcs.length<u.funcs.length then (abJ u.funcs (adq (abJ u.funcs) u.funcs.length),adq (abJ u.funcs) u.funcs.length)
 else air u.funcs
variable {gs:List aaG}
theorem alr(h:k<gs.length):adi gs (k+1)=adi gs k++[gs[k].name]:=by
 unfold adi;rw [Abp h,Aa9];rfl
theorem als{fs:List aav}(h:k<fs.length):ac4 gs fs (k+1)=ac4 gs fs k++[fs[k].name]:=by
 unfold ac4;rw [Abp h,Aa9,Abh];rfl
theorem acQ(h:k<gs.length):abm gs (k+1)=abm gs k+gs[k].size:=by
 unfold abm;rw [Abp h,Aa9,List.sum_append];simp
theorem agh {names:List ByteArray}{words:Int}{g:aaG}(h:adj names words g=0) :
 acR g.name=true∧aet names g.name=false∧1<=g.size∧g.size<=200∧(g.init.length:Int)<=g.size∧words+g.size<=200:=by
 unfold adj at h
 by_cases h1:acR g.name=false
 . rw [if_pos h1] at h;omega
 rw [if_neg h1] at h
 by_cases h2:aet names g.name=true
 . rw [if_pos h2] at h;omega
 rw [if_neg h2] at h
 by_cases h3:1<=g.size∧g.size<=200
 case neg=>rw [if_pos h3] at h;omega
 rw [if_neg (by simpa using h3)] at h
 by_cases h4:g.size<(g.init.length:Int)
 . rw [if_pos h4] at h;omega
 rw [if_neg h4] at h
 by_cases h5:200<words+g.size
 . rw [if_pos h5] at h;omega
 exact⟨by simpa using h1,by simpa using h2,h3.1,h3.2,by omega,by omega⟩
theorem ac9 {names:List ByteArray}{f:aav}(h:aev names f=0) :
 acR f.name=true∧aet names f.name=false∧0<=f.params∧f.params<=6∧f.params<=f.regs∧f.regs<=100∧1<=f.blocks.length∧f.blocks.length<=40∧aa5 f.blocks<=300:=by
 unfold aev at h
 by_cases h1:acR f.name=false
 . rw [if_pos h1] at h;omega
 rw [if_neg h1] at h
 by_cases h2:aet names f.name=true
 . rw [if_pos h2] at h;omega
 rw [if_neg h2] at h
 by_cases h3:¬(0<=f.params∧f.params<=6)∨¬(f.params<=f.regs∧f.regs<=100)
 . rw [if_pos h3] at h;omega
 rw [if_neg h3] at h
 by_cases h4:¬(1<=f.blocks.length∧f.blocks.length<=40)∨300<aa5 f.blocks
 . rw [if_pos h4] at h;omega
 exact⟨by simpa using h1,by simpa using h2,by omega,by omega,by omega,by omega,by omega,by omega,by omega⟩
theorem aiF {fs:List aav}(h:¬abz fs<0):∃m:Nat,m<fs.length∧abz fs=m:=by
 unfold abz at *;split at h
 . rename_i k hk
   rw [Acq] at hk;exact⟨k,hk.1,rfl⟩
 . omega
theorem aht(hk:k<=gs.length)(h:∀j,j<k->ad1 gs j=0):0<=abm gs k∧abm gs k<=200:=by
 induction k with
 | zero=>simp [abm]
 | succ k ih =>
   have h1:=ih (by omega) (fun j hj=>h j (by omega));have h2:=h k (by omega);have af:k<gs.length:=by omega
   unfold ad1 at h2;rw [Aaa af] at h2;have h3:=agh h2;rw [acQ af];omega
variable {w:World}{base:Nat}{v:Value}
theorem aao{w':World}{e:TypeId}{size:Nat}{xs:List Value}(h:w.ownsRow base e size v n xs)(hb:Below w.heap.size w w'):w'.ownsRow base e size v n xs:=by
 obtain⟨h1,h2⟩:=h;refine⟨h1,?_⟩;rcases h2 with h2 | ⟨g,cap,cur,hv,hg,hh,r⟩
 . exact .inl h2
 . have af:g<w.heap.size:=by
    rcases Abn g w.heap.size with h3 | h3
    . exact h3
    . rw [Array.getElem?_eq_none h3] at hh;cases hh
   exact .inr ⟨g,cap,cur,hv,hg,by rw [hb.block g af];exact hh,r⟩
theorem atm{α:Type}{r:Rp α}(f:α->Value){e:TypeId}{l:List α}(h:w.ownsRow base e 1 v l.length (l.map f))(hr:∀x∈l,r (fun b=>base<=b) w [f x] x) :
 SlAt (fun b=>base<=b) w 1 r v l:=by
 obtain⟨h1,h2⟩:=h;rcases h2 with⟨rfl,h2⟩ | ⟨g,cap,cur,rfl,hg,hh,hn,hm,hs,ht⟩
 . have:l=[]:=Aba h2
   subst this;exact⟨none,0,rfl,Aac _,by omega,fun h=>absurd rfl h⟩
 . refine⟨_,cap,rfl,hn,by unfold maxLen at hm;exact hm,fun _=>⟨g,0,rfl,hg,fun i x hx=>⟨[f x],hr x (Aae hx),rfl,?_⟩⟩⟩
   refine .cons ?_ (.nil _ _ _);have h3:(l.map f)[i]?=some (f x):=by rw [Aak,hx];rfl
   rw [<-ht,Abd,Abk] at h3;have hi:i<l.length:=(Aad.1 hx).1;rw [if_pos hi] at h3;simp only [World.cell?,hh,Aab,Abd];simpa using h3
theorem ama{e:TypeId}{l:List ByteArray}(h:w.ownsRow base e 1 v l.length (l.map Value.string)):SlAt (fun b=>base<=b) w 1 arN v l :=
 atm Value.string h (fun _ _=>rfl)
end
section
open Go.RowKit
theorem asl:(Tryz.prog.info? 9).map (fun i=>(i.zero,i.size,i.bytes))=some (some (.string ByteArray.empty),1,16):=by kernel_rfl
theorem aj5 {S : Nat -> Prop} (ga : Option Addr) (gc : Nat) (fa : Option Addr) (fc : Nat) (gs : List aaG) (fs : List aav) (w : World)
 (hg:SlAt S w 3 aaO (.slice ga gs.length gc) gs) (hf:SlAt S w 4 abC (.slice fa fs.length fc) fs) (hw:ae2 w)
 (dC:gs.length<=1048576) (bD:fs.length<=1048576) (b8:∀(k:Nat) (f:aav),fs[k]?=some f->aa5 f.blocks<=1048576∧f.blocks.length<=1048576) :
 Calls Tryz.prog 18 #[.agg #[.slice ga gs.length gc,.slice fa fs.length fc]] w fun e w' =>
  e = .returned (.agg #[.int .i64 (aat ⟨gs,fs⟩).1,.int .i64 (aat ⟨gs,fs⟩).2])∧Below w.heap.size w w':=by
 have Hg:=hid hg;have Hf:=hid hf;have Hw:=hid hw;have dp:=hid b8;obtain⟨_,_,dy,dS⟩:=hg.val;obtain⟨_,_,aM,a8⟩:=hf.val;cases dy;cases aM;clear hg hf hw b8;obtain⟨i0,hi,aA,aq,br⟩:=info_parts asl
 by_cases hlen:10<gs.length∨10<fs.length
 . have Hr:Hid (aat ⟨gs,fs⟩=(2,0)):=by show aat ⟨gs,fs⟩=_;unfold aat;rw [if_pos hlen]
   by_cases hgl':10<gs.length
   all_goals
    go_enter Tryz.func18,Tryz.ntmps18;go_wp2_with (go_at_call 20;((with_reducible refine (abF _ _ _).mono ?_);rintro e w2 ⟨rfl,ad⟩;obtain⟨aH,a8⟩:=aaI ad));refine bodyPost_ret (v:=_) ?_ rfl ⟨rfl,?_⟩
    . rw [Hr.out]
      simp [results,Tryz.results18,go_sem,aH]
    . exact bE1 ad
 have dn:gs.length<=10:=by omega
 have bj:fs.length<=10:=by omega
 have a6:=hid hlen;clear hlen dC bD;have aR:Hid (∀a b:Obj,Below w.heap.size w ((w.alloc a).alloc b)):=fun a b=>by exact bE
 go_enter Tryz.func18,Tryz.ntmps18;go_wp2_with fail;go_loopw [3,4,31] (fun v3 wd i wr=>∃(k:Nat) (nv:Value),k<=gs.length∧i = .int .i64 k∧nv=v3∧wd = .int .i64 (abm gs k)∧(∀j,j<k->ad1 gs j=0)∧wr.ownsRow (w.heap.size+2) 9 1 nv (adi gs k).length ((adi gs k).map Value.string)∧Below (w.heap.size+2) ((w.alloc (.cells #[.slice ga gs.length gc,.slice fa fs.length fc] 25)).alloc (.cells #[.int .i64 0,.int .i64 0] 27)) wr) (fun _ _ i _=>gs.length - (intOf i).toNat)
 case atStart=>exact⟨0,_,Aaj _,rfl,rfl,rfl,fun j hj=>by omega,World.ownsRow_nil _ _ _ _,Below.refl _ _⟩
 case round =>
  obtain⟨k,nv,hk,rfl,rfl,rfl,ah,al,aD⟩:=hrel;have aC:=hid ah;have au:=hid al;have bk:=hid aD;have aj:Hid (Below w.heap.size w wr):=(aR.out _ _).trans (aD.mono (by omega));have aK:Hid (SlAt (fun b=>w.heap.size+2<=b) wr 1 arN nv (adi gs k)):=ama al;obtain⟨na,nc,rfl,bU⟩:=aK.out.val;obtain⟨ai,aM⟩:=aaI aD;have aB:w.heap.size+1<wr.heap.size:=by have:=aD.size;simp at this;omega
  have cv:w.heap.size<wr.heap.size:=by omega
  have R0:Hid (wr.cell? ⟨w.heap.size+1,0,none⟩=some (.int .i64 0)):=by show _=_;rw [ai _ _ (by omega)];simp
  have R1:Hid (wr.cell? ⟨w.heap.size+1,1,none⟩=some (.int .i64 0)):=by show _=_;rw [ai _ _ (by omega)];simp
  have bJ:=aht hk ah;clear ah al aD
  by_cases af:k<gs.length
  . obtain⟨b,off,cs,rfl,-,hx,-,ar⟩:=Hg.out.get af
    obtain⟨xa,xc,rfl,-,bR,cx⟩:=hx.opens;obtain⟨c0,c1,c2⟩:=(ar.later aj.out).get3;unfold I64 at cx;have cI:ad1 gs k=adj (adi gs k) (abm gs k) gs[k]:=by unfold ad1;rw [Aaa af]
    have aL:=hid cI;have bw:Hid (∀c:Int,adj (adi gs k) (abm gs k) gs[k]=c->c≠0->aat ⟨gs,fs⟩=(c,(k:Int))):=fun c hc dM=>by
     have h:=ajh aC.out af (by rw [aL.out,hc];exact dM);unfold aat;dsimp only;rw [if_neg a6.out,h,if_pos af,aL.out,hc]
    obtain⟨names,ag⟩:∃names,names=adi gs k:=⟨_,rfl⟩
    obtain⟨words,ay⟩:∃words,words=abm gs k:=⟨_,rfl⟩
    rw [<-ag,<-ay] at bw;rw [<-ag] at aK au bU;rw [<-ay] at bJ;rw [<-ag];rw [<-ay];have ao:=hid ag;have aT:=hid ay;clear ar hx cI ag ay;obtain⟨g,cg⟩:∃g,g=gs[k]:=⟨_,rfl⟩
    rw [<-cg] at bw c0 c1 c2 cx bR;have cr:=hid cg;clear cg
    by_cases h1:acR g.name=true
    case neg =>
     have dR:acR g.name=false:=by simpa using h1
     have Hr:Hid (aat ⟨gs,fs⟩=(12,(k:Int))):=bw.out _ (by simp [adj,dR]) (by omega);clear h1 bJ;go_wp2_with (first | (go_at_call 20;((with_reducible refine (abF _ _ _).mono ?_);rintro e w2 ⟨rfl,ad⟩;obtain⟨aH,a8⟩:=aaI ad)) | (go_at_call 40;((with_reducible refine (ach _ _).mono ?_);rintro e w' ⟨rfl,rfl⟩)) | (go_at_call 41;((with_reducible refine (aaV (S:=fun b=>w.heap.size+2<=b) _ names _ _ ?_).mono ?_);refine aK.out.later acf ?_;exact bE;rintro e w' ⟨rfl,rfl⟩)) | (go_at_call 42;((with_reducible refine (aaC _ _ _ _).mono ?_);rintro e w' ⟨rfl,rfl⟩)));have hq:Below wr.heap.size wr w2:=by exact bE1 ad
     have q:=acy (u := .int .i64 (aat ⟨gs,fs⟩).1) (v := .int .i64 (aat ⟨gs,fs⟩).2) (aab R0.out hq) (aab R1.out hq);rw [Hr.out] at q ⊢;refine bodyPost_ret (ady rfl rfl q.1 q.2) rfl ⟨rfl,?_⟩;have h:=aj.out;exact bE2 ad h
    by_cases h2:aet names g.name=true
    . have Hr:Hid (aat ⟨gs,fs⟩=(7,(k:Int))):=bw.out _ (by simp [adj,h1,h2]) (by omega)
      clear bJ;go_wp2_with (first | (go_at_call 20;((with_reducible refine (abF _ _ _).mono ?_);rintro e w2 ⟨rfl,ad⟩;obtain⟨aH,a8⟩:=aaI ad)) | (go_at_call 40;((with_reducible refine (ach _ _).mono ?_);rintro e w' ⟨rfl,rfl⟩)) | (go_at_call 41;((with_reducible refine (aaV (S:=fun b=>w.heap.size+2<=b) _ names _ _ ?_).mono ?_);refine aK.out.later acf ?_;exact bE;rintro e w' ⟨rfl,rfl⟩)) | (go_at_call 42;((with_reducible refine (aaC _ _ _ _).mono ?_);rintro e w' ⟨rfl,rfl⟩)));have hq:Below wr.heap.size wr w2:=by exact bE1 ad
      have q:=acy (u := .int .i64 (aat ⟨gs,fs⟩).1) (v := .int .i64 (aat ⟨gs,fs⟩).2) (aab R0.out hq) (aab R1.out hq);rw [Hr.out] at q ⊢;refine bodyPost_ret (ady rfl rfl q.1 q.2) rfl ⟨rfl,?_⟩;have h:=aj.out;exact bE2 ad h
    have b9:aet names g.name=false:=by simpa using h2
    clear h2
    by_cases h3:1<=g.size∧g.size<=200
    case neg =>
     have Hr:Hid (aat ⟨gs,fs⟩=(3,(k:Int))):=bw.out _ (by simp only [adj,h1,b9,h3];simp) (by omega);clear bJ;go_wp2_with (first | (go_at_call 20;((with_reducible refine (abF _ _ _).mono ?_);rintro e w2 ⟨rfl,ad⟩;obtain⟨aH,a8⟩:=aaI ad)) | (go_at_call 40;((with_reducible refine (ach _ _).mono ?_);rintro e w' ⟨rfl,rfl⟩)) | (go_at_call 41;((with_reducible refine (aaV (S:=fun b=>w.heap.size+2<=b) _ names _ _ ?_).mono ?_);refine aK.out.later acf ?_;exact bE;rintro e w' ⟨rfl,rfl⟩)) | (go_at_call 42;((with_reducible refine (aaC _ _ _ _).mono ?_);rintro e w' ⟨rfl,rfl⟩)));have hq:Below wr.heap.size wr w2:=by exact bE1 ad
     have q:=acy (u := .int .i64 (aat ⟨gs,fs⟩).1) (v := .int .i64 (aat ⟨gs,fs⟩).2) (aab R0.out hq) (aab R1.out hq);rw [Hr.out] at q ⊢;refine bodyPost_ret (ady rfl rfl q.1 q.2) rfl ⟨rfl,?_⟩;have h:=aj.out;exact bE2 ad h
    by_cases h4:g.size<(g.init.length:Int)
    . have Hr:Hid (aat ⟨gs,fs⟩=(9,(k:Int))):=bw.out _ (by simp only [adj,h1,b9,h3,h4];simp) (by omega)
      clear bJ;go_wp2_with (first | (go_at_call 20;((with_reducible refine (abF _ _ _).mono ?_);rintro e w2 ⟨rfl,ad⟩;obtain⟨aH,a8⟩:=aaI ad)) | (go_at_call 40;((with_reducible refine (ach _ _).mono ?_);rintro e w' ⟨rfl,rfl⟩)) | (go_at_call 41;((with_reducible refine (aaV (S:=fun b=>w.heap.size+2<=b) _ names _ _ ?_).mono ?_);refine aK.out.later acf ?_;exact bE;rintro e w' ⟨rfl,rfl⟩)) | (go_at_call 42;((with_reducible refine (aaC _ _ _ _).mono ?_);rintro e w' ⟨rfl,rfl⟩)));have hq:Below wr.heap.size wr w2:=by exact bE1 ad
      have q:=acy (u := .int .i64 (aat ⟨gs,fs⟩).1) (v := .int .i64 (aat ⟨gs,fs⟩).2) (aab R0.out hq) (aab R1.out hq);rw [Hr.out] at q ⊢;refine bodyPost_ret (ady rfl rfl q.1 q.2) rfl ⟨rfl,?_⟩;have h:=aj.out;exact bE2 ad h
    by_cases h5:200<words+g.size
    . have Hr:Hid (aat ⟨gs,fs⟩=(10,(k:Int))):=bw.out _ (by simp only [adj,h1,b9,h3,h4,h5];simp) (by omega)
      go_wp2_with (first | (go_at_call 20;((with_reducible refine (abF _ _ _).mono ?_);rintro e w2 ⟨rfl,ad⟩;obtain⟨aH,a8⟩:=aaI ad)) | (go_at_call 40;((with_reducible refine (ach _ _).mono ?_);rintro e w' ⟨rfl,rfl⟩)) | (go_at_call 41;((with_reducible refine (aaV (S:=fun b=>w.heap.size+2<=b) _ names _ _ ?_).mono ?_);refine aK.out.later acf ?_;exact bE;rintro e w' ⟨rfl,rfl⟩)) | (go_at_call 42;((with_reducible refine (aaC _ _ _ _).mono ?_);rintro e w' ⟨rfl,rfl⟩)));have hq:Below wr.heap.size wr w2:=by exact bE1 ad
      have q:=acy (u := .int .i64 (aat ⟨gs,fs⟩).1) (v := .int .i64 (aat ⟨gs,fs⟩).2) (aab R0.out hq) (aab R1.out hq);rw [Hr.out] at q ⊢;refine bodyPost_ret (ady rfl rfl q.1 q.2) rfl ⟨rfl,?_⟩;have h:=aj.out;exact bE2 ad h
    have cj:Hid (ad1 gs k=0):=by
     show ad1 gs k=0;rw [aL.out,<-cr.out,<-ao.out,<-aT.out];simp only [adj,h1,b9,h3,h4,h5];simp
    have bP:names.length<=10:=by rw [ao.out];simp [adi];omega
    have bW:=hid bP;clear bP;go_wp2_with (first | (at_builtin;refine wpList_append_own _ rfl _ _ 80 rfl (w.heap.size+2) 9 i0 (.string ByteArray.empty) 1 16 Tryz.underlying80 hi aA aq br rfl (by decide) _ _ _ rfl ((au.out.alloc _).alloc _) ⟨wr.heap.size+1,0,none⟩ 1 1 [.string g.name] rfl rfl ?_ ?_ ?_ ?_ ?_ ?_) | (go_at_call 20;((with_reducible refine (abF _ _ _).mono ?_);rintro e w2 ⟨rfl,ad⟩;obtain⟨aH,a8⟩:=aaI ad)) | (go_at_call 40;((with_reducible refine (ach _ _).mono ?_);rintro e w' ⟨rfl,rfl⟩)) | (go_at_call 41;((with_reducible refine (aaV (S:=fun b=>w.heap.size+2<=b) _ names _ _ ?_).mono ?_);refine aK.out.later acf ?_;exact bE;rintro e w' ⟨rfl,rfl⟩)) | (go_at_call 42;((with_reducible refine (aaC _ _ _ _).mono ?_);rintro e w' ⟨rfl,rfl⟩)))
    . have h:=cell_one_new (wr.alloc (.cells #[.string g.name,.int .i64 g.size,.slice xa g.init.length xc] 52)) (.string g.name) 9
      simpa using h
    . intro u hu;simp at hu;subst hu;rfl
    . have:=bW.out;simp;unfold maxLen;omega
    . have:=bW.out;simp;omega
    . simp;omega
    . intro v' w2 al aw bC
      have bV:=hid al;have bp:Hid (Below (w.heap.size+2) ((w.alloc (.cells #[.slice (some ⟨b,off,none⟩) gs.length gc,.slice fa fs.length fc] 25)).alloc (.cells #[.int .i64 0,.int .i64 0] 27)) w2):=by
       refine ((bk.out.alloc (by omega) _).alloc (by simp;omega) _).grown aw (by simp;omega) (fun q hq=>?_);exact ((au.out.lt q hq).1)
      have cp:=bp.out.size;have du:=aw.size;have e1:w2.cell? ⟨wr.heap.size,1,none⟩=some (.int .i64 g.size):=aw.cell (by simp) (fun h=>absurd (au.out.lt _ h.symm).2 (Abq _));have a7:Hid (Below w.heap.size w w2):=(aR.out _ _).trans (bp.out.mono (by omega));clear al aw bC cp du;go_wp2_with fail;go_roundw
      case rel =>
       refine⟨k+1,_,by omega,by go_num,rfl,?_,abY aC.out cj.out,?_,bp.out⟩
       . rw [acQ af,<-aT.out,<-cr.out]
       . rw [alr af,<-ao.out,<-cr.out]
         simpa using bV.out
      case measure=>simp [intOf];omega
  . obtain rfl:k=gs.length:=by omega
    have cH:Hid (adq (ad1 gs) gs.length=gs.length):=abV aC.out;have bY:Hid (wr.ownsRow (w.heap.size+2) 9 1 (.slice na (adi gs gs.length).length nc) (ac4 gs fs 0).length ((ac4 gs fs 0).map Value.string)):=by
     have:ac4 gs fs 0=adi gs gs.length:=by simp [ac4]
     rw [this];exact au.out
    go_wp2_with fail;obtain⟨wl,rfl⟩:∃wl:World,wl=wr:=⟨_,rfl⟩
    have aJ:=hid bk.out;clear ai aM R0 R1 aK bU bJ au;go_loopw [3,82] (fun v3 i wr=>∃(k:Nat) (nv:Value),k<=fs.length∧i = .int .i64 k∧nv=v3∧(∀j,j<k->ab9 gs fs j=0)∧wr.ownsRow (w.heap.size+2) 9 1 nv (ac4 gs fs k).length ((ac4 gs fs k).map Value.string)∧Below (w.heap.size+2) ((w.alloc (.cells #[.slice ga gs.length gc,.slice fa fs.length fc] 25)).alloc (.cells #[.int .i64 0,.int .i64 0] 27)) wr) (fun _ i _=>fs.length - (intOf i).toNat)
    case atStart=>exact⟨0,_,Aaj _,rfl,rfl,fun j hj=>by omega,bY.out,aJ.out⟩
    case round =>
     obtain⟨k,nv,hk,rfl,rfl,ah,al,aD⟩:=hrel;have ak:=hid ah;have au:=hid al;have bk:=hid aD;have aj:Hid (Below w.heap.size w wr):=(aR.out _ _).trans (aD.mono (by omega));have aK:Hid (SlAt (fun b=>w.heap.size+2<=b) wr 1 arN nv (ac4 gs fs k)):=ama al;obtain⟨na,nc,rfl,bU⟩:=aK.out.val;obtain⟨ai,aM⟩:=aaI aD;have aB:w.heap.size+1<wr.heap.size:=by have:=aD.size;simp at this;omega
     have cv:w.heap.size<wr.heap.size:=by omega
     have R0:Hid (wr.cell? ⟨w.heap.size+1,0,none⟩=some (.int .i64 0)):=by show _=_;rw [ai _ _ (by omega)];simp
     have R1:Hid (wr.cell? ⟨w.heap.size+1,1,none⟩=some (.int .i64 0)):=by show _=_;rw [ai _ _ (by omega)];simp
     have F0:Hid (wr.frozen? ⟨w.heap.size+1,0,none⟩=false):=by show _=_;rw [aM _ _ (by omega)];simp
     have F1:Hid (wr.frozen? ⟨w.heap.size+1,1,none⟩=false):=by show _=_;rw [aM _ _ (by omega)];simp
     clear ah al aD
     by_cases af:k<fs.length
     . obtain⟨b,off,cs,rfl,-,hx,-,ar⟩:=Hf.out.get af
       obtain⟨xa,xc,rfl,bm,bR,aO,bd⟩:=hx.opens;obtain⟨c0,c1,c2,c3⟩:=(ar.later aj.out).get4;have aP:=hid bm;have bo:=hid aO;have bq:=hid bd;have cA:Hid (aa5 fs[k].blocks<=1048576):=(dp.out k _ (Aaa af)).1;have aL:Hid (ab9 gs fs k=aev (ac4 gs fs k) fs[k]):=by show ab9 gs fs k=_;unfold ab9;rw [Aaa af]
       obtain⟨names,ag⟩:∃names,names=ac4 gs fs k:=⟨_,rfl⟩
       obtain⟨f,bu⟩:∃f,f=fs[k]:=⟨_,rfl⟩
       rw [<-ag] at aK au bU aL ⊢;rw [<-bu] at c0 c1 c2 c3 bR aP bo bq cA aL;have ao:=hid ag;have cR:=hid bu;clear ar hx bm aO bd ag bu
       by_cases hz:aev names f=0
       case neg =>
        have b5:=aez hz;have Hr:Hid (aat ⟨gs,fs⟩=(aev names f,(k:Int))):=by
         have h:=ajh ak.out af (by rw [aL.out];exact hz);show aat ⟨gs,fs⟩=_;unfold aat;dsimp only;rw [if_neg a6.out,cH.out,if_neg (Abq _),h,if_pos af,aL.out]
        clear hz;go_wp2_with (first | (go_at_call 20;((with_reducible refine (abF _ _ _).mono ?_);rintro e w2 ⟨rfl,ad⟩;have hq:Below wr.heap.size wr w2:=(bE2 ad ae);have g0:=aab R0.out hq;have g1:=aab R1.out hq;have f0:=(hq.frozen (p:=⟨w.heap.size+1,0,none⟩) aB).trans F0.out;have f1:=(hq.frozen (p:=⟨w.heap.size+1,1,none⟩) aB).trans F1.out)) | (go_at_call 43;((with_reducible refine (amd (S:=S) (S':=fun b=>w.heap.size+2<=b) _ _ f _ _ _ names _ ?_ ?_ cA.out bo.out bq.out).mono ?_);refine aP.out.later aau ?_;have h:=aj.out;exact bE1 h;refine aK.out.later acf ?_;exact bE;rintro e w5 ⟨rfl,ae⟩;have bt:wr.heap.size+1<w5.heap.size:=(by have:=ae.size;simp at this;omega);obtain⟨bI,bF⟩:=aaI ae;have bl:=hid (aao au.out (bE1 ae:Below wr.heap.size wr w5)))));have q:=acy (u := .int .i64 (aat ⟨gs,fs⟩).1) (v := .int .i64 (aat ⟨gs,fs⟩).2) (aab R0.out hq) (aab R1.out hq);rw [Hr.out] at q ⊢;refine bodyPost_ret (ady rfl rfl q.1 q.2) rfl ⟨rfl,?_⟩;have h:=aj.out;exact bE3 ad ae h
       have cj:Hid (ab9 gs fs k=0):=aL.out.trans hz;have bP:names.length<=20:=by rw [ao.out];simp [ac4,adi];omega
       have bW:=hid bP;clear bP;go_wp2_with (first | (at_builtin;refine wpList_append_own _ rfl _ _ 80 rfl (w.heap.size+2) 9 i0 (.string ByteArray.empty) 1 16 Tryz.underlying80 hi aA aq br rfl (by decide) _ _ _ rfl (bl.out.alloc _) ⟨w5.heap.size,0,none⟩ 1 1 [.string f.name] rfl rfl (cell_one_new _ _ _) ?_ ?_ ?_ ?_ ?_) | (go_at_call 43;((with_reducible refine (amd (S:=S) (S':=fun b=>w.heap.size+2<=b) _ _ f _ _ _ names _ ?_ ?_ cA.out bo.out bq.out).mono ?_);refine aP.out.later aau ?_;have h:=aj.out;exact bE1 h;refine aK.out.later acf ?_;exact bE;rintro e w5 ⟨rfl,ae⟩;have bt:wr.heap.size+1<w5.heap.size:=(by have:=ae.size;simp at this;omega);obtain⟨bI,bF⟩:=aaI ae;have bl:=hid (aao au.out (bE1 ae:Below wr.heap.size wr w5)))))
       . intro u hu;simp at hu;subst hu;rfl
       . have:=bW.out;simp;unfold maxLen;omega
       . have:=bW.out;simp;omega
       . have:=bk.out.size;simp at this;simp;omega
       . intro v' w6 al aw bC
         have bM:=hid al;have cq:Hid (Below (w.heap.size+2) ((w.alloc (.cells #[.slice ga gs.length gc,.slice (some ⟨b,off,none⟩) fs.length fc] 25)).alloc (.cells #[.int .i64 0,.int .i64 0] 27)) w6):=by
          have hq:Below wr.heap.size wr w5:=by exact bE1 ae
          refine (((bk.out.trans (hq.mono (by omega))).alloc (by omega) _)).grown aw (by simp;omega) (fun q hq=>?_);exact ((au.out.lt q hq).1)
         clear al aw bC;go_wp2_with fail;go_roundw
         case rel =>
          refine⟨k+1,_,by omega,by go_num,rfl,abY ak.out cj.out,?_,cq.out⟩;rw [als af,<-ao.out,<-cR.out];simpa using bM.out
         case measure=>simp [intOf];omega
     . obtain rfl:k=fs.length:=by omega
       have dc:Hid (adq (ab9 gs fs) fs.length=fs.length):=abV ak.out;have bX:Hid (∀(j:Nat) (x:aav),fs[j]?=some x->0<=x.regs∧x.regs<=100):=fun j x hx=>by
        have hj:=(Aad.1 hx).1;have:=ak.out j hj;unfold ab9 at this;rw [hx] at this;have h:=ac9 this;omega
       go_wp2_with fail;obtain⟨c8,rfl⟩:∃c8:World,c8=wr:=⟨_,rfl⟩
       have ck:=hid bk.out;clear ai aM R0 R1 F0 F1 aK bU au;go_loopw [107] (fun i wr=>∃k:Nat,k<=fs.length∧i = .int .i64 k∧(∀j,j<k->abJ fs j=0)∧Below (w.heap.size+2) ((w.alloc (.cells #[.slice ga gs.length gc,.slice fa fs.length fc] 25)).alloc (.cells #[.int .i64 0,.int .i64 0] 27)) wr) (fun i _=>fs.length - (intOf i).toNat)
       case atStart=>exact⟨0,Aaj _,rfl,fun j hj=>by omega,ck.out⟩
       case round =>
        obtain⟨k,hk,rfl,ah,aD⟩:=hrel;have av:=hid ah;have bk:=hid aD;have aj:Hid (Below w.heap.size w wr):=(aR.out _ _).trans (aD.mono (by omega));obtain⟨ai,aM⟩:=aaI aD;have aB:w.heap.size+1<wr.heap.size:=by have:=aD.size;simp at this;omega
        have cv:w.heap.size<wr.heap.size:=by omega
        have R0:Hid (wr.cell? ⟨w.heap.size+1,0,none⟩=some (.int .i64 0)):=by show _=_;rw [ai _ _ (by omega)];simp
        have R1:Hid (wr.cell? ⟨w.heap.size+1,1,none⟩=some (.int .i64 0)):=by show _=_;rw [ai _ _ (by omega)];simp
        have F0:Hid (wr.frozen? ⟨w.heap.size+1,0,none⟩=false):=by show _=_;rw [aM _ _ (by omega)];simp
        have F1:Hid (wr.frozen? ⟨w.heap.size+1,1,none⟩=false):=by show _=_;rw [aM _ _ (by omega)];simp
        clear ah aD
        by_cases af:k<fs.length
        . obtain⟨b,off,cs,rfl,-,hx,-,ar⟩:=Hf.out.get af
          obtain⟨xa,xc,rfl,bm,bR,aO,bd⟩:=hx.opens;obtain⟨c0,c1,c2,c3⟩:=(ar.later aj.out).get4;have aP:=hid bm;have cG:Hid (fs[k].blocks.length<=1048576):=(dp.out k _ (Aaa af)).2;have cD:Hid (0<=fs[k].regs):=(bX.out k _ (Aaa af)).1;have cF:Hid (fs[k].regs<=100):=(bX.out k _ (Aaa af)).2;have aL:Hid (abJ fs k=adx fs fs[k]):=by show abJ fs k=_;unfold abJ;rw [Aaa af]
          obtain⟨f,bu⟩:∃f,f=fs[k]:=⟨_,rfl⟩
          rw [<-bu] at c0 c1 c2 c3 bR aP cG cD cF aL;have cR:=hid bu;have bH:=hid bj;clear ar hx bm aO bd bu
          by_cases hz:adx fs f=0
          . go_wp2_with (go_at_call 44;go_must ((with_reducible refine (al9 (S:=S) (S':=S) _ _ _ fs _ _ f _ _ _ _ _ _ cD.out cF.out ?_ ?_ (Aai bH.out (by omega)) cG.out ?_).mono ?_);refine Hf.out.later aaE ?_;have h:=aj.out;exact bE1 h;refine aP.out.later aau ?_;have h:=aj.out;exact bE1 h;refine ae2.below Hw.out ?_;have h:=aj.out;exact bE1 h;rintro e w5 ⟨rfl,ae⟩;have bt:wr.heap.size+1<w5.heap.size:=(by have:=ae.size;simp at this;omega);obtain⟨bI,bF⟩:=aaI ae))
            go_roundw
            case rel=>exact⟨k+1,by omega,by go_num,abY av.out (aL.out.trans hz),by have h:=bk.out;exact bE2 ae h⟩
            case measure=>simp [intOf];omega
          . have b5:=aez hz
            have Hr:Hid (aat ⟨gs,fs⟩=(adx fs f,(k:Int))):=by
             have h:=ajh av.out af (by rw [aL.out];exact hz);show aat ⟨gs,fs⟩=_;unfold aat;dsimp only;rw [if_neg a6.out,cH.out,if_neg (Abq _),dc.out,if_neg (Abq _),h,if_pos af,aL.out]
            clear hz;go_wp2_with (first | (go_at_call 20;((with_reducible refine (abF _ _ _).mono ?_);rintro e w2 ⟨rfl,ad⟩;have hq:Below wr.heap.size wr w2:=(bE2 ad ae);have g0:=aab R0.out hq;have g1:=aab R1.out hq;have f0:=(hq.frozen (p:=⟨w.heap.size+1,0,none⟩) aB).trans F0.out;have f1:=(hq.frozen (p:=⟨w.heap.size+1,1,none⟩) aB).trans F1.out)) | (go_at_call 44;go_must ((with_reducible refine (al9 (S:=S) (S':=S) _ _ _ fs _ _ f _ _ _ _ _ _ cD.out cF.out ?_ ?_ (Aai bH.out (by omega)) cG.out ?_).mono ?_);refine Hf.out.later aaE ?_;have h:=aj.out;exact bE1 h;refine aP.out.later aau ?_;have h:=aj.out;exact bE1 h;refine ae2.below Hw.out ?_;have h:=aj.out;exact bE1 h;rintro e w5 ⟨rfl,ae⟩;have bt:wr.heap.size+1<w5.heap.size:=(by have:=ae.size;simp at this;omega);obtain⟨bI,bF⟩:=aaI ae)));have q:=acy (u := .int .i64 (aat ⟨gs,fs⟩).1) (v := .int .i64 (aat ⟨gs,fs⟩).2) (aab R0.out hq) (aab R1.out hq);rw [Hr.out] at q ⊢;refine bodyPost_ret (ady rfl rfl q.1 q.2) rfl ⟨rfl,?_⟩;have h:=aj.out;exact bE3 ad ae h
        . obtain rfl:k=fs.length:=by omega
          have dD:Hid (adq (abJ fs) fs.length=fs.length):=abV av.out;have dh:aat ⟨gs,fs⟩=air fs:=by
           unfold aat;dsimp only;rw [if_neg a6.out,cH.out,if_neg (Abq _),dc.out,if_neg (Abq _),dD.out,if_neg (Abq _)]
          have cE:=hid dh;have bH:=hid bj;clear dh
          by_cases hm:abz fs<0
          . have Hr:Hid (aat ⟨gs,fs⟩=(6,0)):=by show aat ⟨gs,fs⟩=_;rw [cE.out];unfold air;rw [if_pos hm]
            go_wp2_with (first | (go_at_call 20;((with_reducible refine (abF _ _ _).mono ?_);rintro e w2 ⟨rfl,ad⟩;have hq:Below wr.heap.size wr w2:=(bE2 ad ae);have g0:=aab R0.out hq;have g1:=aab R1.out hq;have f0:=(hq.frozen (p:=⟨w.heap.size+1,0,none⟩) aB).trans F0.out;have f1:=(hq.frozen (p:=⟨w.heap.size+1,1,none⟩) aB).trans F1.out)) | (go_at_call 45;((with_reducible refine (ad0 (S:=S) _ _ fs _ ?_ (Aai bH.out (by omega))).mono ?_);refine Hf.out.later aaE ?_;have h:=aj.out;exact bE1 h;rintro e w5 ⟨rfl,ae⟩;have bt:w.heap.size+1<w5.heap.size:=(by have:=ae.size;omega);have ca:w.heap.size<w5.heap.size:=(by omega);obtain⟨bI,bF⟩:=aaI ae;have g0:=aab R0.out ae;have g1:=aab R1.out ae;have f0:=(ae.frozen (p:=⟨w.heap.size+1,0,none⟩) aB).trans F0.out;have f1:=(ae.frozen (p:=⟨w.heap.size+1,1,none⟩) aB).trans F1.out)));have q:=acy (u := .int .i64 (aat ⟨gs,fs⟩).1) (v := .int .i64 (aat ⟨gs,fs⟩).2) (aab R0.out hq) (aab R1.out hq);rw [Hr.out] at q ⊢;refine bodyPost_ret (ady rfl rfl q.1 q.2) rfl ⟨rfl,?_⟩;have h:=aj.out;exact bE3 ad ae h
          . obtain⟨m,dq,cZ⟩:=aiF hm
            obtain⟨b,off,cs,rfl,-,hx,-,ar⟩:=Hf.out.get dq;obtain⟨xa,xc,rfl,-,-,aO,-⟩:=hx.opens;obtain⟨c0,c1,c2,c3⟩:=(ar.later aj.out).get4;have dT:=aac c1;have c7:Hid ((fs.getD (abz fs).toNat ⟨ByteArray.empty,0,0,[]⟩).params=fs[m].params):=by
             show _=_;rw [cZ,Aan,Aaf,Aaa dq];rfl
            have Hm:=hid hm;unfold I64 at aO;clear ar hx hm
            by_cases hpz:0<fs[m].params
            . have Hr:Hid (aat ⟨gs,fs⟩=(5,(m:Int))):=by show aat ⟨gs,fs⟩=_;rw [cE.out];unfold air;rw [if_neg Hm.out,c7.out,if_pos hpz,cZ]
              go_wp2_with (first | (go_at_call 20;((with_reducible refine (abF _ _ _).mono ?_);rintro e w2 ⟨rfl,ad⟩;have hq:Below wr.heap.size wr w2:=(bE2 ad ae);have g0:=aab R0.out hq;have g1:=aab R1.out hq;have f0:=(hq.frozen (p:=⟨w.heap.size+1,0,none⟩) aB).trans F0.out;have f1:=(hq.frozen (p:=⟨w.heap.size+1,1,none⟩) aB).trans F1.out)) | (go_at_call 45;((with_reducible refine (ad0 (S:=S) _ _ fs _ ?_ (Aai bH.out (by omega))).mono ?_);refine Hf.out.later aaE ?_;have h:=aj.out;exact bE1 h;rintro e w5 ⟨rfl,ae⟩;have bt:w.heap.size+1<w5.heap.size:=(by have:=ae.size;omega);have ca:w.heap.size<w5.heap.size:=(by omega);obtain⟨bI,bF⟩:=aaI ae;have g0:=aab R0.out ae;have g1:=aab R1.out ae;have f0:=(ae.frozen (p:=⟨w.heap.size+1,0,none⟩) aB).trans F0.out;have f1:=(ae.frozen (p:=⟨w.heap.size+1,1,none⟩) aB).trans F1.out)));have q:=acy (u := .int .i64 (aat ⟨gs,fs⟩).1) (v := .int .i64 (aat ⟨gs,fs⟩).2) (aab R0.out hq) (aab R1.out hq);rw [Hr.out] at q ⊢;refine bodyPost_ret (ady rfl rfl q.1 q.2) rfl ⟨rfl,?_⟩;have h:=aj.out;exact bE3 ad ae h
            . have Hr:Hid (aat ⟨gs,fs⟩=(0,0)):=by show aat ⟨gs,fs⟩=_;rw [cE.out];unfold air;rw [if_neg Hm.out,c7.out,if_neg hpz]
              go_wp2_with (go_at_call 45;((with_reducible refine (ad0 (S:=S) _ _ fs _ ?_ (Aai bH.out (by omega))).mono ?_);refine Hf.out.later aaE ?_;have h:=aj.out;exact bE1 h;rintro e w5 ⟨rfl,ae⟩;have bt:w.heap.size+1<w5.heap.size:=(by have:=ae.size;omega);have ca:w.heap.size<w5.heap.size:=(by omega);obtain⟨bI,bF⟩:=aaI ae;have g0:=aab R0.out ae;have g1:=aab R1.out ae;have f0:=(ae.frozen (p:=⟨w.heap.size+1,0,none⟩) aB).trans F0.out;have f1:=(ae.frozen (p:=⟨w.heap.size+1,1,none⟩) aB).trans F1.out));have q:=acy (u := .int .i64 (aat ⟨gs,fs⟩).1) (v := .int .i64 (aat ⟨gs,fs⟩).2) (aab R0.out ae) (aab R1.out ae);rw [Hr.out] at q ⊢;refine bodyPost_ret (ady rfl rfl q.1 q.2) rfl ⟨rfl,?_⟩;have h:=aj.out;exact bE2 ae h
end
end Go.Proofs.YtpeejlpcikefcaaGreatDoor
