import Derived.Deep.CutRange
import Derived.Deep.Light
import Derived.Test.YtgekbfgplclmeaaDoorPGAhd
import Derived.Test.YtgekbfgplclmeaaDoorPChk4
/- Contracts of code.first over the three closures, and of the checker's ins. The contract of the checker's ins. The contract of the checker's body. Contracts of core.Fault, of the closure that looks for main, and of slices.IndexFunc over it. What is wrong with a unit: plain. -/
set_option maxHeartbeats 4000000
namespace Go.Proofs.YtgekbfgplclmeaaDoor
section
open Go.RowKit
def abW(e1 e2 e3:Int):Int:=if e1≠0 then e1 else if e2≠0 then e2 else e3
theorem aiM (lb : Nat) (pc px pk : Value) (e1 e2 e3 : Int) (w : World)
 (h0:w.cell? ⟨lb,0,none⟩=some (.func (.func 92) #[] #[pc,px]))
 (h1:w.cell? ⟨lb,1,none⟩=some (.func (.func 93) #[] #[pc,px]))
 (h2:w.cell? ⟨lb,2,none⟩=some (.func (.func 94) #[] #[pk,px,pc]))
 (H1:Hid (∀w',Below w.heap.size w w'->Calls Tryd.prog 92 #[pc,px] w' fun e al=>e = .returned (.int .i64 e1)∧Below w'.heap.size w' al))
 (H2:Hid (∀w',Below w.heap.size w w'->Calls Tryd.prog 93 #[pc,px] w' fun e al=>e = .returned (.int .i64 e2)∧Below w'.heap.size w' al))
 (H3:Hid (∀w',Below w.heap.size w w'->Calls Tryd.prog 94 #[pk,px,pc] w' fun e al=>e = .returned (.int .i64 e3)∧Below w'.heap.size w' al)) :
 Calls Tryd.prog 91 #[.slice (some ⟨lb,0,none⟩) 3 3] w fun e w'=>e = .returned (.int .i64 (abW e1 e2 e3))∧Below w.heap.size w w':=by
 go_enter Tryd.func91,Tryd.ntmps91;go_wp2_with fail;go_loopw [8] (fun i wr=>∃k:Nat,k<=3∧i = .int .i64 k∧(1<=k->e1=0)∧(2<=k->e2=0)∧(3<=k->e3=0)∧Below w.heap.size w wr) (fun i _=>3 - (intOf i).toNat)
 case atStart=>exact⟨0,by omega,rfl,fun _=>by omega,fun _=>by omega,fun _=>by omega,bE⟩
 case round =>
  obtain⟨k,hk,rfl,z1,z2,z3,aG⟩:=hrel;have g0:=aab h0 aG;have g1:=aab h1 aG;have g2:=aab h2 aG;have ax:=hid aG;have Z1:=hid z1;have Z2:=hid z2;have Z3:=hid z3;have cD:=aG.size;clear aG z1 z2 z3;have cx:k=0∨k=1∨k=2∨k=3:=by omega
  rcases cx with rfl | rfl | rfl | rfl
  . by_cases hz:e1=0
    . have ae:e1<=0:=by omega
      have bo:0<=e1:=by omega
      have Hz:=hid hz;clear hz;go_wp2_with (go_at_call 92;((with_reducible refine (H1.out _ ax.out).mono ?_);rintro e w1 ⟨rfl,ao⟩));go_roundw
      case rel=>exact⟨1,by omega,rfl,fun _=>Hz.out,fun _=>by omega,fun _=>by omega,by have h:=ax.out;exact bE2 ao h⟩
      case measure=>simp [intOf]
    . have ae:e1<0∨0<e1:=by omega
      have Hz:=hid hz;clear hz;go_wp2_with (go_at_call 92;((with_reducible refine (H1.out _ ax.out).mono ?_);rintro e w1 ⟨rfl,ao⟩));go_ret;exact⟨aaq (by unfold abW;rw [if_pos Hz.out]),by have h:=ax.out;exact bE2 ao h⟩
  . by_cases hz:e2=0
    . have ae:e2<=0:=by omega
      have bo:0<=e2:=by omega
      have Hz:=hid hz;clear hz;go_wp2_with (go_at_call 93;((with_reducible refine (H2.out _ ax.out).mono ?_);rintro e w1 ⟨rfl,ao⟩));go_roundw
      case rel=>exact⟨2,by omega,rfl,fun _=>Z1.out (by omega),fun _=>Hz.out,fun _=>by omega,by have h:=ax.out;exact bE2 ao h⟩
      case measure=>simp [intOf]
    . have ae:e2<0∨0<e2:=by omega
      have Hz:=hid hz;clear hz;go_wp2_with (go_at_call 93;((with_reducible refine (H2.out _ ax.out).mono ?_);rintro e w1 ⟨rfl,ao⟩));go_ret;exact⟨aaq (by unfold abW;rw [if_neg (by simpa using Z1.out (by omega)),if_pos Hz.out]),by have h:=ax.out;exact bE2 ao h⟩
  . by_cases hz:e3=0
    . have ae:e3<=0:=by omega
      have bo:0<=e3:=by omega
      have Hz:=hid hz;clear hz;go_wp2_with (go_at_call 94;((with_reducible refine (H3.out _ ax.out).mono ?_);rintro e w1 ⟨rfl,ao⟩));go_roundw
      case rel=>exact⟨3,by omega,rfl,fun _=>Z1.out (by omega),fun _=>Z2.out (by omega),fun _=>Hz.out,by have h:=ax.out;exact bE2 ao h⟩
      case measure=>simp [intOf]
    . have ae:e3<0∨0<e3:=by omega
      have Hz:=hid hz;clear hz;go_wp2_with (go_at_call 94;((with_reducible refine (H3.out _ ax.out).mono ?_);rintro e w1 ⟨rfl,ao⟩));go_ret;exact⟨aaq (by unfold abW;rw [if_neg (by simpa using Z1.out (by omega)),if_neg (by simpa using Z2.out (by omega))]),by have h:=ax.out;exact bE2 ao h⟩
  . go_wp2_with fail
    go_ret;exact⟨aaq (by unfold abW;rw [if_neg (by simpa using Z1.out (by omega)),if_neg (by simpa using Z2.out (by omega)),Z3.out (by omega)]),by have h:=ax.out;exact bE1 h⟩
theorem afg (W : World) (lb : Nat) (pc px pk : Value) (e1 e2 e3 : Int) (w : World)
 (H1:Hid (∀w',Below W.heap.size W w'->Calls Tryd.prog 92 #[pc,px] w' fun e al=>e = .returned (.int .i64 e1)∧Below w'.heap.size w' al))
 (H2:Hid (∀w',Below W.heap.size W w'->Calls Tryd.prog 93 #[pc,px] w' fun e al=>e = .returned (.int .i64 e2)∧Below w'.heap.size w' al))
 (H3:Hid (∀w',Below W.heap.size W w'->Calls Tryd.prog 94 #[pk,px,pc] w' fun e al=>e = .returned (.int .i64 e3)∧Below w'.heap.size w' al))
 (hW:Below W.heap.size W w)
 (h0:w.cell? ⟨lb,0,none⟩=some (.func (.func 92) #[] #[pc,px]))
 (h1:w.cell? ⟨lb,1,none⟩=some (.func (.func 93) #[] #[pc,px]))
 (h2:w.cell? ⟨lb,2,none⟩=some (.func (.func 94) #[] #[pk,px,pc])) :
 Calls Tryd.prog 91 #[.slice (some ⟨lb,0,none⟩) 3 3] w fun e w'=>e = .returned (.int .i64 (abW e1 e2 e3))∧Below w.heap.size w w' :=
 aiM lb pc px pk e1 e2 e3 w h0 h1 h2 (fun w' h=>H1 w' (hW.trans (h.mono hW.size))) (fun w' h=>H2 w' (hW.trans (h.mono hW.size))) (fun w' h=>H3 w' (hW.trans (h.mono hW.size)))
def aco(x:abo):Bool :=
 (!shpD x.op&&decide (x.dst ≠ -1))||(!shpA x.op&&decide (x.a≠⟨false,0⟩))||(!shpB x.op&&decide (x.b≠⟨false,0⟩))||(decide (x.op≠20)&&(decide (x.fn≠0)||decide (0<x.args.length)))
def aed(fs:List aal)(regs:Int)(x:abo):Int :=
 if ¬(1<=x.op∧x.op<=22) then 4
 else if aco x=true then 5
 else if (shpD x.op=true∧¬(x.op=20∧x.dst = -1))∧ae3 regs x.dst≠0 then 3
 else abW (abr regs x.a) (abr regs x.b) (abS fs regs x)
end
section
open Go.RowKit
theorem ai1 {op:Int}(h:1<=op∧op<=22) :
 (shpD op=true∧shpA op=true∧shpB op=false∧(decide (op<=20)&&decide (20<=op))=false) ∨
 (shpD op=true∧shpA op=true∧shpB op=true∧(decide (op<=20)&&decide (20<=op))=false) ∨
 (shpD op=false∧shpA op=true∧shpB op=true∧(decide (op<=20)&&decide (20<=op))=false) ∨
 (shpD op=true∧shpA op=false∧shpB op=false∧(decide (op<=20)&&decide (20<=op))=true) ∨
 (shpD op=true∧shpA op=false∧shpB op=false∧(decide (op<=20)&&decide (20<=op))=false) ∨
 (shpD op=false∧shpA op=true∧shpB op=false∧(decide (op<=20)&&decide (20<=op))=false):=by
 simp only [shpD,shpA,shpB,Bool.or_eq_true,Bool.or_eq_false_iff,Bool.and_eq_true,Bool.and_eq_false_iff,decide_eq_true_eq,decide_eq_false_iff_not];omega
theorem ai0 {S S' : Nat -> Prop} (ga : Option Addr) (gn gc : Nat) (fs : List aal) (fa : Option Addr) (fc : Nat) (s : ByteArray) (p : Int) (regs : Int) (ba : Option Addr) (bn bc : Nat) (aa : Option Addr) (an ac : Nat) (x : abo) (ra : Option Addr) (rc : Nat) (w : World) (h0 : 0 <= regs) (h1 : regs <= 100)
 (a8:SlAt S w 4 abT (.slice fa fs.length fc) fs) (has:SlAt S' w 2 aeL (.slice ra x.args.length rc) x.args) (bl:fs.length<=1048576) (_ho:I64 x.op) (_hd:I64 x.dst) (_ha:I64 x.a.n) (_hb:I64 x.b.n) (_hf:I64 x.fn) :
 Calls Tryd.prog 67 #[.agg #[.slice ga gn gc,.slice fa fs.length fc,.string s,.int .i64 p,.int .i64 regs,.slice ba bn bc,.slice aa an ac],.agg #[.int .i64 x.op,.int .i64 x.dst,.bool x.a.reg,.int .i64 x.a.n,.bool x.b.reg,.int .i64 x.b.n,.int .i64 x.fn,.slice ra x.args.length rc]] w fun e w' =>
  e = .returned (.int .i64 (aed fs regs x))∧Below w.heap.size w w':=by
 have aY:=hid a8;have Has:=hid has;obtain⟨_,_,cn,cp⟩:=has.val;cases cn;clear a8 has
 by_cases hop:1<=x.op∧x.op<=22
 case neg =>
  have Hr:=hid (show aed fs regs x=4 by simp only [aed,hop];simp);go_enter Tryd.func67,Tryd.ntmps67;go_wp2_with (go_at_call 20;((with_reducible refine (aah _ _ _ _).mono ?_);rintro e w' ⟨rfl,rfl⟩));go_ret;exact⟨aaq Hr.out.symm,bE⟩
 generalize hbad:aco x=bad;have aB:=hid hbad;clear hbad;go_enter Tryd.func67,Tryd.ntmps67;go_upto_region 5 with (first | (go_at_call 20;((with_reducible refine (aah _ _ _ _).mono ?_);rintro e w' ⟨rfl,rfl⟩)) | (go_at_call 36;((with_reducible refine (ac1 _ _).mono ?_);rintro e w1 ⟨rfl,ao⟩;obtain⟨ad,bC⟩:=aao ao;have ae:w.heap.size+1<w1.heap.size:=(by have:=ao.size;simp at this;omega);have aq:w.heap.size<w1.heap.size:=(by omega))))
 obtain⟨W,hW⟩:∃W,W=(w1.alloc (.cells #[.bool (shpD x.op),.bool (shpA x.op),.bool (shpB x.op)] 105)).alloc (.cells #[.bool (decide (x.op<=20)&&decide (20<=x.op))] 4):=⟨_,rfl⟩
 rw [<-hW];have s0:W.cell? ⟨w1.heap.size,0,none⟩=some (.bool (shpD x.op)):=by rw [hW];simp
 have s1:W.cell? ⟨w1.heap.size,1,none⟩=some (.bool (shpA x.op)):=by rw [hW];simp
 have s2:W.cell? ⟨w1.heap.size,2,none⟩=some (.bool (shpB x.op)):=by rw [hW];simp
 have s3:W.cell? ⟨w1.heap.size+1,0,none⟩=some (.bool (decide (x.op<=20)&&decide (20<=x.op))):=by rw [hW];simp
 have x0:W.cell? ⟨w.heap.size+1,0,none⟩=some (.int .i64 x.op):=by rw [hW];simp [go_sem,ad,ae,aq]
 have x1:W.cell? ⟨w.heap.size+1,1,none⟩=some (.int .i64 x.dst):=by rw [hW];simp [go_sem,ad,ae,aq]
 have x2:W.cell? ⟨w.heap.size+1,2,none⟩=some (.bool x.a.reg):=by rw [hW];simp [go_sem,ad,ae,aq]
 have x3:W.cell? ⟨w.heap.size+1,3,none⟩=some (.int .i64 x.a.n):=by rw [hW];simp [go_sem,ad,ae,aq]
 have x4:W.cell? ⟨w.heap.size+1,4,none⟩=some (.bool x.b.reg):=by rw [hW];simp [go_sem,ad,ae,aq]
 have x5:W.cell? ⟨w.heap.size+1,5,none⟩=some (.int .i64 x.b.n):=by rw [hW];simp [go_sem,ad,ae,aq]
 have x6:W.cell? ⟨w.heap.size+1,6,none⟩=some (.int .i64 x.fn):=by rw [hW];simp [go_sem,ad,ae,aq]
 have x7:W.cell? ⟨w.heap.size+1,7,none⟩=some (.slice ra x.args.length rc):=by rw [hW];simp [go_sem,ad,ae,aq]
 have bZ:Below (w.heap.size+2) ((w.alloc (.cells #[.slice ga gn gc,.slice fa fs.length fc,.string s,.int .i64 p,.int .i64 regs,.slice ba bn bc,.slice aa an ac] 112)).alloc (.cells #[.int .i64 x.op,.int .i64 x.dst,.bool x.a.reg,.int .i64 x.a.n,.bool x.b.reg,.int .i64 x.b.n,.int .i64 x.fn,.slice ra x.args.length rc] 63)) W:=by
  rw [hW];exact bE1 ao
 have bM:=hid bZ;have HC:Hid (aaj W w.heap.size 0 [.slice ga gn gc,.slice fa fs.length fc,.string s,.int .i64 p,.int .i64 regs,.slice ba bn bc,.slice aa an ac]):=by
  rw [hW];exact .cons (by simp [go_sem,ad,aq]) (.cons (by simp [go_sem,ad,aq]) (.cons (by simp [go_sem,ad,aq]) (.cons (by simp [go_sem,ad,aq]) (.cons (by simp [go_sem,ad,aq]) (.cons (by simp [go_sem,ad,aq]) (.cons (by simp [go_sem,ad,aq]) (.nil _ _ _)))))))
 have z1:w.heap.size+1<W.heap.size:=by rw [hW];simp;omega
 have z2:w1.heap.size+1<W.heap.size:=by rw [hW];simp
 clear bZ hW ad bC ao ae aq;generalize w1.heap.size=sb at *;have hb:=aB.out;unfold aco at hb;have bx:bad=((!shpD x.op&&(decide (x.dst < -1)||decide (-1<x.dst)))||(!shpA x.op&&(x.a.reg||(decide (x.a.n<0)||decide (0<x.a.n))))||(!shpB x.op&&(x.b.reg||(decide (x.b.n<0)||decide (0<x.b.n))))||(!(decide (x.op<=20)&&decide (20<=x.op))&&((decide (x.fn<0)||decide (0<x.fn))||decide (0<x.args.length)))):=by
  have v0:∀v:ab3,decide (v≠⟨false,0⟩)=(v.reg||(decide (v.n<0)||decide (0<v.n))):=fun⟨r,n⟩=>by
   rw [Aa1];cases r <;> simp <;> omega
  have i0:∀a b:Int,decide (a≠b)=(decide (a<b)||decide (b<a)):=fun a b=>by rw [Aa1];simp;omega
  have i1:∀a b:Int,(decide (a<b)||decide (b<a))=!(decide (a<=b)&&decide (b<=a)):=fun a b=>by rw [Aa1];simp;omega
  rw [<-hb,v0,v0,i0,i0,i0,i1 x.op 20]
 have bA:=ai1 hop;clear hb;obtain⟨D,hD⟩:∃D,shpD x.op=D:=⟨_,rfl⟩
 obtain⟨A,hA⟩:∃A,shpA x.op=A:=⟨_,rfl⟩
 obtain⟨B,hB⟩:∃B,shpB x.op=B:=⟨_,rfl⟩
 obtain⟨kz,aO⟩:∃kz,(decide (x.op<=20)&&decide (20<=x.op))=kz:=⟨_,rfl⟩
 obtain⟨dz,a6⟩:∃dz,(decide (x.dst < -1)||decide (-1<x.dst))=dz:=⟨_,rfl⟩
 obtain⟨az,bY⟩:∃az,(x.a.reg||(decide (x.a.n<0)||decide (0<x.a.n)))=az:=⟨_,rfl⟩
 obtain⟨bz,b1⟩:∃bz,(x.b.reg||(decide (x.b.n<0)||decide (0<x.b.n)))=bz:=⟨_,rfl⟩
 obtain⟨fz,b3⟩:∃fz,(decide (x.fn<0)||decide (0<x.fn))=fz:=⟨_,rfl⟩
 obtain⟨lz,ca⟩:∃lz,decide (0<x.args.length)=lz:=⟨_,rfl⟩
 rw [hD,hA,hB,aO,a6,bY,b1,b3,ca] at bx;rw [hD,hA,hB,aO] at bA;rw [hD] at s0;rw [hA] at s1;rw [hB] at s2;rw [aO] at s3;have bN:=hid bx;have HD:=hid hD;have aZ:=hid aO;clear bx hD hA hB aO;go_cut [62] from 8 to 62 (fun v wc=>v = .bool bad∧W=wc)
 case first =>
  clear aY Has bM cp z1 z2 HD aZ aB HC;rcases bA with⟨rfl,rfl,rfl,rfl⟩ | ⟨rfl,rfl,rfl,rfl⟩ | ⟨rfl,rfl,rfl,rfl⟩ | ⟨rfl,rfl,rfl,rfl⟩ | ⟨rfl,rfl,rfl,rfl⟩ | ⟨rfl,rfl,rfl,rfl⟩
  all_goals
   go_wp2_with fail
  all_goals
   go_meet;refine⟨congrArg Value.bool ?_,rfl⟩;rw [bN.out];simp [*]
 case rest =>
  obtain⟨rfl,rfl⟩:=hcut;clear a6 bY b1 b3 ca bA bN;have bt:Below w.heap.size w W:=(bE:Below w.heap.size w ((w.alloc (.cells #[.slice ga gn gc,.slice fa fs.length fc,.string s,.int .i64 p,.int .i64 regs,.slice ba bn bc,.slice aa an ac] 112)).alloc (.cells #[.int .i64 x.op,.int .i64 x.dst,.bool x.a.reg,.int .i64 x.a.n,.bool x.b.reg,.int .i64 x.b.n,.int .i64 x.fn,.slice ra x.args.length rc] 63))).trans (bM.out.mono (by omega));have aU:=hid bt;cases bad
  case true =>
   have Hr:=hid (show aed fs regs x=5 by simp only [aed,hop,aB.out];simp);clear bt;go_wp2_with fail;go_ret;exact⟨aaq Hr.out.symm,by have h:=aU.out;exact bE1 h⟩
  have bd:kz=decide (x.op=20):=by rw [<-aZ.out,Aa1];simp;omega
  have bG:Hid (∀w',Below W.heap.size W w'->Calls Tryd.prog 92 #[.pointer (some ⟨w.heap.size,0,none⟩),.pointer (some ⟨w.heap.size+1,0,none⟩)] w' fun e al=>e = .returned (.int .i64 (abr regs x.a))∧Below w'.heap.size w' al) :=
   fun w' h=>aj9 _ _ _ _ _ _ regs _ _ _ _ _ _ x.a w' h0 h1 _ _ _ _ _ _ _ _ rfl rfl rfl rfl (HC.out.later h) (aab x2 h) (aab x3 h)
  have bH:Hid (∀w',Below W.heap.size W w'->Calls Tryd.prog 93 #[.pointer (some ⟨w.heap.size,0,none⟩),.pointer (some ⟨w.heap.size+1,0,none⟩)] w' fun e al=>e = .returned (.int .i64 (abr regs x.b))∧Below w'.heap.size w' al) :=
   fun w' h=>aka _ _ _ _ _ _ regs _ _ _ _ _ _ x.b w' h0 h1 _ _ _ _ _ _ _ _ rfl rfl rfl rfl (HC.out.later h) (aab x4 h) (aab x5 h)
  have bI:Hid (∀w',Below W.heap.size W w'->Calls Tryd.prog 94 #[.pointer (some ⟨sb+1,0,none⟩),.pointer (some ⟨w.heap.size+1,0,none⟩),.pointer (some ⟨w.heap.size,0,none⟩)] w' fun e al=>e = .returned (.int .i64 (abS fs regs x))∧Below w'.heap.size w' al) :=
   fun w' h=>akb _ _ _ _ _ _ fs regs _ _ _ _ _ _ x w' h0 h1 _ _ _ _ _ _ _ _ _ rfl rfl rfl (HC.out.later h) (by rw [<-bd];exact aab s3 h) (aab x6 h) (aab x7 h) ((aY.out.later aan aU.out).later aan h) ((Has.out.later aap aU.out).later aap h) bl
  obtain⟨y0,y1,y2,y3,y4,y5,y6⟩:=HC.out.get7;simp only [Aac] at y1 y2 y3 y4 y5 y6;have z0:w.heap.size<W.heap.size:=by omega
  clear bt bd;have a7:∀d:Bool,d=(D&&!(kz&&(decide (x.dst <= -1)&&decide (-1<=x.dst))))->((shpD x.op=true∧¬(x.op=20∧x.dst = -1))↔d=true):=by
   intro d hd;rw [hd,HD.out,<-aZ.out];simp;omega
  have aC:=hid a7;clear a7;obtain⟨ez,cu⟩:∃ez,(decide (x.dst <= -1)&&decide (-1<=x.dst))=ez:=⟨_,rfl⟩
  rw [cu] at aC;have a6:D=true∨D=false:=by cases D <;> simp
  have aO:kz=true∨kz=false:=by cases kz <;> simp
  by_cases hgo:(D&&!(kz&&ez))=true
  . have ar:aed fs regs x=if ae3 regs x.dst≠0 then 3 else abW (abr regs x.a) (abr regs x.b) (abS fs regs x):=by
     simp only [aed,hop,aB.out,(aC.out _ rfl).2 hgo];simp
    have aK:(D=true∧kz=false)∨(D=true∧kz=true∧ez=false):=by revert hgo;cases D <;> cases kz <;> cases ez <;> simp
    clear hgo a6 aO aC HD aZ
    by_cases hd:ae3 regs x.dst=0
    . have aD:=hid (show aed fs regs x=abW (abr regs x.a) (abr regs x.b) (abS fs regs x) by rw [ar,hd];simp)
      clear ar;rcases aK with⟨rfl,rfl⟩ | ⟨rfl,rfl,rfl⟩
      all_goals
       go_wp2_with (first | (go_at_call 90;((with_reducible refine (aex _ _ _ _ _ _ _ _ _ h0 h1).mono ?_);rintro e w2 ⟨rfl,ak⟩)) | (go_at_call 91;((with_reducible refine (afg W _ _ _ _ (abr regs x.a) (abr regs x.b) (abS fs regs x) _ bG bH bI ?_ ?_ ?_ ?_).mono ?_);exact bE1 ak;simp;simp;simp;rintro e w3 ⟨rfl,bw⟩)));go_ret;exact⟨aaq aD.out.symm,by have h:=aU.out;exact bE3 bw ak h⟩
    . have cq:ae3 regs x.dst=3:=(aiK _ _).resolve_left hd
      have aD:=hid (show aed fs regs x=3 by rw [ar,cq];simp);clear ar hd;rcases aK with⟨rfl,rfl⟩ | ⟨rfl,rfl,rfl⟩
      all_goals
       go_wp2_with (go_at_call 90;((with_reducible refine (aex _ _ _ _ _ _ _ _ _ h0 h1).mono ?_);rintro e w2 ⟨rfl,ak⟩));go_ret;exact⟨aaq aD.out.symm,by have h:=aU.out;exact bE2 ak h⟩
  . have ar:aed fs regs x=abW (abr regs x.a) (abr regs x.b) (abS fs regs x):=by
     have:¬(shpD x.op=true∧¬(x.op=20∧x.dst = -1)):=fun h=>hgo ((aC.out _ rfl).1 h);simp only [aed,hop,aB.out,this];simp
    have aD:=hid ar;clear ar;have aK:D=false∨(D=true∧kz=true∧ez=true):=by revert hgo;cases D <;> cases kz <;> cases ez <;> simp
    clear hgo a6 aO aC HD aZ;rcases aK with rfl | ⟨rfl,rfl,rfl⟩
    all_goals
     go_wp2_with (go_at_call 91;((with_reducible refine (afg W _ _ _ _ (abr regs x.a) (abr regs x.b) (abS fs regs x) _ bG bH bI ?_ ?_ ?_ ?_).mono ?_);exact bE;simp;simp;simp;rintro e w3 ⟨rfl,bw⟩));go_ret;exact⟨aaq aD.out.symm,by have h:=aU.out;exact bE2 bw h⟩
end
section
open Go.RowKit
def aba (e : Nat -> Int) : Nat -> Int
 | 0=>0
 | n+1=>if aba e n≠0 then aba e n else e n
variable {e:Nat->Int}{n:Nat}
theorem aaT(h:∀j,j<n->e j=0):aba e n=0:=by
 induction n with
 | zero=>rfl
 | succ n ih=>rw [aba,ih (fun j hj=>h j (by omega)),if_neg (by simp)];exact h n (by omega)
theorem acL{k:Nat}(h:∀j,j<k->e j=0)(hk:k<n)(he:e k≠0):aba e n=e k:=by
 induction n with
 | zero=>omega
 | succ n ih =>
   rw [aba];rcases Nat.lt_succ_iff_lt_or_eq.1 hk with h1 | h1
   . rw [ih h1,if_pos he]
   . subst h1;rw [aaT h,if_neg (by simp)]
theorem ab8(h:aba e n=0):∀j,j<n->e j=0:=by
 induction n with
 | zero=>intro j hj;omega
 | succ n ih =>
   rw [aba] at h
   by_cases h1:aba e n=0
   . rw [if_neg (by simpa using h1)] at h
     exact aa6 (ih h1) h
   . rw [if_pos h1] at h;exact absurd h h1
theorem adR{regs:Int}{e:alR}(h:adp n regs e=0) :
 1<=e.kind∧e.kind<=3∧(e.to.length:Int)=e.kind - 1∧(∀t∈e.to,1<=t∧t<=(n:Int) - 1)∧¬(e.kind=3∧e.to.getD 0 0=e.to.getD 1 0)∧abr regs e.on=0:=by
 unfold adp at h
 by_cases h1:1<=e.kind∧e.kind<=3
 case neg=>rw [if_pos h1] at h;omega
 rw [if_neg (by simpa using h1)] at h
 by_cases h2:(e.to.length:Int)=e.kind - 1
 case neg=>rw [if_pos h2] at h;omega
 rw [if_neg (by simpa using h2)] at h
 by_cases h3:e.to.any (ac5 n)=true
 . rw [if_pos h3] at h;omega
 rw [if_neg h3] at h
 by_cases h4:(e.kind=3∧e.to.getD 0 0=e.to.getD 1 0)∨(e.kind=2∧e.on≠⟨false,0⟩)
 . rw [if_pos h4] at h;omega
 rw [if_neg h4] at h;refine⟨h1.1,h1.2,h2,fun t ht=>?_,fun h=>h4 (.inl h),h⟩;have:ac5 n t≠true:=fun hb=>h3 (List.any_eq_true.2 ⟨t,ht,hb⟩);simpa [ac5] using this
def adS(regs:Int)(bs:List aad)(k:Nat):Int:=match bs[k]? with | some b=>adp bs.length regs b.fin | none=>0
def aee(regs:Int)(bs:List aad)(i:Nat)(b:aad)(k:Nat):Int:=match b.phis[k]? with | some p=>afQ regs i (aheadF bs) p | none=>0
def afM(fs:List aal)(regs:Int)(b:aad)(k:Nat):Int:=match b.list[k]? with | some x=>aed fs regs x | none=>0
def acE(fs:List aal)(regs:Int)(bs:List aad)(k:Nat):Int :=
 match bs[k]? with
 | some b=>if aba (aee regs bs k b) b.phis.length≠0 then aba (aee regs bs k b) b.phis.length else aba (afM fs regs b) b.list.length
 | none=>0
def ab6(fs:List aal)(f:aal):Int :=
 if aba (adS f.regs f.blocks) f.blocks.length≠0 then aba (adS f.regs f.blocks) f.blocks.length
 else aba (acE fs f.regs f.blocks) f.blocks.length
set_option maxRecDepth 100000 in
theorem ahq {S S' : Nat -> Prop} (ga : Option Addr) (gn gc : Nat) (fs : List aal) (fa : Option Addr) (fc : Nat) (f : aal) (ba : Option Addr) (bc : Nat) (aa : Option Addr) (an ac : Nat) (w : World) (h0 : 0 <= f.regs) (h1 : f.regs <= 100)
 (a8:SlAt S w 4 abT (.slice fa fs.length fc) fs) (b0:SlAt S' w 6 aa2 (.slice ba f.blocks.length bc) f.blocks) (bl:fs.length<=1048576) (aG:f.blocks.length<=1048576) (hw:ab5 w) :
 Calls Tryd.prog 41 #[.agg #[.slice ga gn gc,.slice fa fs.length fc,.string f.name,.int .i64 f.params,.int .i64 f.regs,.slice ba f.blocks.length bc,.slice aa an ac]] w fun e w' =>
  e = .returned (.int .i64 (ab6 fs f))∧Below w.heap.size w w':=by
 have aY:=hid a8;have bj:=hid b0;have Hw:=hid hw;clear a8 b0 hw;obtain⟨regs,aF⟩:∃r,r=f.regs:=⟨_,rfl⟩
 obtain⟨bs,aT⟩:∃b,b=f.blocks:=⟨_,rfl⟩
 rw [<-aF] at h0 h1 ⊢;rw [<-aT] at bj aG ⊢;have av:=hid aF;have aJ:=hid aT;clear aF aT;have bX:∀o,Below w.heap.size w (w.alloc o):=fun o=>by exact bE
 have cg:=hid bX;clear bX;go_enter Tryd.func41,Tryd.ntmps41;go_wp2_with fail;go_loopw [18] (fun i wr=>∃k:Nat,k<=bs.length∧i = .int .i64 k∧(∀j,j<k->adS regs bs j=0)∧Below (w.heap.size+1) (w.alloc (.cells #[.slice ga gn gc,.slice fa fs.length fc,.string f.name,.int .i64 f.params,.int .i64 regs,.slice ba bs.length bc,.slice aa an ac] 112)) wr) (fun i _=>bs.length - (intOf i).toNat)
 case atStart=>exact⟨0,Aaf _,rfl,fun j hj=>by omega,Below.refl _ _⟩
 case round =>
  obtain⟨k,hk,rfl,ai,af⟩:=hrel;have aI:=hid ai;have bm:Below w.heap.size w wr:=(cg.out _).trans (af.mono (by omega));obtain⟨ad,bC⟩:=aao af;have ae:w.heap.size<wr.heap.size:=by have:=af.size;simp at this;omega
  have aQ:=hid bm;have bq:=hid af;clear ai af
  by_cases ag:k<bs.length
  . obtain⟨b,off,cs,rfl,hS,hx,-,aw⟩:=bj.out.get ag
    obtain⟨pa,pc,la,lc,ta,tc,rfl,-,-,cc,cy,bD,cA,-,-⟩:=hx.opens;obtain⟨c0,c1,c2,c3,c4,c5⟩:=(aw.later bm).get6;have bW:=hid cc;clear aw hx cc bm;have he:adS regs bs k=adp bs.length regs bs[k].fin:=by unfold adS;rw [Aaa ag]
    have He:=hid he;clear he
    by_cases hz:adp bs.length regs bs[k].fin=0
    . go_wp2_with (go_at_call 65;go_must ((with_reducible refine (aiL (S:=S') _ _ _ _ regs _ bs.length _ _ _ _ _ _ bs[k].fin.to _ h0 h1 (by omega) ?_ ?_).mono ?_);exact ab5.below Hw.out (by have h:=aQ.out;exact bE1 h);refine bW.out.later aaf ?_;have h:=aQ.out;exact bE1 h;rintro e w2 ⟨rfl,ak⟩))
      go_roundw
      case rel=>exact⟨k+1,by omega,by go_num,aa6 aI.out (He.out.trans hz),by have h:=bq.out;exact bE2 ak h⟩
      case measure=>simp [intOf];omega
    . have cf:=abN hz
      have Hr:Hid (ab6 fs f=adp bs.length regs bs[k].fin):=by
       have h:=acL aI.out ag (by rw [He.out];exact hz);unfold ab6;rw [<-av.out,<-aJ.out,h,He.out];exact if_pos hz
      clear hz;go_wp2_with (go_at_call 65;go_must ((with_reducible refine (aiL (S:=S') _ _ _ _ regs _ bs.length _ _ _ _ _ _ bs[k].fin.to _ h0 h1 (by omega) ?_ ?_).mono ?_);exact ab5.below Hw.out (by have h:=aQ.out;exact bE1 h);refine bW.out.later aaf ?_;have h:=aQ.out;exact bE1 h;rintro e w2 ⟨rfl,ak⟩));go_ret;exact⟨aaq Hr.out.symm,by have h:=aQ.out;exact bE2 ak h⟩
  . obtain rfl:k=bs.length:=by omega
    have bU:Hid (∀(j:Nat) (x:aad),bs[j]?=some x->adp bs.length regs x.fin=0):=fun j x hx=>by
     have hj:=(Aae.1 hx).1;have:=aI.out j hj;unfold adS at this;rw [hx] at this;exact this
    have br:=hid (aaT aI.out);clear bm;go_wp2_with (go_at_call 22;go_must ((with_reducible refine (aga (S:=S') _ _ _ _ _ bs _ ?_ aG ?_).mono ?_);exact bj.out.later aam aQ.out;exact fun j x hx=>⟨by have:=adR (bU.out j x hx);omega,fun t ht=>by have:=(adR (bU.out j x hx)).2.2.2.1 t ht;omega⟩;rintro e w2 ⟨v,rfl,bu,ak⟩;obtain⟨va,vc,rfl,cE⟩:=bu.val;have bJ:=hid bu;clear bu;obtain⟨aN,cv⟩:=aao ak;have bo:w.heap.size<w2.heap.size:=(by have:=ak.size;omega);have ck:=hid ak;clear ak));have bK:Hid ((aheadF bs).length=bs.length):=by simp [aheadF,Hid]
    obtain⟨W,hW⟩:∃W,W=w2.setCell ⟨w.heap.size,6,none⟩ (.slice va (aheadF bs).length vc):=⟨_,rfl⟩
    rw [<-hW];have HC:Hid (aaj W w.heap.size 0 [.slice ga gn gc,.slice fa fs.length fc,.string f.name,.int .i64 f.params,.int .i64 regs,.slice ba bs.length bc,.slice va (aheadF bs).length vc]):=by
     rw [hW];exact .cons (by simp [go_sem,aN,ae,ad]) (.cons (by simp [go_sem,aN,ae,ad]) (.cons (by simp [go_sem,aN,ae,ad]) (.cons (by simp [go_sem,aN,ae,ad]) (.cons (by simp [go_sem,aN,ae,ad]) (.cons (by simp [go_sem,aN,ae,ad]) (.cons (by simp [go_sem,aN,ae,ad]) (.nil _ _ _)))))))
    have HW:Hid (Below w.heap.size w W):=by
     rw [hW];exact (aQ.out.trans (ck.out.mono (by omega))).setCell (Aad _) _
    have aW:Hid (SlAt (fun b=>wr.heap.size<=b) W 1 rRow (.slice va (aheadF bs).length vc) (aheadF bs)):=by
     rw [hW];exact bJ.out.mono aau (fun _ h=>h) (fun b o v hb hc=>by rw [World.cell?_of_block (w:=w2) (Below.heap_setCell _ _ _ _ (by dsimp only;omega))];exact hc)
    have cF:w.heap.size<W.heap.size:=by rw [hW];simp [World.setCell];omega
    clear hW ad aN bC cv ae bo bJ;obtain⟨S2,aX⟩:∃S2,Hid (SlAt S2 W 1 rRow (.slice va (aheadF bs).length vc) (aheadF bs)):=⟨_,aW⟩
    clear aW;go_loopw [38] (fun i wr=>∃k:Nat,k<=bs.length∧i = .int .i64 k∧(∀j,j<k->acE fs regs bs j=0)∧Below W.heap.size W wr) (fun i _=>bs.length - (intOf i).toNat)
    case atStart=>exact⟨0,Aaf _,rfl,fun j hj=>by omega,Below.refl _ _⟩
    case round =>
     obtain⟨wq,rfl⟩:∃wq:World,wq=wr:=⟨_,rfl⟩
     obtain⟨k,hk,rfl,ai,af⟩:=hrel;have au:=hid ai;have bp:=hid af;have bf:Below w.heap.size w wq:=HW.out.trans (af.mono (by omega));have cG:w.heap.size<wq.heap.size:=by have:=af.size;omega
     clear ai
     by_cases ag:k<bs.length
     . obtain⟨b,off,cs,rfl,hS,hx,-,aw⟩:=bj.out.get ag
       obtain⟨pa,pc,la,lc,ta,tc,rfl,cb,b9,-,cy,bD,cA,-,-⟩:=hx.opens;obtain⟨c0,c1,c2,c3,c4,c5⟩:=(aw.later bf).get6;have bT:Hid (k<(aheadF bs).length):=by rw [bK.out];exact ag
       have bL:Hid ((aheadF bs).length<=1048576):=by rw [bK.out];exact aG
       have cm:=hid cb;have cl:=hid b9;have aR:=hid bf;have He:Hid (acE fs regs bs k=if aba (aee regs bs k bs[k]) bs[k].phis.length≠0 then aba (aee regs bs k bs[k]) bs[k].phis.length else aba (afM fs regs bs[k]) bs[k].list.length):=by
        show acE fs regs bs k=_;unfold acE;rw [Aaa ag]
       clear aw hx cb b9 bf af;go_wp2_with fail;obtain⟨X,hX⟩:∃X,X=wq.alloc (.cells #[.slice pa bs[k].phis.length pc,.slice la bs[k].list.length lc,.int .i64 bs[k].fin.kind,.bool bs[k].fin.on.reg,.int .i64 bs[k].fin.on.n,.slice ta bs[k].fin.to.length tc] 48):=⟨_,rfl⟩
       rw [<-hX];have ch:Hid (X.cell? ⟨wq.heap.size,1,none⟩=some (.slice la bs[k].list.length lc)):=by rw [hX];simp [Hid]
       have bg:Hid (Below W.heap.size W X):=by rw [hX];have h:=bp.out;exact h.alloc (by have:=h.size;omega) _
       have bh:Hid (Below w.heap.size w X):=by rw [hX];have h:=aR.out;exact h.alloc (by have:=h.size;omega) _
       have cH:wq.heap.size<X.heap.size:=by rw [hX];simp
       clear hX c0 c1 c2 c3 c4 c5;go_loopw [46] (fun i wr=>∃j:Nat,j<=bs[k].phis.length∧i = .int .i64 j∧(∀j',j'<j->aee regs bs k bs[k] j'=0)∧Below X.heap.size X wr) (fun i _=>bs[k].phis.length - (intOf i).toNat)
       case atStart=>exact⟨0,Aaf _,rfl,fun j hj=>by omega,Below.refl _ _⟩
       case round =>
        obtain⟨j,hj,rfl,aj,aH⟩:=hrel;have ay:=hid aj;have bk:=hid aH;have aV:Hid (Below W.heap.size W wr):=bg.out.trans (aH.mono (bg.out.size));have aE:Hid (Below w.heap.size w wr):=bh.out.trans (aH.mono (bh.out.size));obtain⟨y0,y1,y2,y3,y4,y5,y6⟩:=(HC.out.later aV.out).get7;simp only [Aac] at y1 y2 y3 y4 y5 y6;have cC:w.heap.size<wr.heap.size:=aac y0;have cB:=aab ch.out aH;clear aj aH
        by_cases hjl:j<bs[k].phis.length
        . obtain⟨b2,bF,cs,rfl,-,hx,-,aw⟩:=cm.out.get hjl
          obtain⟨sa,sc,rfl,be,cz,cr⟩:=hx.opens;obtain⟨d0,d1⟩:=(aw.later aE.out).get2;have a1:=hid be;have aP:Hid (aee regs bs k bs[k] j=afQ regs k (aheadF bs) bs[k].phis[j]):=by
           show aee regs bs k bs[k] j=_;unfold aee;rw [Aaa hjl]
          clear aw hx be
          by_cases hz:afQ regs k (aheadF bs) bs[k].phis[j]=0
          . go_wp2_with (go_at_call 66;go_must ((with_reducible refine (ajf (S:=S2) (S':=S') _ _ _ _ _ _ _ _ regs _ _ _ _ _ (aheadF bs) bs[k].phis[j] _ _ k _ h0 h1 ?_ ?_ bT.out bL.out).mono ?_);refine aX.out.later aau ?_;have h:=aV.out;exact bE1 h;refine a1.out.later aap ?_;have h:=aE.out;exact bE1 h;rintro e w4 ⟨rfl,aS⟩))
            go_roundw
            case rel=>exact⟨j+1,by omega,by go_num,aa6 ay.out (aP.out.trans hz),by have h:=bk.out;exact bE2 aS h⟩
            case measure=>simp [intOf];omega
          . have cf:=abN hz
            have Hr:Hid (ab6 fs f=afQ regs k (aheadF bs) bs[k].phis[j]):=by
             have h:=acL ay.out hjl (by rw [aP.out];exact hz);rw [aP.out] at h;have h2:acE fs regs bs k=afQ regs k (aheadF bs) bs[k].phis[j]:=by rw [He.out,h];exact if_pos hz
             have h3:=acL au.out ag (by rw [h2];exact hz);show ab6 fs f=_;unfold ab6;rw [<-av.out,<-aJ.out,br.out,h3,h2];exact if_neg (by simp)
            clear hz;go_wp2_with (go_at_call 66;go_must ((with_reducible refine (ajf (S:=S2) (S':=S') _ _ _ _ _ _ _ _ regs _ _ _ _ _ (aheadF bs) bs[k].phis[j] _ _ k _ h0 h1 ?_ ?_ bT.out bL.out).mono ?_);refine aX.out.later aau ?_;have h:=aV.out;exact bE1 h;refine a1.out.later aap ?_;have h:=aE.out;exact bE1 h;rintro e w4 ⟨rfl,aS⟩));go_ret;exact⟨aaq Hr.out.symm,by have h:=aE.out;exact bE2 aS h⟩
        . obtain rfl:j=bs[k].phis.length:=by omega
          have bV:=hid (aaT ay.out);go_wp2_with fail;obtain⟨wp,rfl⟩:∃wp:World,wp=wr:=⟨_,rfl⟩
          clear y0 y1 y2 y3 y4 y5 y6 cB;go_loopw [61] (fun i wr=>∃j:Nat,j<=bs[k].list.length∧i = .int .i64 j∧(∀j',j'<j->afM fs regs bs[k] j'=0)∧Below X.heap.size X wr) (fun i _=>bs[k].list.length - (intOf i).toNat)
          case atStart=>exact⟨0,Aaf _,rfl,fun j hj=>by omega,bk.out⟩
          case round =>
           obtain⟨j,hj,rfl,aj,aH⟩:=hrel;have aA:=hid aj;have bk:=hid aH;have aV:Hid (Below W.heap.size W wr):=bg.out.trans (aH.mono (bg.out.size));have aE:Hid (Below w.heap.size w wr):=bh.out.trans (aH.mono (bh.out.size));obtain⟨y0,y1,y2,y3,y4,y5,y6⟩:=(HC.out.later aV.out).get7;simp only [Aac] at y1 y2 y3 y4 y5 y6;have cC:w.heap.size<wr.heap.size:=aac y0;clear aj aH
           by_cases hjl:j<bs[k].list.length
           . obtain⟨b2,bF,cs,rfl,-,hx,-,aw⟩:=cl.out.get hjl
             obtain⟨sa,sc,rfl,aM,cz,b4,b5,b6,b7,b8⟩:=hx.opens;obtain⟨d0,d1,d2,d3,d4,d5,d6,d7⟩:=(aw.later aE.out).get8;have aL:=hid aM;have bO:=hid b4;have bP:=hid b5;have bQ:=hid b6;have bR:=hid b7;have bS:=hid b8;have aP:Hid (afM fs regs bs[k] j=aed fs regs bs[k].list[j]):=by
              show afM fs regs bs[k] j=_;unfold afM;rw [Aaa hjl]
             clear aw hx aM b4 b5 b6 b7 b8
             by_cases hz:aed fs regs bs[k].list[j]=0
             . go_wp2_with (go_at_call 67;go_must ((with_reducible refine (ai0 (S:=S) (S':=S') _ _ _ fs _ _ _ _ regs _ _ _ _ _ _ bs[k].list[j] _ _ _ h0 h1 ?_ ?_ bl bO.out bP.out bQ.out bR.out bS.out).mono ?_);refine aY.out.later aan ?_;have h:=aE.out;exact bE1 h;refine aL.out.later aap ?_;have h:=aE.out;exact bE1 h;rintro e w4 ⟨rfl,aS⟩))
               go_roundw
               case rel=>exact⟨j+1,by omega,by go_num,aa6 aA.out (aP.out.trans hz),by have h:=bk.out;exact bE2 aS h⟩
               case measure=>simp [intOf];omega
             . have cf:=abN hz
               have Hr:Hid (ab6 fs f=aed fs regs bs[k].list[j]):=by
                have h:=acL aA.out hjl (by rw [aP.out];exact hz);rw [aP.out] at h;have h2:acE fs regs bs k=aed fs regs bs[k].list[j]:=by rw [He.out,bV.out,if_neg (by simp),h]
                have h3:=acL au.out ag (by rw [h2];exact hz);show ab6 fs f=_;unfold ab6;rw [<-av.out,<-aJ.out,br.out,h3,h2];exact if_neg (by simp)
               clear hz;go_wp2_with (go_at_call 67;go_must ((with_reducible refine (ai0 (S:=S) (S':=S') _ _ _ fs _ _ _ _ regs _ _ _ _ _ _ bs[k].list[j] _ _ _ h0 h1 ?_ ?_ bl bO.out bP.out bQ.out bR.out bS.out).mono ?_);refine aY.out.later aan ?_;have h:=aE.out;exact bE1 h;refine aL.out.later aap ?_;have h:=aE.out;exact bE1 h;rintro e w4 ⟨rfl,aS⟩));go_ret;exact⟨aaq Hr.out.symm,by have h:=aE.out;exact bE2 aS h⟩
           . obtain rfl:j=bs[k].list.length:=by omega
             have cj:Hid (acE fs regs bs k=0):=by
              show acE fs regs bs k=0;rw [He.out,bV.out,if_neg (by simp)];exact aaT aA.out
             go_wp2_with fail;go_roundw
             case rel=>exact⟨k+1,by omega,by go_num,aa6 au.out cj.out,aV.out⟩
             case measure=>simp [intOf];omega
     . obtain rfl:k=bs.length:=by omega
       have Hr:Hid (ab6 fs f=0):=by
        show ab6 fs f=0;unfold ab6;rw [<-av.out,<-aJ.out,br.out,if_neg (by simp)];exact aaT au.out
       have aR:=hid bf;clear bf af;go_wp2_with fail;go_ret;exact⟨aaq Hr.out.symm,aR.out⟩
end
section
open Go.RowKit
theorem aaQ(c a:Int)(w:World) :
 Calls Tryd.prog 21 #[.int .i64 c,.int .i64 a] w fun e w'=>e = .returned (.agg #[.int .i64 c,.int .i64 a])∧Below w.heap.size w w':=by
 go_enter Tryd.func21,Tryd.ntmps21;go_wp2;refine bodyPost_ret (v:=_) ?_ rfl ⟨rfl,?_⟩
 . simp [results,Tryd.results21,go_sem]
 . exact bE
theorem ab2 {fn : Func} {t : Nat} (cw : fn.results = #[.cell t 28]) {tmps : Array Value} {b : Nat} (ht : tmps.getD t undef = .pointer (some ⟨b, 0, none⟩)) {c a : Int} {W : World}
 (h0:W.cell? ⟨b,0,none⟩=some (.int .i64 c)) (h1:W.cell? ⟨b,1,none⟩=some (.int .i64 a)):(results fn tmps).run Tryd.prog W = .ok (.agg #[.int .i64 c,.int .i64 a]) W:=by
 simp only [Abl] at ht;simp [results,cw,ht,go_sem,h0,h1]
theorem aaU {w:World}{b:Nat}{x y u v:Value}(h0:w.cell? ⟨b,0,none⟩=some x)(h1:w.cell? ⟨b,1,none⟩=some y) :
 ((w.setCell ⟨b,0,none⟩ u).setCell ⟨b,1,none⟩ v).cell? ⟨b,0,none⟩=some u∧((w.setCell ⟨b,0,none⟩ u).setCell ⟨b,1,none⟩ v).cell? ⟨b,1,none⟩=some v:=by
 simp only [World.cell?] at h0 h1;cases hh:w.heap[b]? with
 | none=>rw [hh] at h0;cases h0
 | some o =>
   rw [hh] at h0 h1;cases o with
   | cells c e fr =>
     simp only [World.cell?,World.setCell,Array.getElem?_modify,hh];simp at h0 h1;have l0:=(Aan.1 h0).1;have l1:=(Aan.1 h1).1;simp [l0,l1]
   | _=>simp at h0
def ady(f:aal):Bool:=f.name.toList == [109,97,105,110]
theorem aff(s:ByteArray)(p r:Int)(ba:Option Addr)(n c:Nat)(w:World) :
 Calls Tryd.prog 42 #[.agg #[.string s,.int .i64 p,.int .i64 r,.slice ba n c]] w fun e w'=>e = .returned (.bool (s.toList == [109,97,105,110]))∧Below w.heap.size w w':=by
 go_enter Tryd.func42,Tryd.ntmps42;go_wp2;go_ret;exact⟨rfl,bE⟩
def aaF(fs:List aal):Int:=match fs.findIdx? ady with | some k=>k | none => -1
theorem acq {S:Nat->Prop}(fa:Option Addr)(fc:Nat)(fs:List aal)(w:World)(h:SlAt S w 4 abT (.slice fa fs.length fc) fs)(hm:fs.length<=1048576) :
 Calls Tryd.prog 24 #[.slice fa fs.length fc,.func (.func 42) #[] #[]] w fun e w'=>e = .returned (.int .i64 (aaF fs))∧Below w.heap.size w w':=by
 have Hh:=hid h;clear h;go_enter Tryd.func24,Tryd.ntmps24;go_wp2_with fail;go_loopw [8] (fun i wr=>∃k:Nat,k<=fs.length∧i = .int .i64 k∧(∀j,j<k->∀x,fs[j]?=some x->ady x=false)∧Below w.heap.size w wr) (fun i _=>fs.length - (intOf i).toNat)
 case atStart=>exact⟨0,Aaf _,rfl,fun j hj=>by omega,Below.refl _ _⟩
 case round =>
  obtain⟨k,hk,rfl,ai,hb⟩:=hrel;have H:=hid ai;have Hb:=hid hb;clear ai
  by_cases ag:k<fs.length
  . obtain⟨b,off,cs,rfl,-,hx,-,aw⟩:=Hh.out.get ag
    obtain⟨ba,bc,rfl,-,-,-,-⟩:=hx.opens;obtain⟨c0,c1,c2,c3⟩:=(aw.later hb).get4;clear aw hx hb
    by_cases he:ady fs[k]=true
    . have hi:aaF fs=k:=by unfold aaF;rw [adv (Aaa ag) he H.out]
      have ct:(fs[k].name.toList == [109,97,105,110])=true:=he;have Hi:=hid hi;clear hi he;go_wp2_with (go_at_call 42;((with_reducible refine (aff _ _ _ _ _ _ _).mono ?_);rintro e w2 ⟨rfl,ak⟩));go_ret;exact⟨aaq Hi.out.symm,by have h:=Hb.out;exact bE2 ak h⟩
    . have bB:ady fs[k]=false:=by simpa using he
      have ct:(fs[k].name.toList == [109,97,105,110])=false:=bB;have He:=hid bB;clear bB he;go_wp2_with (go_at_call 42;((with_reducible refine (aff _ _ _ _ _ _ _).mono ?_);rintro e w2 ⟨rfl,ak⟩));go_roundw
      case rel=>exact⟨k+1,by omega,by go_num,aa6 H.out (fun x hx=>by rw [Aaa ag] at hx;cases hx;exact He.out),by have h:=Hb.out;exact bE2 ak h⟩
      case measure=>simp [intOf];omega
  . have hi:aaF fs = -1:=by
     unfold aaF;rw [adu (fun j x hx=>H.out j (by have:=(Aae.1 hx).1;omega) x hx)]
    have Hi:=hid hi;clear hi hb;go_wp2_with fail;go_ret;exact⟨aaq Hi.out.symm,Hb.out⟩
end
section
open Go.RowKit
def acd (e : Nat -> Int) : Nat -> Nat
 | 0=>0
 | n+1=>if acd e n<n then acd e n else if e n≠0 then n else n+1
variable {e:Nat->Int}{n:Nat}
theorem adD(h:∀j,j<n->e j=0):acd e n=n:=by
 induction n with
 | zero=>rfl
 | succ n ih=>rw [acd,ih (fun j hj=>h j (by omega)),if_neg (by omega),if_neg (by simpa using h n (by omega))]
variable {k:Nat}
theorem afS(h:∀j,j<k->e j=0)(hk:k<n)(he:e k≠0):acd e n=k:=by
 induction n with
 | zero=>omega
 | succ n ih =>
   rw [acd];rcases Nat.lt_succ_iff_lt_or_eq.1 hk with h1 | h1
   . rw [ih h1,if_pos h1]
   . subst h1;rw [adD h,if_neg (by omega),if_pos he]
theorem aem(h:¬acd e n<n):∀j,j<n->e j=0:=by
 induction n with
 | zero=>intro j hj;omega
 | succ n ih =>
   rw [acd] at h
   by_cases h1:acd e n<n
   . rw [if_pos h1] at h;omega
   . rw [if_neg h1] at h
     by_cases h2:e n=0
     . exact aa6 (ih h1) h2
     . rw [if_pos h2] at h;omega
theorem abP(h:acd e n<n):e (acd e n)≠0:=by
 induction n with
 | zero=>omega
 | succ n ih =>
   rw [acd] at h ⊢
   by_cases h1:acd e n<n
   . rw [if_pos h1];exact ih h1
   . rw [if_neg h1] at h ⊢
     by_cases h2:e n≠0
     . rw [if_pos h2];exact h2
     . rw [if_neg h2] at h;omega
def abL(gs:List aat)(k:Nat):List ByteArray:=(gs.take k).map (·.name)
def aaY(gs:List aat)(k:Nat):Int:=((gs.take k).map (·.size)).sum
def abK(gs:List aat)(fs:List aal)(k:Nat):List ByteArray:=abL gs gs.length++(fs.take k).map (·.name)
def abM(names:List ByteArray)(words:Int)(g:aat):Int :=
 if abB g.name=false then 12
 else if acO names g.name=true then 7
 else if ¬(1<=g.size∧g.size<=200) then 3
 else if g.size<(g.init.length:Int) then 9
 else if 200<words+g.size then 10
 else 0
def acp(gs:List aat)(k:Nat):Int:=match gs[k]? with | some g=>abM (abL gs k) (aaY gs k) g | none=>0
def abp(gs:List aat)(fs:List aal)(k:Nat):Int:=match fs[k]? with | some f=>adi (abK gs fs k) f | none=>0
def aa7(fs:List aal)(k:Nat):Int:=match fs[k]? with | some f=>ab6 fs f | none=>0
def agx(fs:List aal):Int×Int :=
 if aaF fs<0 then (6,0) else if 0<(fs.getD (aaF fs).toNat ⟨ByteArray.empty,0,0,[]⟩).params then (5,aaF fs) else (0,0)
def aak(u:aax):Int×Int :=
 if 10<u.globals.length∨10<u.funcs.length then (2,0)
 else if acd (acp u.globals) u.globals.length<u.globals.length then (acp u.globals (acd (acp u.globals) u.globals.length),acd (acp u.globals) u.globals.length)
 else if acd (abp u.globals u.funcs) u.funcs.length<u.funcs.length then (abp u.globals u.funcs (acd (abp u.globals u.funcs) u.funcs.length),acd (abp u.globals u.funcs) u.funcs.length)
 else if acd (aa7 u.funcs) u.funcs.length<u.funcs.length then (aa7 u.funcs (acd (aa7 u.funcs) u.funcs.length),acd (aa7 u.funcs) u.funcs.length)
 else agx u.funcs
variable {gs:List aat}
theorem ag0(h:k<gs.length):abL gs (k+1)=abL gs k++[gs[k].name]:=by
 unfold abL;rw [Aaz h,Aat];rfl
theorem agW{fs:List aal}(h:k<fs.length):abK gs fs (k+1)=abK gs fs k++[fs[k].name]:=by
 unfold abK;rw [Aaz h,Aat,Aa9];rfl
theorem abX(h:k<gs.length):aaY gs (k+1)=aaY gs k+gs[k].size:=by
 unfold aaY;rw [Aaz h,Aat,List.sum_append];simp
theorem adT {names:List ByteArray}{words:Int}{g:aat}(h:abM names words g=0) :
 abB g.name=true∧acO names g.name=false∧1<=g.size∧g.size<=200∧(g.init.length:Int)<=g.size∧words+g.size<=200:=by
 unfold abM at h
 by_cases h1:abB g.name=false
 . rw [if_pos h1] at h;omega
 rw [if_neg h1] at h
 by_cases h2:acO names g.name=true
 . rw [if_pos h2] at h;omega
 rw [if_neg h2] at h
 by_cases h3:1<=g.size∧g.size<=200
 case neg=>rw [if_pos h3] at h;omega
 rw [if_neg (by simpa using h3)] at h
 by_cases h4:g.size<(g.init.length:Int)
 . rw [if_pos h4] at h;omega
 rw [if_neg h4] at h
 by_cases h5:200<words+g.size
 . rw [if_pos h5] at h;omega
 exact⟨by simpa using h1,by simpa using h2,h3.1,h3.2,by omega,by omega⟩
theorem acZ {names:List ByteArray}{f:aal}(h:adi names f=0) :
 abB f.name=true∧acO names f.name=false∧0<=f.params∧f.params<=6∧f.params<=f.regs∧f.regs<=100∧1<=f.blocks.length∧f.blocks.length<=40∧aa1 f.blocks<=300:=by
 unfold adi at h
 by_cases h1:abB f.name=false
 . rw [if_pos h1] at h;omega
 rw [if_neg h1] at h
 by_cases h2:acO names f.name=true
 . rw [if_pos h2] at h;omega
 rw [if_neg h2] at h
 by_cases h3:¬(0<=f.params∧f.params<=6)∨¬(f.params<=f.regs∧f.regs<=100)
 . rw [if_pos h3] at h;omega
 rw [if_neg h3] at h
 by_cases h4:¬(1<=f.blocks.length∧f.blocks.length<=40)∨300<aa1 f.blocks
 . rw [if_pos h4] at h;omega
 exact⟨by simpa using h1,by simpa using h2,by omega,by omega,by omega,by omega,by omega,by omega,by omega⟩
theorem ah5 {fs:List aal}(h:¬aaF fs<0):∃m:Nat,m<fs.length∧aaF fs=m:=by
 unfold aaF at *;split at h
 . rename_i k hk
   rw [List.findIdx?_eq_some_iff_getElem] at hk;exact⟨k,hk.1,rfl⟩
 . omega
theorem aeZ(hk:k<=gs.length)(h:∀j,j<k->acp gs j=0):0<=aaY gs k∧aaY gs k<=200:=by
 induction k with
 | zero=>simp [aaY]
 | succ k ih =>
   have h1:=ih (by omega) (fun j hj=>h j (by omega));have h2:=h k (by omega);have ag:k<gs.length:=by omega
   unfold acp at h2;rw [Aaa ag] at h2;have h3:=adT h2;rw [abX ag];omega
variable {w:World}{base:Nat}{v:Value}
theorem adC{w':World}{e:TypeId}{size:Nat}{xs:List Value}(h:w.ownsRow base e size v n xs)(hb:Below w.heap.size w w'):w'.ownsRow base e size v n xs:=by
 obtain⟨h1,h2⟩:=h;refine⟨h1,?_⟩;rcases h2 with h2 | ⟨g,cap,cur,hv,hg,hh,r⟩
 . exact .inl h2
 . have ag:g<w.heap.size:=by
    rcases Nat.lt_or_ge g w.heap.size with h3 | h3
    . exact h3
    . rw [Array.getElem?_eq_none h3] at hh;cases hh
   exact .inr ⟨g,cap,cur,hv,hg,by rw [hb.block g ag];exact hh,r⟩
theorem aml{α:Type}{r:Rp α}(f:α->Value){e:TypeId}{l:List α}(h:w.ownsRow base e 1 v l.length (l.map f))(hr:∀x∈l,r (fun b=>base<=b) w [f x] x) :
 SlAt (fun b=>base<=b) w 1 r v l:=by
 obtain⟨h1,h2⟩:=h;rcases h2 with⟨rfl,h2⟩ | ⟨g,cap,cur,rfl,hg,hh,hn,hm,hs,ht⟩
 . have:l=[]:=Abm h2
   subst this;exact⟨none,0,rfl,Aad _,by omega,fun h=>absurd rfl h⟩
 . refine⟨_,cap,rfl,hn,by unfold maxLen at hm;exact hm,fun _=>⟨g,0,rfl,hg,fun i x hx=>⟨[f x],hr x (Aah hx),rfl,?_⟩⟩⟩
   refine .cons ?_ (.nil _ _ _);have h3:(l.map f)[i]?=some (f x):=by rw [Aap,hx];rfl
   rw [<-ht,Aam,List.getElem?_take] at h3;have hi:i<l.length:=(Aae.1 hx).1;rw [if_pos hi] at h3;simp only [World.cell?,hh,Aac,Aam];simpa using h3
theorem ahC{e:TypeId}{l:List ByteArray}(h:w.ownsRow base e 1 v l.length (l.map Value.string)):SlAt (fun b=>base<=b) w 1 akO v l :=
 aml Value.string h (fun _ _=>rfl)
end
end Go.Proofs.YtgekbfgplclmeaaDoor
