import Derived.Deep.CutRange
import Derived.Deep.Light
import Derived.Test.YtnkfdeiigplhoaaGreatDoorPGAhd
/- Contracts of code.first over the three closures, and of the checker's ins. The contract of the checker's ins. The contract of the checker's body. -/
set_option maxHeartbeats 4000000
namespace Go.Proofs.YtnkfdeiigplhoaaGreatDoor
section
open Go.RowKit
def acz(e1 e2 e3:Int):Int:=if e1≠0 then e1 else if e2≠0 then e2 else e3
theorem alv (lb : Nat) (pc px pk : Value) (e1 e2 e3 : Int) (w : World)
 (h0:w.cell? ⟨lb,0,none⟩=some (.func (.func 115) #[] #[pc,px]))
 (h1:w.cell? ⟨lb,1,none⟩=some (.func (.func 116) #[] #[pc,px]))
 (h2:w.cell? ⟨lb,2,none⟩=some (.func (.func 117) #[] #[pk,px,pc]))
 (H1:Hid (∀w',Below w.heap.size w w'->Calls Tryz.prog 115 #[pc,px] w' fun e ai=>e = .returned (.int .i64 e1)∧Below w'.heap.size w' ai))
 (H2:Hid (∀w',Below w.heap.size w w'->Calls Tryz.prog 116 #[pc,px] w' fun e ai=>e = .returned (.int .i64 e2)∧Below w'.heap.size w' ai))
 (H3:Hid (∀w',Below w.heap.size w w'->Calls Tryz.prog 117 #[pk,px,pc] w' fun e ai=>e = .returned (.int .i64 e3)∧Below w'.heap.size w' ai)) :
 Calls Tryz.prog 114 #[.slice (some ⟨lb,0,none⟩) 3 3] w fun e w'=>e = .returned (.int .i64 (acz e1 e2 e3))∧Below w.heap.size w w':=by
 go_enter Tryz.func114,Tryz.ntmps114;go_wp2_with fail;go_loopw [8] (fun i wr=>∃k:Nat,k<=3∧i = .int .i64 k∧(1<=k->e1=0)∧(2<=k->e2=0)∧(3<=k->e3=0)∧Below w.heap.size w wr) (fun i _=>3 - (intOf i).toNat)
 case atStart=>exact⟨0,by omega,rfl,fun _=>by omega,fun _=>by omega,fun _=>by omega,bE⟩
 case round =>
  obtain⟨k,hk,rfl,z1,z2,z3,aF⟩:=hrel;have g0:=aab h0 aF;have g1:=aab h1 aF;have g2:=aab h2 aF;have ar:=hid aF;have Z1:=hid z1;have Z2:=hid z2;have Z3:=hid z3;have cz:=aF.size;clear aF z1 z2 z3;have ct:k=0∨k=1∨k=2∨k=3:=by omega
  rcases ct with rfl | rfl | rfl | rfl
  . by_cases hz:e1=0
    . have ae:e1<=0:=by omega
      have bm:0<=e1:=by omega
      have Hz:=hid hz;clear hz;go_wp2_with (go_at_call 115;((with_reducible refine (H1.out _ ar.out).mono ?_);rintro e w1 ⟨rfl,aj⟩));go_roundw
      case rel=>exact⟨1,by omega,rfl,fun _=>Hz.out,fun _=>by omega,fun _=>by omega,by have h:=ar.out;exact bE2 aj h⟩
      case measure=>simp [intOf]
    . have ae:e1<0∨0<e1:=by omega
      have Hz:=hid hz;clear hz;go_wp2_with (go_at_call 115;((with_reducible refine (H1.out _ ar.out).mono ?_);rintro e w1 ⟨rfl,aj⟩));go_ret;exact⟨aaA (by unfold acz;rw [if_pos Hz.out]),by have h:=ar.out;exact bE2 aj h⟩
  . by_cases hz:e2=0
    . have ae:e2<=0:=by omega
      have bm:0<=e2:=by omega
      have Hz:=hid hz;clear hz;go_wp2_with (go_at_call 116;((with_reducible refine (H2.out _ ar.out).mono ?_);rintro e w1 ⟨rfl,aj⟩));go_roundw
      case rel=>exact⟨2,by omega,rfl,fun _=>Z1.out (by omega),fun _=>Hz.out,fun _=>by omega,by have h:=ar.out;exact bE2 aj h⟩
      case measure=>simp [intOf]
    . have ae:e2<0∨0<e2:=by omega
      have Hz:=hid hz;clear hz;go_wp2_with (go_at_call 116;((with_reducible refine (H2.out _ ar.out).mono ?_);rintro e w1 ⟨rfl,aj⟩));go_ret;exact⟨aaA (by unfold acz;rw [if_neg (by simpa using Z1.out (by omega)),if_pos Hz.out]),by have h:=ar.out;exact bE2 aj h⟩
  . by_cases hz:e3=0
    . have ae:e3<=0:=by omega
      have bm:0<=e3:=by omega
      have Hz:=hid hz;clear hz;go_wp2_with (go_at_call 117;((with_reducible refine (H3.out _ ar.out).mono ?_);rintro e w1 ⟨rfl,aj⟩));go_roundw
      case rel=>exact⟨3,by omega,rfl,fun _=>Z1.out (by omega),fun _=>Z2.out (by omega),fun _=>Hz.out,by have h:=ar.out;exact bE2 aj h⟩
      case measure=>simp [intOf]
    . have ae:e3<0∨0<e3:=by omega
      have Hz:=hid hz;clear hz;go_wp2_with (go_at_call 117;((with_reducible refine (H3.out _ ar.out).mono ?_);rintro e w1 ⟨rfl,aj⟩));go_ret;exact⟨aaA (by unfold acz;rw [if_neg (by simpa using Z1.out (by omega)),if_neg (by simpa using Z2.out (by omega))]),by have h:=ar.out;exact bE2 aj h⟩
  . go_wp2_with fail
    go_ret;exact⟨aaA (by unfold acz;rw [if_neg (by simpa using Z1.out (by omega)),if_neg (by simpa using Z2.out (by omega)),Z3.out (by omega)]),by have h:=ar.out;exact bE1 h⟩
theorem agQ (W : World) (lb : Nat) (pc px pk : Value) (e1 e2 e3 : Int) (w : World)
 (H1:Hid (∀w',Below W.heap.size W w'->Calls Tryz.prog 115 #[pc,px] w' fun e ai=>e = .returned (.int .i64 e1)∧Below w'.heap.size w' ai))
 (H2:Hid (∀w',Below W.heap.size W w'->Calls Tryz.prog 116 #[pc,px] w' fun e ai=>e = .returned (.int .i64 e2)∧Below w'.heap.size w' ai))
 (H3:Hid (∀w',Below W.heap.size W w'->Calls Tryz.prog 117 #[pk,px,pc] w' fun e ai=>e = .returned (.int .i64 e3)∧Below w'.heap.size w' ai))
 (hW:Below W.heap.size W w)
 (h0:w.cell? ⟨lb,0,none⟩=some (.func (.func 115) #[] #[pc,px]))
 (h1:w.cell? ⟨lb,1,none⟩=some (.func (.func 116) #[] #[pc,px]))
 (h2:w.cell? ⟨lb,2,none⟩=some (.func (.func 117) #[] #[pk,px,pc])) :
 Calls Tryz.prog 114 #[.slice (some ⟨lb,0,none⟩) 3 3] w fun e w'=>e = .returned (.int .i64 (acz e1 e2 e3))∧Below w.heap.size w w' :=
 alv lb pc px pk e1 e2 e3 w h0 h1 h2 (fun w' h=>H1 w' (hW.trans (h.mono hW.size))) (fun w' h=>H2 w' (hW.trans (h.mono hW.size))) (fun w' h=>H3 w' (hW.trans (h.mono hW.size)))
def acZ(x:ad8):Bool :=
 (!shpD x.op&&decide (x.dst ≠ -1))||(!shpA x.op&&decide (x.a≠⟨false,0⟩))||(!shpB x.op&&decide (x.b≠⟨false,0⟩))||(decide (x.op≠20)&&(decide (x.fn≠0)||decide (0<x.args.length)))
def aeN(fs:List aao)(regs:Int)(x:ad8):Int :=
 if ¬(1<=x.op∧x.op<=22) then 4
 else if acZ x=true then 5
 else if (shpD x.op=true∧¬(x.op=20∧x.dst = -1))∧agB regs x.dst≠0 then 3
 else acz (abN regs x.a) (abN regs x.b) (ab5 fs regs x)
end
section
open Go.RowKit
theorem alV {op:Int}(h:1<=op∧op<=22) :
 (shpD op=true∧shpA op=true∧shpB op=false∧(decide (op<=20)&&decide (20<=op))=false) ∨
 (shpD op=true∧shpA op=true∧shpB op=true∧(decide (op<=20)&&decide (20<=op))=false) ∨
 (shpD op=false∧shpA op=true∧shpB op=true∧(decide (op<=20)&&decide (20<=op))=false) ∨
 (shpD op=true∧shpA op=false∧shpB op=false∧(decide (op<=20)&&decide (20<=op))=true) ∨
 (shpD op=true∧shpA op=false∧shpB op=false∧(decide (op<=20)&&decide (20<=op))=false) ∨
 (shpD op=false∧shpA op=true∧shpB op=false∧(decide (op<=20)&&decide (20<=op))=false):=by
 simp only [shpD,shpA,shpB,Bool.or_eq_true,Abj,Bool.and_eq_true,Ab2,decide_eq_true_eq,decide_eq_false_iff_not];omega
theorem alU {S S' : Nat -> Prop} (ga : Option Addr) (gn gc : Nat) (fs : List aao) (fa : Option Addr) (fc : Nat) (s : ByteArray) (p : Int) (regs : Int) (ba : Option Addr) (bn bc : Nat) (aa : Option Addr) (an ac : Nat) (x : ad8) (ra : Option Addr) (rc : Nat) (w : World) (h0 : 0 <= regs) (h1 : regs <= 100)
 (a7:SlAt S w 4 aaZ (.slice fa fs.length fc) fs) (has:SlAt S' w 2 ady (.slice ra x.args.length rc) x.args) (bk:fs.length<=1048576) (_ho:I64 x.op) (_hd:I64 x.dst) (_ha:I64 x.a.n) (_hb:I64 x.b.n) (_hf:I64 x.fn) :
 Calls Tryz.prog 83 #[.agg #[.slice ga gn gc,.slice fa fs.length fc,.string s,.int .i64 p,.int .i64 regs,.slice ba bn bc,.slice aa an ac],.agg #[.int .i64 x.op,.int .i64 x.dst,.bool x.a.reg,.int .i64 x.a.n,.bool x.b.reg,.int .i64 x.b.n,.int .i64 x.fn,.slice ra x.args.length rc]] w fun e w' =>
  e = .returned (.int .i64 (aeN fs regs x))∧Below w.heap.size w w':=by
 have aX:=hid a7;have Has:=hid has;obtain⟨_,_,cl,cm⟩:=has.val;cases cl;clear a7 has
 by_cases hop:1<=x.op∧x.op<=22
 case neg =>
  have Hr:=hid (show aeN fs regs x=4 by simp only [aeN,hop];simp);go_enter Tryz.func83,Tryz.ntmps83;go_wp2_with (go_at_call 25;((with_reducible refine (aaq _ _ _ _).mono ?_);rintro e w' ⟨rfl,rfl⟩));go_ret;exact⟨aaA Hr.out.symm,bE⟩
 generalize hbad:acZ x=bad;have ax:=hid hbad;clear hbad;go_enter Tryz.func83,Tryz.ntmps83;go_upto_region 5 with (first | (go_at_call 25;((with_reducible refine (aaq _ _ _ _).mono ?_);rintro e w' ⟨rfl,rfl⟩)) | (go_at_call 113;((with_reducible refine (akV _ _).mono ?_);rintro e w1 ⟨rfl,aj⟩;obtain⟨ad,bA⟩:=aau aj;have ae:w.heap.size+1<w1.heap.size:=(by have:=aj.size;simp at this;omega);have ak:w.heap.size<w1.heap.size:=(by omega))))
 obtain⟨W,hW⟩:∃W,W=(w1.alloc (.cells #[.bool (shpD x.op),.bool (shpA x.op),.bool (shpB x.op)] 181)).alloc (.cells #[.bool (decide (x.op<=20)&&decide (20<=x.op))] 4):=⟨_,rfl⟩
 rw [<-hW];have s0:W.cell? ⟨w1.heap.size,0,none⟩=some (.bool (shpD x.op)):=by rw [hW];simp
 have s1:W.cell? ⟨w1.heap.size,1,none⟩=some (.bool (shpA x.op)):=by rw [hW];simp
 have s2:W.cell? ⟨w1.heap.size,2,none⟩=some (.bool (shpB x.op)):=by rw [hW];simp
 have s3:W.cell? ⟨w1.heap.size+1,0,none⟩=some (.bool (decide (x.op<=20)&&decide (20<=x.op))):=by rw [hW];simp
 have x0:W.cell? ⟨w.heap.size+1,0,none⟩=some (.int .i64 x.op):=by rw [hW];simp [go_sem,ad,ae,ak]
 have x1:W.cell? ⟨w.heap.size+1,1,none⟩=some (.int .i64 x.dst):=by rw [hW];simp [go_sem,ad,ae,ak]
 have x2:W.cell? ⟨w.heap.size+1,2,none⟩=some (.bool x.a.reg):=by rw [hW];simp [go_sem,ad,ae,ak]
 have x3:W.cell? ⟨w.heap.size+1,3,none⟩=some (.int .i64 x.a.n):=by rw [hW];simp [go_sem,ad,ae,ak]
 have x4:W.cell? ⟨w.heap.size+1,4,none⟩=some (.bool x.b.reg):=by rw [hW];simp [go_sem,ad,ae,ak]
 have x5:W.cell? ⟨w.heap.size+1,5,none⟩=some (.int .i64 x.b.n):=by rw [hW];simp [go_sem,ad,ae,ak]
 have x6:W.cell? ⟨w.heap.size+1,6,none⟩=some (.int .i64 x.fn):=by rw [hW];simp [go_sem,ad,ae,ak]
 have x7:W.cell? ⟨w.heap.size+1,7,none⟩=some (.slice ra x.args.length rc):=by rw [hW];simp [go_sem,ad,ae,ak]
 have bX:Below (w.heap.size+2) ((w.alloc (.cells #[.slice ga gn gc,.slice fa fs.length fc,.string s,.int .i64 p,.int .i64 regs,.slice ba bn bc,.slice aa an ac] 102)).alloc (.cells #[.int .i64 x.op,.int .i64 x.dst,.bool x.a.reg,.int .i64 x.a.n,.bool x.b.reg,.int .i64 x.b.n,.int .i64 x.fn,.slice ra x.args.length rc] 62)) W:=by
  rw [hW];exact bE1 aj
 have bK:=hid bX;have HC:Hid (aaj W w.heap.size 0 [.slice ga gn gc,.slice fa fs.length fc,.string s,.int .i64 p,.int .i64 regs,.slice ba bn bc,.slice aa an ac]):=by
  rw [hW];exact .cons (by simp [go_sem,ad,ak]) (.cons (by simp [go_sem,ad,ak]) (.cons (by simp [go_sem,ad,ak]) (.cons (by simp [go_sem,ad,ak]) (.cons (by simp [go_sem,ad,ak]) (.cons (by simp [go_sem,ad,ak]) (.cons (by simp [go_sem,ad,ak]) (.nil _ _ _)))))))
 have z1:w.heap.size+1<W.heap.size:=by rw [hW];simp;omega
 have z2:w1.heap.size+1<W.heap.size:=by rw [hW];simp
 clear bX hW ad bA aj ae ak;generalize w1.heap.size=sb at *;have hb:=ax.out;unfold acZ at hb;have bw:bad=((!shpD x.op&&(decide (x.dst < -1)||decide (-1<x.dst)))||(!shpA x.op&&(x.a.reg||(decide (x.a.n<0)||decide (0<x.a.n))))||(!shpB x.op&&(x.b.reg||(decide (x.b.n<0)||decide (0<x.b.n))))||(!(decide (x.op<=20)&&decide (20<=x.op))&&((decide (x.fn<0)||decide (0<x.fn))||decide (0<x.args.length)))):=by
  have v0:∀v:DVal,decide (v≠⟨false,0⟩)=(v.reg||(decide (v.n<0)||decide (0<v.n))):=fun⟨r,n⟩=>by
   rw [Aa0];cases r <;> simp <;> omega
  have i0:∀a b:Int,decide (a≠b)=(decide (a<b)||decide (b<a)):=fun a b=>by rw [Aa0];simp;omega
  have i1:∀a b:Int,(decide (a<b)||decide (b<a))=!(decide (a<=b)&&decide (b<=a)):=fun a b=>by rw [Aa0];simp;omega
  rw [<-hb,v0,v0,i0,i0,i0,i1 x.op 20]
 have bx:=alV hop;clear hb;obtain⟨D,hD⟩:∃D,shpD x.op=D:=⟨_,rfl⟩
 obtain⟨A,hA⟩:∃A,shpA x.op=A:=⟨_,rfl⟩
 obtain⟨B,hB⟩:∃B,shpB x.op=B:=⟨_,rfl⟩
 obtain⟨kz,aN⟩:∃kz,(decide (x.op<=20)&&decide (20<=x.op))=kz:=⟨_,rfl⟩
 obtain⟨dz,a1⟩:∃dz,(decide (x.dst < -1)||decide (-1<x.dst))=dz:=⟨_,rfl⟩
 obtain⟨az,bW⟩:∃az,(x.a.reg||(decide (x.a.n<0)||decide (0<x.a.n)))=az:=⟨_,rfl⟩
 obtain⟨bz,bZ⟩:∃bz,(x.b.reg||(decide (x.b.n<0)||decide (0<x.b.n)))=bz:=⟨_,rfl⟩
 obtain⟨fz,b0⟩:∃fz,(decide (x.fn<0)||decide (0<x.fn))=fz:=⟨_,rfl⟩
 obtain⟨lz,b8⟩:∃lz,decide (0<x.args.length)=lz:=⟨_,rfl⟩
 rw [hD,hA,hB,aN,a1,bW,bZ,b0,b8] at bw;rw [hD,hA,hB,aN] at bx;rw [hD] at s0;rw [hA] at s1;rw [hB] at s2;rw [aN] at s3;have bL:=hid bw;have HD:=hid hD;have aY:=hid aN;clear bw hD hA hB aN;go_cut [62] from 8 to 62 (fun v wc=>v = .bool bad∧W=wc)
 case first =>
  clear aX Has bK cm z1 z2 HD aY ax HC;rcases bx with⟨rfl,rfl,rfl,rfl⟩ | ⟨rfl,rfl,rfl,rfl⟩ | ⟨rfl,rfl,rfl,rfl⟩ | ⟨rfl,rfl,rfl,rfl⟩ | ⟨rfl,rfl,rfl,rfl⟩ | ⟨rfl,rfl,rfl,rfl⟩
  all_goals
   go_wp2_with fail
  all_goals
   go_meet;refine⟨congrArg Value.bool ?_,rfl⟩;rw [bL.out];simp [*]
 case rest =>
  obtain⟨rfl,rfl⟩:=hcut;clear a1 bW bZ b0 b8 bx bL;have br:Below w.heap.size w W:=(bE:Below w.heap.size w ((w.alloc (.cells #[.slice ga gn gc,.slice fa fs.length fc,.string s,.int .i64 p,.int .i64 regs,.slice ba bn bc,.slice aa an ac] 102)).alloc (.cells #[.int .i64 x.op,.int .i64 x.dst,.bool x.a.reg,.int .i64 x.a.n,.bool x.b.reg,.int .i64 x.b.n,.int .i64 x.fn,.slice ra x.args.length rc] 62))).trans (bK.out.mono (by omega));have aT:=hid br;cases bad
  case true =>
   have Hr:=hid (show aeN fs regs x=5 by simp only [aeN,hop,ax.out];simp);clear br;go_wp2_with fail;go_ret;exact⟨aaA Hr.out.symm,by have h:=aT.out;exact bE1 h⟩
  have a8:kz=decide (x.op=20):=by rw [<-aY.out,Aa0];simp;omega
  have bD:Hid (∀w',Below W.heap.size W w'->Calls Tryz.prog 115 #[.pointer (some ⟨w.heap.size,0,none⟩),.pointer (some ⟨w.heap.size+1,0,none⟩)] w' fun e ai=>e = .returned (.int .i64 (abN regs x.a))∧Below w'.heap.size w' ai) :=
   fun w' h=>anh _ _ _ _ _ _ regs _ _ _ _ _ _ x.a w' h0 h1 _ _ _ _ _ _ _ _ rfl rfl rfl rfl (HC.out.later h) (aab x2 h) (aab x3 h)
  have bF:Hid (∀w',Below W.heap.size W w'->Calls Tryz.prog 116 #[.pointer (some ⟨w.heap.size,0,none⟩),.pointer (some ⟨w.heap.size+1,0,none⟩)] w' fun e ai=>e = .returned (.int .i64 (abN regs x.b))∧Below w'.heap.size w' ai) :=
   fun w' h=>ani _ _ _ _ _ _ regs _ _ _ _ _ _ x.b w' h0 h1 _ _ _ _ _ _ _ _ rfl rfl rfl rfl (HC.out.later h) (aab x4 h) (aab x5 h)
  have bG:Hid (∀w',Below W.heap.size W w'->Calls Tryz.prog 117 #[.pointer (some ⟨sb+1,0,none⟩),.pointer (some ⟨w.heap.size+1,0,none⟩),.pointer (some ⟨w.heap.size,0,none⟩)] w' fun e ai=>e = .returned (.int .i64 (ab5 fs regs x))∧Below w'.heap.size w' ai) :=
   fun w' h=>anj _ _ _ _ _ _ fs regs _ _ _ _ _ _ x w' h0 h1 _ _ _ _ _ _ _ _ _ rfl rfl rfl (HC.out.later h) (by rw [<-a8];exact aab s3 h) (aab x6 h) (aab x7 h) ((aX.out.later aak aT.out).later aak h) ((Has.out.later aaw aT.out).later aaw h) bk
  obtain⟨y0,y1,y2,y3,y4,y5,y6⟩:=HC.out.get7;simp only [Aab] at y1 y2 y3 y4 y5 y6;have z0:w.heap.size<W.heap.size:=by omega
  clear br a8;have a6:∀d:Bool,d=(D&&!(kz&&(decide (x.dst <= -1)&&decide (-1<=x.dst))))->((shpD x.op=true∧¬(x.op=20∧x.dst = -1))↔d=true):=by
   intro d hd;rw [hd,HD.out,<-aY.out];simp;omega
  have ay:=hid a6;clear a6;obtain⟨ez,cq⟩:∃ez,(decide (x.dst <= -1)&&decide (-1<=x.dst))=ez:=⟨_,rfl⟩
  rw [cq] at ay;have a1:D=true∨D=false:=by cases D <;> simp
  have aN:kz=true∨kz=false:=by cases kz <;> simp
  by_cases hgo:(D&&!(kz&&ez))=true
  . have al:aeN fs regs x=if agB regs x.dst≠0 then 3 else acz (abN regs x.a) (abN regs x.b) (ab5 fs regs x):=by
     simp only [aeN,hop,ax.out,(ay.out _ rfl).2 hgo];simp
    have aJ:(D=true∧kz=false)∨(D=true∧kz=true∧ez=false):=by revert hgo;cases D <;> cases kz <;> cases ez <;> simp
    clear hgo a1 aN ay HD aY
    by_cases hd:agB regs x.dst=0
    . have aA:=hid (show aeN fs regs x=acz (abN regs x.a) (abN regs x.b) (ab5 fs regs x) by rw [al,hd];simp)
      clear al;rcases aJ with⟨rfl,rfl⟩ | ⟨rfl,rfl,rfl⟩
      all_goals
       go_wp2_with (first | (go_at_call 112;((with_reducible refine (afV _ _ _ _ _ _ _ _ _ h0 h1).mono ?_);rintro e w2 ⟨rfl,au⟩)) | (go_at_call 114;((with_reducible refine (agQ W _ _ _ _ (abN regs x.a) (abN regs x.b) (ab5 fs regs x) _ bD bF bG ?_ ?_ ?_ ?_).mono ?_);exact bE1 au;simp;simp;simp;rintro e w3 ⟨rfl,bu⟩)));go_ret;exact⟨aaA aA.out.symm,by have h:=aT.out;exact bE3 bu au h⟩
    . have cn:agB regs x.dst=3:=(alq _ _).resolve_left hd
      have aA:=hid (show aeN fs regs x=3 by rw [al,cn];simp);clear al hd;rcases aJ with⟨rfl,rfl⟩ | ⟨rfl,rfl,rfl⟩
      all_goals
       go_wp2_with (go_at_call 112;((with_reducible refine (afV _ _ _ _ _ _ _ _ _ h0 h1).mono ?_);rintro e w2 ⟨rfl,au⟩));go_ret;exact⟨aaA aA.out.symm,by have h:=aT.out;exact bE2 au h⟩
  . have al:aeN fs regs x=acz (abN regs x.a) (abN regs x.b) (ab5 fs regs x):=by
     have:¬(shpD x.op=true∧¬(x.op=20∧x.dst = -1)):=fun h=>hgo ((ay.out _ rfl).1 h);simp only [aeN,hop,ax.out,this];simp
    have aA:=hid al;clear al;have aJ:D=false∨(D=true∧kz=true∧ez=true):=by revert hgo;cases D <;> cases kz <;> cases ez <;> simp
    clear hgo a1 aN ay HD aY;rcases aJ with rfl | ⟨rfl,rfl,rfl⟩
    all_goals
     go_wp2_with (go_at_call 114;((with_reducible refine (agQ W _ _ _ _ (abN regs x.a) (abN regs x.b) (ab5 fs regs x) _ bD bF bG ?_ ?_ ?_ ?_).mono ?_);exact bE;simp;simp;simp;rintro e w3 ⟨rfl,bu⟩));go_ret;exact⟨aaA aA.out.symm,by have h:=aT.out;exact bE2 bu h⟩
end
section
open Go.RowKit
def abw (e : Nat -> Int) : Nat -> Int
 | 0=>0
 | n+1=>if abw e n≠0 then abw e n else e n
variable {e:Nat->Int}{n:Nat}
theorem aa9(h:∀j,j<n->e j=0):abw e n=0:=by
 induction n with
 | zero=>rfl
 | succ n ih=>rw [abw,ih (fun j hj=>h j (by omega)),if_neg (by simp)];exact h n (by omega)
theorem ads{k:Nat}(h:∀j,j<k->e j=0)(hk:k<n)(he:e k≠0):abw e n=e k:=by
 induction n with
 | zero=>omega
 | succ n ih =>
   rw [abw];rcases Nat.lt_succ_iff_lt_or_eq.1 hk with h1 | h1
   . rw [ih h1,if_pos he]
   . subst h1;rw [aa9 h,if_neg (by simp)]
theorem acM(h:abw e n=0):∀j,j<n->e j=0:=by
 induction n with
 | zero=>intro j hj;omega
 | succ n ih =>
   rw [abw] at h
   by_cases h1:abw e n=0
   . rw [if_neg (by simpa using h1)] at h
     exact abL (ih h1) h
   . rw [if_pos h1] at h;exact absurd h h1
theorem aeV{regs:Int}{e:amR}(h:adT n regs e=0) :
 1<=e.kind∧e.kind<=3∧(e.to.length:Int)=e.kind - 1∧(∀t∈e.to,1<=t∧t<=(n:Int) - 1)∧¬(e.kind=3∧e.to.getD 0 0=e.to.getD 1 0)∧abN regs e.on=0:=by
 unfold adT at h
 by_cases h1:1<=e.kind∧e.kind<=3
 case neg=>rw [if_pos h1] at h;omega
 rw [if_neg (by simpa using h1)] at h
 by_cases h2:(e.to.length:Int)=e.kind - 1
 case neg=>rw [if_pos h2] at h;omega
 rw [if_neg (by simpa using h2)] at h
 by_cases h3:e.to.any (adS n)=true
 . rw [if_pos h3] at h;omega
 rw [if_neg h3] at h
 by_cases h4:(e.kind=3∧e.to.getD 0 0=e.to.getD 1 0)∨(e.kind=2∧e.on≠⟨false,0⟩)
 . rw [if_pos h4] at h;omega
 rw [if_neg h4] at h;refine⟨h1.1,h1.2,h2,fun t ht=>?_,fun h=>h4 (.inl h),h⟩;have:adS n t≠true:=fun hb=>h3 (List.any_eq_true.2 ⟨t,ht,hb⟩);simpa [adS] using this
def adk(regs:Int)(bs:List aad)(k:Nat):Int:=match bs[k]? with | some b=>adT bs.length regs b.fin | none=>0
def afr(regs:Int)(bs:List aad)(i:Nat)(b:aad)(k:Nat):Int:=match b.phis[k]? with | some p=>ag1 regs i (aheadF bs) p | none=>0
def ahw(fs:List aao)(regs:Int)(b:aad)(k:Nat):Int:=match b.list[k]? with | some x=>aeN fs regs x | none=>0
def ade(fs:List aao)(regs:Int)(bs:List aad)(k:Nat):Int :=
 match bs[k]? with
 | some b=>if abw (afr regs bs k b) b.phis.length≠0 then abw (afr regs bs k b) b.phis.length else abw (ahw fs regs b) b.list.length
 | none=>0
def abP(fs:List aao)(f:aao):Int :=
 if abw (adk f.regs f.blocks) f.blocks.length≠0 then abw (adk f.regs f.blocks) f.blocks.length
 else abw (ade fs f.regs f.blocks) f.blocks.length
set_option maxRecDepth 100000 in
theorem ajC {S S' : Nat -> Prop} (ga : Option Addr) (gn gc : Nat) (fs : List aao) (fa : Option Addr) (fc : Nat) (f : aao) (ba : Option Addr) (bc : Nat) (aa : Option Addr) (an ac : Nat) (w : World) (h0 : 0 <= f.regs) (h1 : f.regs <= 100)
 (a7:SlAt S w 4 aaZ (.slice fa fs.length fc) fs) (bY:SlAt S' w 6 aaJ (.slice ba f.blocks.length bc) f.blocks) (bk:fs.length<=1048576) (aF:f.blocks.length<=1048576) (hw:abX w) :
 Calls Tryz.prog 50 #[.agg #[.slice ga gn gc,.slice fa fs.length fc,.string f.name,.int .i64 f.params,.int .i64 f.regs,.slice ba f.blocks.length bc,.slice aa an ac]] w fun e w' =>
  e = .returned (.int .i64 (abP fs f))∧Below w.heap.size w w':=by
 have aX:=hid a7;have bh:=hid bY;have Hw:=hid hw;clear a7 bY hw;obtain⟨regs,aE⟩:∃r,r=f.regs:=⟨_,rfl⟩
 obtain⟨bs,aS⟩:∃b,b=f.blocks:=⟨_,rfl⟩
 rw [<-aE] at h0 h1 ⊢;rw [<-aS] at bh aF ⊢;have aq:=hid aE;have aI:=hid aS;clear aE aS;have bV:∀o,Below w.heap.size w (w.alloc o):=fun o=>by exact bE
 have cc:=hid bV;clear bV;go_enter Tryz.func50,Tryz.ntmps50;go_wp2_with fail;go_loopw [18] (fun i wr=>∃k:Nat,k<=bs.length∧i = .int .i64 k∧(∀j,j<k->adk regs bs j=0)∧Below (w.heap.size+1) (w.alloc (.cells #[.slice ga gn gc,.slice fa fs.length fc,.string f.name,.int .i64 f.params,.int .i64 regs,.slice ba bs.length bc,.slice aa an ac] 102)) wr) (fun i _=>bs.length - (intOf i).toNat)
 case atStart=>exact⟨0,Aah _,rfl,fun j hj=>by omega,Below.refl _ _⟩
 case round =>
  obtain⟨k,hk,rfl,aC,af⟩:=hrel;have aH:=hid aC;have bl:Below w.heap.size w wr:=(cc.out _).trans (af.mono (by omega));obtain⟨ad,bA⟩:=aau af;have ae:w.heap.size<wr.heap.size:=by have:=af.size;simp at this;omega
  have aP:=hid bl;have bp:=hid af;clear aC af
  by_cases hlt:k<bs.length
  . obtain⟨b,off,cs,rfl,hS,hx,-,aD⟩:=bh.out.get hlt
    obtain⟨pa,pc,la,lc,ta,tc,rfl,-,-,ca,cu,bB,cw,-,-⟩:=hx.opens;obtain⟨c0,c1,c2,c3,c4,c5⟩:=(aD.later bl).get6;have bU:=hid ca;clear aD hx ca bl;have he:adk regs bs k=adT bs.length regs bs[k].fin:=by unfold adk;rw [Aaa hlt]
    have He:=hid he;clear he
    by_cases hz:adT bs.length regs bs[k].fin=0
    . go_wp2_with (go_at_call 81;go_must ((with_reducible refine (alu (S:=S') _ _ _ _ regs _ bs.length _ _ _ _ _ _ bs[k].fin.to _ h0 h1 (by omega) ?_ ?_).mono ?_);exact abX.below Hw.out (by have h:=aP.out;exact bE1 h);refine bU.out.later aae ?_;have h:=aP.out;exact bE1 h;rintro e w2 ⟨rfl,au⟩))
      go_roundw
      case rel=>exact⟨k+1,by omega,by go_num,abL aH.out (He.out.trans hz),by have h:=bp.out;exact bE2 au h⟩
      case measure=>simp [intOf];omega
    . have cb:=ad1 hz
      have Hr:Hid (abP fs f=adT bs.length regs bs[k].fin):=by
       have h:=ads aH.out hlt (by rw [He.out];exact hz);unfold abP;rw [<-aq.out,<-aI.out,h,He.out];exact if_pos hz
      clear hz;go_wp2_with (go_at_call 81;go_must ((with_reducible refine (alu (S:=S') _ _ _ _ regs _ bs.length _ _ _ _ _ _ bs[k].fin.to _ h0 h1 (by omega) ?_ ?_).mono ?_);exact abX.below Hw.out (by have h:=aP.out;exact bE1 h);refine bU.out.later aae ?_;have h:=aP.out;exact bE1 h;rintro e w2 ⟨rfl,au⟩));go_ret;exact⟨aaA Hr.out.symm,by have h:=aP.out;exact bE2 au h⟩
  . obtain rfl:k=bs.length:=by omega
    have bS:Hid (∀(j:Nat) (x:aad),bs[j]?=some x->adT bs.length regs x.fin=0):=fun j x hx=>by
     have hj:=(Aae.1 hx).1;have:=aH.out j hj;unfold adk at this;rw [hx] at this;exact this
    have bq:=hid (aa9 aH.out);clear bl;go_wp2_with (go_at_call 52;go_must ((with_reducible refine (ahL (S:=S') _ _ _ _ _ bs _ ?_ aF ?_).mono ?_);exact bh.out.later aam aP.out;exact fun j x hx=>⟨by have:=aeV (bS.out j x hx);omega,fun t ht=>by have:=(aeV (bS.out j x hx)).2.2.2.1 t ht;omega⟩;rintro e w2 ⟨v,rfl,bt,au⟩;obtain⟨va,vc,rfl,cA⟩:=bt.val;have bH:=hid bt;clear bt;obtain⟨aM,cr⟩:=aau au;have bm:w.heap.size<w2.heap.size:=(by have:=au.size;omega);have ch:=hid au;clear au));have bI:Hid ((aheadF bs).length=bs.length):=by simp [aheadF,Hid]
    obtain⟨W,hW⟩:∃W,W=w2.setCell ⟨w.heap.size,6,none⟩ (.slice va (aheadF bs).length vc):=⟨_,rfl⟩
    rw [<-hW];have HC:Hid (aaj W w.heap.size 0 [.slice ga gn gc,.slice fa fs.length fc,.string f.name,.int .i64 f.params,.int .i64 regs,.slice ba bs.length bc,.slice va (aheadF bs).length vc]):=by
     rw [hW];exact .cons (by simp [go_sem,aM,ae,ad]) (.cons (by simp [go_sem,aM,ae,ad]) (.cons (by simp [go_sem,aM,ae,ad]) (.cons (by simp [go_sem,aM,ae,ad]) (.cons (by simp [go_sem,aM,ae,ad]) (.cons (by simp [go_sem,aM,ae,ad]) (.cons (by simp [go_sem,aM,ae,ad]) (.nil _ _ _)))))))
    have HW:Hid (Below w.heap.size w W):=by
     rw [hW];exact (aP.out.trans (ch.out.mono (by omega))).setCell (Aad _) _
    have aV:Hid (SlAt (fun b=>wr.heap.size<=b) W 1 rRow (.slice va (aheadF bs).length vc) (aheadF bs)):=by
     rw [hW];exact bH.out.mono aax (fun _ h=>h) (fun b o v hb hc=>by rw [World.cell?_of_block (w:=w2) (Below.heap_setCell _ _ _ _ (by dsimp only;omega))];exact hc)
    have cB:w.heap.size<W.heap.size:=by rw [hW];simp [World.setCell];omega
    clear hW ad aM bA cr ae bm bH;obtain⟨S2,aW⟩:∃S2,Hid (SlAt S2 W 1 rRow (.slice va (aheadF bs).length vc) (aheadF bs)):=⟨_,aV⟩
    clear aV;go_loopw [38] (fun i wr=>∃k:Nat,k<=bs.length∧i = .int .i64 k∧(∀j,j<k->ade fs regs bs j=0)∧Below W.heap.size W wr) (fun i _=>bs.length - (intOf i).toNat)
    case atStart=>exact⟨0,Aah _,rfl,fun j hj=>by omega,Below.refl _ _⟩
    case round =>
     obtain⟨wq,rfl⟩:∃wq:World,wq=wr:=⟨_,rfl⟩
     obtain⟨k,hk,rfl,aC,af⟩:=hrel;have ao:=hid aC;have bo:=hid af;have be:Below w.heap.size w wq:=HW.out.trans (af.mono (by omega));have cC:w.heap.size<wq.heap.size:=by have:=af.size;omega
     clear aC
     by_cases hlt:k<bs.length
     . obtain⟨b,off,cs,rfl,hS,hx,-,aD⟩:=bh.out.get hlt
       obtain⟨pa,pc,la,lc,ta,tc,rfl,b9,b7,-,cu,bB,cw,-,-⟩:=hx.opens;obtain⟨c0,c1,c2,c3,c4,c5⟩:=(aD.later be).get6;have bR:Hid (k<(aheadF bs).length):=by rw [bI.out];exact hlt
       have bJ:Hid ((aheadF bs).length<=1048576):=by rw [bI.out];exact aF
       have ck:=hid b9;have cj:=hid b7;have aQ:=hid be;have He:Hid (ade fs regs bs k=if abw (afr regs bs k bs[k]) bs[k].phis.length≠0 then abw (afr regs bs k bs[k]) bs[k].phis.length else abw (ahw fs regs bs[k]) bs[k].list.length):=by
        show ade fs regs bs k=_;unfold ade;rw [Aaa hlt]
       clear aD hx b9 b7 be af;go_wp2_with fail;obtain⟨X,hX⟩:∃X,X=wq.alloc (.cells #[.slice pa bs[k].phis.length pc,.slice la bs[k].list.length lc,.int .i64 bs[k].fin.kind,.bool bs[k].fin.on.reg,.int .i64 bs[k].fin.on.n,.slice ta bs[k].fin.to.length tc] 59):=⟨_,rfl⟩
       rw [<-hX];have cf:Hid (X.cell? ⟨wq.heap.size,1,none⟩=some (.slice la bs[k].list.length lc)):=by rw [hX];simp [Hid]
       have bf:Hid (Below W.heap.size W X):=by rw [hX];have h:=bo.out;exact h.alloc (by have:=h.size;omega) _
       have bg:Hid (Below w.heap.size w X):=by rw [hX];have h:=aQ.out;exact h.alloc (by have:=h.size;omega) _
       have cD:wq.heap.size<X.heap.size:=by rw [hX];simp
       clear hX c0 c1 c2 c3 c4 c5;go_loopw [46] (fun i wr=>∃j:Nat,j<=bs[k].phis.length∧i = .int .i64 j∧(∀j',j'<j->afr regs bs k bs[k] j'=0)∧Below X.heap.size X wr) (fun i _=>bs[k].phis.length - (intOf i).toNat)
       case atStart=>exact⟨0,Aah _,rfl,fun j hj=>by omega,Below.refl _ _⟩
       case round =>
        obtain⟨j,hj,rfl,ag,aG⟩:=hrel;have av:=hid ag;have bj:=hid aG;have aU:Hid (Below W.heap.size W wr):=bf.out.trans (aG.mono (bf.out.size));have aB:Hid (Below w.heap.size w wr):=bg.out.trans (aG.mono (bg.out.size));obtain⟨y0,y1,y2,y3,y4,y5,y6⟩:=(HC.out.later aU.out).get7;simp only [Aab] at y1 y2 y3 y4 y5 y6;have cy:w.heap.size<wr.heap.size:=aac y0;have cx:=aab cf.out aG;clear ag aG
        by_cases hjl:j<bs[k].phis.length
        . obtain⟨b2,bC,cs,rfl,-,hx,-,aD⟩:=ck.out.get hjl
          obtain⟨sa,sc,rfl,bd,cv,cp⟩:=hx.opens;obtain⟨d0,d1⟩:=(aD.later aB.out).get2;have aZ:=hid bd;have aO:Hid (afr regs bs k bs[k] j=ag1 regs k (aheadF bs) bs[k].phis[j]):=by
           show afr regs bs k bs[k] j=_;unfold afr;rw [Aaa hjl]
          clear aD hx bd
          by_cases hz:ag1 regs k (aheadF bs) bs[k].phis[j]=0
          . go_wp2_with (go_at_call 82;go_must ((with_reducible refine (al8 (S:=S2) (S':=S') _ _ _ _ _ _ _ _ regs _ _ _ _ _ (aheadF bs) bs[k].phis[j] _ _ k _ h0 h1 ?_ ?_ bR.out bJ.out).mono ?_);refine aW.out.later aax ?_;have h:=aU.out;exact bE1 h;refine aZ.out.later aaw ?_;have h:=aB.out;exact bE1 h;rintro e w4 ⟨rfl,aR⟩))
            go_roundw
            case rel=>exact⟨j+1,by omega,by go_num,abL av.out (aO.out.trans hz),by have h:=bj.out;exact bE2 aR h⟩
            case measure=>simp [intOf];omega
          . have cb:=ad1 hz
            have Hr:Hid (abP fs f=ag1 regs k (aheadF bs) bs[k].phis[j]):=by
             have h:=ads av.out hjl (by rw [aO.out];exact hz);rw [aO.out] at h;have h2:ade fs regs bs k=ag1 regs k (aheadF bs) bs[k].phis[j]:=by rw [He.out,h];exact if_pos hz
             have h3:=ads ao.out hlt (by rw [h2];exact hz);show abP fs f=_;unfold abP;rw [<-aq.out,<-aI.out,bq.out,h3,h2];exact if_neg (by simp)
            clear hz;go_wp2_with (go_at_call 82;go_must ((with_reducible refine (al8 (S:=S2) (S':=S') _ _ _ _ _ _ _ _ regs _ _ _ _ _ (aheadF bs) bs[k].phis[j] _ _ k _ h0 h1 ?_ ?_ bR.out bJ.out).mono ?_);refine aW.out.later aax ?_;have h:=aU.out;exact bE1 h;refine aZ.out.later aaw ?_;have h:=aB.out;exact bE1 h;rintro e w4 ⟨rfl,aR⟩));go_ret;exact⟨aaA Hr.out.symm,by have h:=aB.out;exact bE2 aR h⟩
        . obtain rfl:j=bs[k].phis.length:=by omega
          have bT:=hid (aa9 av.out);go_wp2_with fail;obtain⟨wp,rfl⟩:∃wp:World,wp=wr:=⟨_,rfl⟩
          clear y0 y1 y2 y3 y4 y5 y6 cx;go_loopw [61] (fun i wr=>∃j:Nat,j<=bs[k].list.length∧i = .int .i64 j∧(∀j',j'<j->ahw fs regs bs[k] j'=0)∧Below X.heap.size X wr) (fun i _=>bs[k].list.length - (intOf i).toNat)
          case atStart=>exact⟨0,Aah _,rfl,fun j hj=>by omega,bj.out⟩
          case round =>
           obtain⟨j,hj,rfl,ag,aG⟩:=hrel;have aw:=hid ag;have bj:=hid aG;have aU:Hid (Below W.heap.size W wr):=bf.out.trans (aG.mono (bf.out.size));have aB:Hid (Below w.heap.size w wr):=bg.out.trans (aG.mono (bg.out.size));obtain⟨y0,y1,y2,y3,y4,y5,y6⟩:=(HC.out.later aU.out).get7;simp only [Aab] at y1 y2 y3 y4 y5 y6;have cy:w.heap.size<wr.heap.size:=aac y0;clear ag aG
           by_cases hjl:j<bs[k].list.length
           . obtain⟨b2,bC,cs,rfl,-,hx,-,aD⟩:=cj.out.get hjl
             obtain⟨sa,sc,rfl,aL,cv,b1,b3,b4,b5,b6⟩:=hx.opens;obtain⟨d0,d1,d2,d3,d4,d5,d6,d7⟩:=(aD.later aB.out).get8;have aK:=hid aL;have bM:=hid b1;have bN:=hid b3;have bO:=hid b4;have bP:=hid b5;have bQ:=hid b6;have aO:Hid (ahw fs regs bs[k] j=aeN fs regs bs[k].list[j]):=by
              show ahw fs regs bs[k] j=_;unfold ahw;rw [Aaa hjl]
             clear aD hx aL b1 b3 b4 b5 b6
             by_cases hz:aeN fs regs bs[k].list[j]=0
             . go_wp2_with (go_at_call 83;go_must ((with_reducible refine (alU (S:=S) (S':=S') _ _ _ fs _ _ _ _ regs _ _ _ _ _ _ bs[k].list[j] _ _ _ h0 h1 ?_ ?_ bk bM.out bN.out bO.out bP.out bQ.out).mono ?_);refine aX.out.later aak ?_;have h:=aB.out;exact bE1 h;refine aK.out.later aaw ?_;have h:=aB.out;exact bE1 h;rintro e w4 ⟨rfl,aR⟩))
               go_roundw
               case rel=>exact⟨j+1,by omega,by go_num,abL aw.out (aO.out.trans hz),by have h:=bj.out;exact bE2 aR h⟩
               case measure=>simp [intOf];omega
             . have cb:=ad1 hz
               have Hr:Hid (abP fs f=aeN fs regs bs[k].list[j]):=by
                have h:=ads aw.out hjl (by rw [aO.out];exact hz);rw [aO.out] at h;have h2:ade fs regs bs k=aeN fs regs bs[k].list[j]:=by rw [He.out,bT.out,if_neg (by simp),h]
                have h3:=ads ao.out hlt (by rw [h2];exact hz);show abP fs f=_;unfold abP;rw [<-aq.out,<-aI.out,bq.out,h3,h2];exact if_neg (by simp)
               clear hz;go_wp2_with (go_at_call 83;go_must ((with_reducible refine (alU (S:=S) (S':=S') _ _ _ fs _ _ _ _ regs _ _ _ _ _ _ bs[k].list[j] _ _ _ h0 h1 ?_ ?_ bk bM.out bN.out bO.out bP.out bQ.out).mono ?_);refine aX.out.later aak ?_;have h:=aB.out;exact bE1 h;refine aK.out.later aaw ?_;have h:=aB.out;exact bE1 h;rintro e w4 ⟨rfl,aR⟩));go_ret;exact⟨aaA Hr.out.symm,by have h:=aB.out;exact bE2 aR h⟩
           . obtain rfl:j=bs[k].list.length:=by omega
             have cg:Hid (ade fs regs bs k=0):=by
              show ade fs regs bs k=0;rw [He.out,bT.out,if_neg (by simp)];exact aa9 aw.out
             go_wp2_with fail;go_roundw
             case rel=>exact⟨k+1,by omega,by go_num,abL ao.out cg.out,aU.out⟩
             case measure=>simp [intOf];omega
     . obtain rfl:k=bs.length:=by omega
       have Hr:Hid (abP fs f=0):=by
        show abP fs f=0;unfold abP;rw [<-aq.out,<-aI.out,bq.out,if_neg (by simp)];exact aa9 ao.out
       have aQ:=hid be;clear be af;go_wp2_with fail;go_ret;exact⟨aaA Hr.out.symm,aQ.out⟩
end
end Go.Proofs.YtnkfdeiigplhoaaGreatDoor
