import Derived.Test.YtnkfdeiigplhoaaGreatDoorPEq
/- The contract of the checker's head. -/
namespace Go.Proofs.YtnkfdeiigplhoaaGreatDoor
open Go.RowKit
def aaT(l:List aad):Nat:=(l.map fun b=>b.phis.length+b.list.length).sum
def ac1(names:List ByteArray)(f:aao):Int :=
 if ab1 f.name=false then 12
 else if adu names f.name=true then 7
 else if ¬(0<=f.params∧f.params<=6)∨¬(f.params<=f.regs∧f.regs<=100) then 3
 else if ¬(1<=f.blocks.length∧f.blocks.length<=40)∨300<aaT f.blocks then 2
 else 0
theorem aja(l:List aad)(k:Nat)(h:k<l.length):aaT (l.take (k+1))=aaT (l.take k)+(l[k].phis.length+l[k].list.length):=by
 unfold aaT;rw [Aat h,Aav,List.sum_append];simp
theorem al3(l:List aad)(k:Nat):aaT (l.take k)<=aaT l:=by
 unfold aaT
 conv=>rhs;rw [<-List.take_append_drop k l]
 rw [Aav,List.sum_append];omega
set_option maxHeartbeats 1000000 in
theorem ajI {S S' : Nat -> Prop} (g f : Value) (x : aao) (bl ah nv : Value) (names : List ByteArray) (w : World) (hb : SlAt S w 6 aaJ bl x.blocks) (hn : SlAt S' w 1 aof nv names)
 (hm:aaT x.blocks<=1048576) (hp:I64 x.params) (hr:I64 x.regs) :
 Calls Tryz.prog 49 #[.agg #[g,f,.string x.name,.int .i64 x.params,.int .i64 x.regs,bl,ah],nv] w fun e w' =>
  e = .returned (.int .i64 (ac1 names x))∧Below w.heap.size w w':=by
 obtain⟨ao,c,rfl,av⟩:=hb.val;have Hn:=hid hn;have Hb:=hid hb;clear hn hb;unfold I64 at hp hr;go_enter Tryz.func49,Tryz.ntmps49;go_wp2_with fail
 go_loopw [5, 12] (fun m i wr => ∃ k : Nat, k <= x.blocks.length ∧ i = .int .i64 k ∧ m = .int .i64 (aaT (x.blocks.take k) : Nat) ∧ Below (w.heap.size + 1) (w.alloc (Obj.cells #[g, f, .string x.name, .int .i64 x.params, .int .i64 x.regs, .slice ao x.blocks.length c, ah] 102)) wr)
  (fun _ i _=>x.blocks.length - (intOf i).toNat)
 case atStart=>exact⟨0,Aah _,rfl,rfl,Below.refl _ _⟩
 case round =>
  obtain⟨k,hk,rfl,rfl,af⟩:=hrel
  by_cases hlt:k<x.blocks.length
  . have aq:=aja x.blocks k hlt
    have aw:=al3 x.blocks (k+1);have ae:=hid af;have ak:=((Below.refl w.heap.size w).alloc (Aad _) _).trans (af.mono (by simp));obtain⟨b,off,cs,rfl,hS,hx,al,aj⟩:=(Hb.out.later aam ak).get hlt;obtain⟨pa,pc,la,lc,ta,tc,rfl,-,-,-,ax,an,ay,-,-⟩:=hx.opens;obtain⟨c0,c1,c2,c3,c4,c5⟩:=aj.get6;have ai:=af.size;simp at ai;clear af ak aj al hx;go_wp2_with fail;go_roundw
    case rel=>exact⟨k+1,by omega,by go_num,by rw [aq];go_num,by have h:=ae.out;exact bE1 h⟩
    case measure=>simp [intOf];omega
  . obtain⟨hc,hf⟩:=aau af
    have ag:=hid (Hn.out.later abJ (((Below.refl w.heap.size w).alloc (Aad _) _).trans (af.mono (by simp))));have ae:=hid af;have ai:=af.size;simp at ai;clear af;obtain rfl:k=x.blocks.length:=by omega
    rw [Aay];generalize hmany:aaT x.blocks=many at *;have Hm:=hid hmany;clear hmany;have ad:∀r:Int,ac1 names x=r->∃H:Hid (ac1 names x=r),True:=fun r h=>⟨h,trivial⟩
    by_cases h1:ab1 x.name=true
    case neg =>
     obtain⟨Hr,-⟩:=ad 12 (by simp [ac1,h1]);have ar:ab1 x.name=false:=by simpa using h1
     clear h1 ad;go_wp2_with (go_at_call 47;((with_reducible refine (abI _ _).mono ?_);rintro e w' ⟨rfl,rfl⟩));go_ret;exact⟨aaA Hr.out.symm,by have h:=ae.out;exact bE1 h⟩
    by_cases h2:adu names x.name=true
    case pos =>
     obtain⟨Hr,-⟩:=ad 7 (by simp [ac1,h1,h2]);clear ad;go_wp2_with (first | (go_at_call 47;((with_reducible refine (abI _ _).mono ?_);rintro e w' ⟨rfl,rfl⟩)) | (go_at_call 48;((with_reducible refine (aaH _ _ _ _ ag.out).mono ?_);rintro e w' ⟨rfl,rfl⟩)));go_ret;exact⟨aaA Hr.out.symm,by have h:=ae.out;exact bE1 h⟩
    have au:adu names x.name=false:=by simpa using h2
    by_cases h3:¬(0<=x.params∧x.params<=6)∨¬(x.params<=x.regs∧x.regs<=100)
    case pos =>
     obtain⟨Hr,-⟩:=ad 3 (by simp only [ac1,h1,h2];simp only [h3];simp);clear ad h2
     by_cases h4:0<=x.params∧x.params<=6
     all_goals
      go_wp2_with (first | (go_at_call 47;((with_reducible refine (abI _ _).mono ?_);rintro e w' ⟨rfl,rfl⟩)) | (go_at_call 48;((with_reducible refine (aaH _ _ _ _ ag.out).mono ?_);rintro e w' ⟨rfl,rfl⟩)) | (go_at_call 25;((with_reducible refine (aaq _ _ _ _).mono ?_);rintro e w' ⟨rfl,rfl⟩)));go_ret;exact⟨aaA Hr.out.symm,by have h:=ae.out;exact bE1 h⟩
    have h4:(0<=x.params∧x.params<=6)∧(x.params<=x.regs∧x.regs<=100):=by omega
    by_cases h5:¬(1<=x.blocks.length∧x.blocks.length<=40)∨300<many
    case pos =>
     obtain⟨Hr,-⟩:=ad 2 (by simp only [ac1,h1,h2,h3,Hm.out];simp only [h5];simp);clear ad h2 h3
     by_cases h6:1<=x.blocks.length∧x.blocks.length<=40
     all_goals
      go_wp2_with (first | (go_at_call 47;((with_reducible refine (abI _ _).mono ?_);rintro e w' ⟨rfl,rfl⟩)) | (go_at_call 48;((with_reducible refine (aaH _ _ _ _ ag.out).mono ?_);rintro e w' ⟨rfl,rfl⟩)) | (go_at_call 25;((with_reducible refine (aaq _ _ _ _).mono ?_);rintro e w' ⟨rfl,rfl⟩)));go_ret;exact⟨aaA Hr.out.symm,by have h:=ae.out;exact bE1 h⟩
    have h6:(1<=x.blocks.length∧x.blocks.length<=40)∧many<=300:=by omega
    obtain⟨Hr,-⟩:=ad 0 (by simp only [ac1,h1,h2,h3,Hm.out];simp only [h5];simp);clear ad h2 h3 h5;go_wp2_with (first | (go_at_call 47;((with_reducible refine (abI _ _).mono ?_);rintro e w' ⟨rfl,rfl⟩)) | (go_at_call 48;((with_reducible refine (aaH _ _ _ _ ag.out).mono ?_);rintro e w' ⟨rfl,rfl⟩)) | (go_at_call 25;((with_reducible refine (aaq _ _ _ _).mono ?_);rintro e w' ⟨rfl,rfl⟩)));go_ret;exact⟨aaA Hr.out.symm,by have h:=ae.out;exact bE1 h⟩
end Go.Proofs.YtnkfdeiigplhoaaGreatDoor
