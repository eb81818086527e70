import Derived.Test.YtgekbfgplclmeaaDoorPEq
/- The contract of the checker's head. -/
namespace Go.Proofs.YtgekbfgplclmeaaDoor
open Go.RowKit
def aa1(l:List aad):Nat:=(l.map fun b=>b.phis.length+b.list.length).sum
def adi(names:List ByteArray)(f:aal):Int :=
 if abB f.name=false then 12
 else if acO names f.name=true then 7
 else if ¬(0<=f.params∧f.params<=6)∨¬(f.params<=f.regs∧f.regs<=100) then 3
 else if ¬(1<=f.blocks.length∧f.blocks.length<=40)∨300<aa1 f.blocks then 2
 else 0
theorem ag5(l:List aad)(k:Nat)(h:k<l.length):aa1 (l.take (k+1))=aa1 (l.take k)+(l[k].phis.length+l[k].list.length):=by
 unfold aa1;rw [Aaz h,Aat,List.sum_append];simp
theorem ai8(l:List aad)(k:Nat):aa1 (l.take k)<=aa1 l:=by
 unfold aa1
 conv=>rhs;rw [<-List.take_append_drop k l]
 rw [Aat,List.sum_append];omega
set_option maxHeartbeats 1000000 in
theorem ahu {S S' : Nat -> Prop} (g f : Value) (x : aal) (bl ah nv : Value) (names : List ByteArray) (w : World) (hb : SlAt S w 6 aa2 bl x.blocks) (hn : SlAt S' w 1 akO nv names)
 (hm:aa1 x.blocks<=1048576) (hp:I64 x.params) (hr:I64 x.regs) :
 Calls Tryd.prog 40 #[.agg #[g,f,.string x.name,.int .i64 x.params,.int .i64 x.regs,bl,ah],nv] w fun e w' =>
  e = .returned (.int .i64 (adi names x))∧Below w.heap.size w w':=by
 obtain⟨ao,c,rfl,av⟩:=hb.val;have Hn:=hid hn;have Hb:=hid hb;clear hn hb;unfold I64 at hp hr;go_enter Tryd.func40,Tryd.ntmps40;go_wp2_with fail
 go_loopw [5, 12] (fun m i wr => ∃ k : Nat, k <= x.blocks.length ∧ i = .int .i64 k ∧ m = .int .i64 (aa1 (x.blocks.take k) : Nat) ∧ Below (w.heap.size + 1) (w.alloc (Obj.cells #[g, f, .string x.name, .int .i64 x.params, .int .i64 x.regs, .slice ao x.blocks.length c, ah] 112)) wr)
  (fun _ i _=>x.blocks.length - (intOf i).toNat)
 case atStart=>exact⟨0,Aaf _,rfl,rfl,Below.refl _ _⟩
 case round =>
  obtain⟨k,hk,rfl,rfl,af⟩:=hrel
  by_cases hlt:k<x.blocks.length
  . have aq:=ag5 x.blocks k hlt
    have aw:=ai8 x.blocks (k+1);have ae:=hid af;have ak:=((Below.refl w.heap.size w).alloc (Aad _) _).trans (af.mono (by simp));obtain⟨b,off,cs,rfl,hS,hx,al,aj⟩:=(Hb.out.later aam ak).get hlt;obtain⟨pa,pc,la,lc,ta,tc,rfl,-,-,-,ax,an,ay,-,-⟩:=hx.opens;obtain⟨c0,c1,c2,c3,c4,c5⟩:=aj.get6;have ai:=af.size;simp at ai;clear af ak aj al hx;go_wp2_with fail;go_roundw
    case rel=>exact⟨k+1,by omega,by go_num,by rw [aq];go_num,by have h:=ae.out;exact bE1 h⟩
    case measure=>simp [intOf];omega
  . obtain⟨hc,hf⟩:=aao af
    have ag:=hid (Hn.out.later abm (((Below.refl w.heap.size w).alloc (Aad _) _).trans (af.mono (by simp))));have ae:=hid af;have ai:=af.size;simp at ai;clear af;obtain rfl:k=x.blocks.length:=by omega
    rw [Aa0];generalize hmany:aa1 x.blocks=many at *;have Hm:=hid hmany;clear hmany;have ad:∀r:Int,adi names x=r->∃H:Hid (adi names x=r),True:=fun r h=>⟨h,trivial⟩
    by_cases h1:abB x.name=true
    case neg =>
     obtain⟨Hr,-⟩:=ad 12 (by simp [adi,h1]);have ar:abB x.name=false:=by simpa using h1
     clear h1 ad;go_wp2_with (go_at_call 38;((with_reducible refine (abl _ _).mono ?_);rintro e w' ⟨rfl,rfl⟩));go_ret;exact⟨aaq Hr.out.symm,by have h:=ae.out;exact bE1 h⟩
    by_cases h2:acO names x.name=true
    case pos =>
     obtain⟨Hr,-⟩:=ad 7 (by simp [adi,h1,h2]);clear ad;go_wp2_with (first | (go_at_call 38;((with_reducible refine (abl _ _).mono ?_);rintro e w' ⟨rfl,rfl⟩)) | (go_at_call 39;((with_reducible refine (aaz _ _ _ _ ag.out).mono ?_);rintro e w' ⟨rfl,rfl⟩)));go_ret;exact⟨aaq Hr.out.symm,by have h:=ae.out;exact bE1 h⟩
    have au:acO names x.name=false:=by simpa using h2
    by_cases h3:¬(0<=x.params∧x.params<=6)∨¬(x.params<=x.regs∧x.regs<=100)
    case pos =>
     obtain⟨Hr,-⟩:=ad 3 (by simp only [adi,h1,h2];simp only [h3];simp);clear ad h2
     by_cases h4:0<=x.params∧x.params<=6
     all_goals
      go_wp2_with (first | (go_at_call 38;((with_reducible refine (abl _ _).mono ?_);rintro e w' ⟨rfl,rfl⟩)) | (go_at_call 39;((with_reducible refine (aaz _ _ _ _ ag.out).mono ?_);rintro e w' ⟨rfl,rfl⟩)) | (go_at_call 20;((with_reducible refine (aah _ _ _ _).mono ?_);rintro e w' ⟨rfl,rfl⟩)));go_ret;exact⟨aaq Hr.out.symm,by have h:=ae.out;exact bE1 h⟩
    have h4:(0<=x.params∧x.params<=6)∧(x.params<=x.regs∧x.regs<=100):=by omega
    by_cases h5:¬(1<=x.blocks.length∧x.blocks.length<=40)∨300<many
    case pos =>
     obtain⟨Hr,-⟩:=ad 2 (by simp only [adi,h1,h2,h3,Hm.out];simp only [h5];simp);clear ad h2 h3
     by_cases h6:1<=x.blocks.length∧x.blocks.length<=40
     all_goals
      go_wp2_with (first | (go_at_call 38;((with_reducible refine (abl _ _).mono ?_);rintro e w' ⟨rfl,rfl⟩)) | (go_at_call 39;((with_reducible refine (aaz _ _ _ _ ag.out).mono ?_);rintro e w' ⟨rfl,rfl⟩)) | (go_at_call 20;((with_reducible refine (aah _ _ _ _).mono ?_);rintro e w' ⟨rfl,rfl⟩)));go_ret;exact⟨aaq Hr.out.symm,by have h:=ae.out;exact bE1 h⟩
    have h6:(1<=x.blocks.length∧x.blocks.length<=40)∧many<=300:=by omega
    obtain⟨Hr,-⟩:=ad 0 (by simp only [adi,h1,h2,h3,Hm.out];simp only [h5];simp);clear ad h2 h3 h5;go_wp2_with (first | (go_at_call 38;((with_reducible refine (abl _ _).mono ?_);rintro e w' ⟨rfl,rfl⟩)) | (go_at_call 39;((with_reducible refine (aaz _ _ _ _ ag.out).mono ?_);rintro e w' ⟨rfl,rfl⟩)) | (go_at_call 20;((with_reducible refine (aah _ _ _ _).mono ?_);rintro e w' ⟨rfl,rfl⟩)));go_ret;exact⟨aaq Hr.out.symm,by have h:=ae.out;exact bE1 h⟩
end Go.Proofs.YtgekbfgplclmeaaDoor
