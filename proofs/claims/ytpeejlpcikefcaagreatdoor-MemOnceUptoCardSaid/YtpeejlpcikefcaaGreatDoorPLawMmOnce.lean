import Derived.Test.YtpeejlpcikefcaaGreatDoorPMmOnce
/- MemOnce: the law's row and card: where what it reads is of bulk at most 1048576, the law answers true for every input, and each argument reads behind the call as before. Its listed variable is code.ways, as the program's text lays it. -/
namespace Go.Proofs.YtpeejlpcikefcaaGreatDoor
open Go.RowKit Go.ChangeShapes Go.WideShapes Go.ChangeAt Go.Deep
set_option maxRecDepth 100000 in
theorem memOnce_contract (H : Type) (enc : TypeId × Value → H) (W : World) (base : Nat) (args : Array Value) (ds gs : List (DataW H)) (before : List MemPlace)
    (ae:∀(j:Nat) t v,Tryz.f5.params[j]?=some t→args[j]?=some v→Value.okWide Tryz.prog W .any base t v)
    (hW:DataW.Whole enc Tryz.prog Tryz.f5.params.toList Rows.memOnceSpec.vars false W args.toList ds gs before) (hk:Rows.uptoSmall H (ds++gs)=true) (hL:laidMetH Tryz.prog Rows.memOnceRow.laid W) :
    Calls Tryz.prog 5 args W fun e W'=>∃v,e = .returned v∧Rows.memOnceSpec.post enc Tryz.prog Tryz.f5 false true false false W args v W':=by
  have an:=hW;obtain⟨p,q,al,hV,rfl,ao,ar⟩:=hW;have hA:DataW.TrodAll enc Tryz.prog W 0 (fun _=>true) true Tryz.f5.params.toList args.toList ds p:=al;have ad:Tryz.f5.params=#[25]:=Tryz.params5;have ak:∀t∈Tryz.f5.params.toList,ahl t:=by
    intro t ht;rw [ad] at ht;simp only [List.mem_cons,List.not_mem_nil,or_false] at ht;rcases ht with rfl
    · exact aj1
  rw [ad] at hA ae;obtain⟨v0,aq,d0,au,p0,q0,ai,rfl,rfl,h0,r0⟩:=trodAll_cons hA;obtain⟨rfl,rfl,rfl⟩:=trodAll_nil r0;obtain rfl:args=#[v0]:=by cases args;simp_all
  obtain⟨rfl,rfl⟩:=trodVars_none hV;have af:=am5 hk;rw [List.append_nil] at af;have ag:ae1 W:=ar5 hL;have m0:Rows.uptoBulk d0≤1048576:=Nat.le_trans (an7 (by simp)) af;obtain⟨ga,gc,fa,fc,gs,fs,rfl,hg,hf,hu⟩:=aqe (ae 0 _ v0 rfl rfl) h0;refine (alN W ag ga gc fa fc gs fs hg hf ⟨by omega⟩).mono fun e W' ⟨he,hb⟩=>?_;subst he;exact⟨_,rfl,aqd rfl rfl (fun ds h=>by rw [ad] at h;obtain⟨e0,rfl⟩:=atX h;rfl) ak an hb⟩
theorem memOnce_laidMet(os:Os):laidMet Tryz.prog Rows.memOnceRow.laid ((ahn os).forCall (fun _ _=>0) ⟨#[],#[Value.agg #[.slice none 0 0,.slice none 0 0]],[]⟩).memory :=
  laidMet_of_run' 8 (by kernel_rfl) (by kernel_rfl)
theorem memOnce_reads(os:Os){H:Type}(enc:TypeId×Value→H):∃places,DataW.whole enc Tryz.prog ((ahn os).forCall (fun _ _=>0) ⟨#[],#[Value.agg #[.slice none 0 0,.slice none 0 0]],[]⟩).memory Tryz.f5.params.toList Rows.memOnceSpec.vars false (#[Value.agg #[.slice none 0 0,.slice none 0 0]]:Array Value).toList 8=some ([.agg [.nil,.nil]],[],places) :=
  ⟨[],by kernel_rfl⟩
set_option maxRecDepth 100000 in
theorem memOnce_lifted(os:Os)(started:os.Started)(H:Type)(enc:TypeId×Value→H)(F:Stop.Interp) :
    ReturnsInHanded {} Tryz.checked os 5 .any ((Rows.OpenSpec.upto Rows.memOnceSpec).preRow enc Tryz.prog Tryz.f5 Rows.memOnceUptoRow.domain false Rows.memOnceUptoRow.laid) (((Rows.OpenSpec.upto Rows.memOnceSpec).at F).post enc Tryz.prog Tryz.f5 false true false false):=by
  obtain⟨places,hx⟩:=memOnce_reads os enc
  refine returnsInHanded_of_row (C := Tryz.checked) (s := Rows.OpenSpec.upto Rows.memOnceSpec) own started (by kernel_rfl) Tryz.func5
    (witness_row_at (enc := enc) (C := Tryz.checked) false (ahn os) #[Value.agg #[.slice none 0 0, .slice none 0 0]] rfl (by kernel_rfl) (by kernel_rfl) (by kernel_rfl)
      (OpenSpec.preRow_of_cond 8 hx (by kernel_rfl) (fun k hk => by cases hk; kernel_rfl) (by kernel_rfl) (memOnce_laidMet os))) ?_
  intro W base args ds gs before ae hW _ ah _ hL _ _;exact memOnce_contract H enc W base args ds gs before ae hW (ah _ rfl) hL
theorem memOnce_saidUpto:Rows.MemOnceUptoSaid :=
  OpenClaim.holds_of_cond 5 Tryz.f5 rfl rfl rfl rfl rfl rfl rfl ⟨rfl, rfl, rfl, rfl, rfl⟩ rfl rfl rfl rfl rfl (by kernel_rfl) Tryz.func5 (by kernel_rfl)
    (of_decide_eq_true (by kernel_rfl)) (by unfold Func.isWrapper;first | (rw [if_pos (by decide +kernel)];kernel_rfl) | (rw [if_neg (by decide +kernel)];exact⟨rfl,rfl⟩))
    (fun os started H enc _ F=>by rw [OpenClaim.pre_eq_preRow];exact memOnce_lifted os started H enc F)
theorem memOnce_plain (f : FuncId) (fn : Func) (hf : Tryz.pinned.checked.prog.funcNamed "turnery/turnerylaw6.MemOnce" = some f) (aj : Tryz.pinned.checked.prog.funcs[f]? = some fn) :
    false=Tryz.pinned.checked.prog.looks []∧∀(j:Nat) t,fn.params[j]?=some t→Tryz.pinned.checked.prog.wantsStandIn t=false:=by
  obtain rfl : f = 5 := Option.some.inj ((show Tryz.prog.funcNamed "turnery/turnerylaw6.MemOnce" = some 5 by kernel_rfl).symm.trans hf) |>.symm
  obtain rfl:fn=Tryz.f5:=(Option.some.inj (Tryz.func5.symm.trans aj)).symm;refine⟨by kernel_rfl,fun j t ht=>?_⟩;have ad:Tryz.f5.params=#[25]:=Tryz.params5;rw [ad] at ht;have hm:=Array.mem_of_getElem? ht;simp only [List.mem_toArray,List.mem_cons,List.not_mem_nil,or_false] at hm;rcases hm with rfl
  · exact (show Tryz.prog.wantsStandIn 25=false by kernel_rfl)
/-- THE CARD of MemOnce, where what it reads is of bulk at most 1048576. -/
theorem memOnce_holds:Rows.MemOnceUptoCardSaid :=
  Claim7.holds_tied_plain_at .later [] _ _ _ _ memOnce_saidUpto (fun _ h=>by cases h) (by kernel_rfl) (fun _ h=>by cases h) memOnceUpto_row_tie rfl ⟨rfl,rfl⟩ (by kernel_rfl) rfl memOnce_plain (by kernel_rfl)
end Go.Proofs.YtpeejlpcikefcaaGreatDoor
