import Derived.Test.YtpeejlpcikefcaaGreatDoorPMmFew
/- MemFewer: the law's row and card: where what it reads is of bulk at most 1048576, the law answers true for every input, and each argument reads behind the call as before. Its listed variable is code.ways, as the program's text lays it. -/
namespace Go.Proofs.YtpeejlpcikefcaaGreatDoor
open Go.RowKit Go.ChangeShapes Go.WideShapes Go.ChangeAt Go.Deep
set_option maxRecDepth 100000 in
theorem memFewer_contract (H : Type) (enc : TypeId × Value → H) (W : World) (base : Nat) (args : Array Value) (ds gs : List (DataW H)) (before : List MemPlace)
    (ae:∀(j:Nat) t v,Tryz.f4.params[j]?=some t→args[j]?=some v→Value.okWide Tryz.prog W .any base t v)
    (hW:DataW.Whole enc Tryz.prog Tryz.f4.params.toList Rows.memFewerSpec.vars false W args.toList ds gs before) (hk:Rows.uptoSmall H (ds++gs)=true) (hL:laidMetH Tryz.prog Rows.memFewerRow.laid W) :
    Calls Tryz.prog 4 args W fun e W'=>∃v,e = .returned v∧Rows.memFewerSpec.post enc Tryz.prog Tryz.f4 false true false false W args v W':=by
  have an:=hW;obtain⟨p,q,ak,hV,rfl,ar,ao⟩:=hW;have hA:DataW.TrodAll enc Tryz.prog W 0 (fun _=>true) true Tryz.f4.params.toList args.toList ds p:=ak;have ad:Tryz.f4.params=#[25]:=Tryz.params4;have al:∀t∈Tryz.f4.params.toList,ahk t:=by
    intro t ht;rw [ad] at ht;simp only [List.mem_cons,List.not_mem_nil,or_false] at ht;rcases ht with rfl
    · exact aj0
  rw [ad] at hA ae;obtain⟨v0,aq,d0,au,p0,q0,ai,rfl,rfl,h0,r0⟩:=trodAll_cons hA;obtain⟨rfl,rfl,rfl⟩:=trodAll_nil r0;obtain rfl:args=#[v0]:=by cases args;simp_all
  obtain⟨rfl,rfl⟩:=trodVars_none hV;have af:=am3 hk;rw [List.append_nil] at af;have ag:ae2 W:=asf hL;have m0:Rows.uptoBulk d0≤1048576:=Nat.le_trans (an4 (by simp)) af;obtain⟨ga,gc,fa,fc,gs,fs,rfl,hg,hf,hu⟩:=aqj (ae 0 _ v0 rfl rfl) h0;refine (akH W ag ga gc fa fc gs fs hg hf ⟨by omega⟩).mono fun e W' ⟨he,hb⟩=>?_;subst he;exact⟨_,rfl,aqi rfl rfl (fun ds h=>by rw [ad] at h;obtain⟨e0,rfl⟩:=at3 h;rfl) al an hb⟩
theorem memFewer_laidMet(os:Os):laidMet Tryz.prog Rows.memFewerRow.laid ((ahm os).forCall (fun _ _=>0) ⟨#[],#[Value.agg #[.slice none 0 0,.slice none 0 0]],[]⟩).memory :=
  laidMet_of_run' 8 (by kernel_rfl) (by kernel_rfl)
theorem memFewer_reads(os:Os){H:Type}(enc:TypeId×Value→H):∃places,DataW.whole enc Tryz.prog ((ahm os).forCall (fun _ _=>0) ⟨#[],#[Value.agg #[.slice none 0 0,.slice none 0 0]],[]⟩).memory Tryz.f4.params.toList Rows.memFewerSpec.vars false (#[Value.agg #[.slice none 0 0,.slice none 0 0]]:Array Value).toList 8=some ([.agg [.nil,.nil]],[],places) :=
  ⟨[],by kernel_rfl⟩
set_option maxRecDepth 100000 in
theorem memFewer_lifted(os:Os)(started:os.Started)(H:Type)(enc:TypeId×Value→H)(F:Stop.Interp) :
    ReturnsInHanded {} Tryz.checked os 4 .any ((Rows.OpenSpec.upto Rows.memFewerSpec).preRow enc Tryz.prog Tryz.f4 Rows.memFewerUptoRow.domain false Rows.memFewerUptoRow.laid) (((Rows.OpenSpec.upto Rows.memFewerSpec).at F).post enc Tryz.prog Tryz.f4 false true false false):=by
  obtain⟨places,hx⟩:=memFewer_reads os enc
  refine returnsInHanded_of_row (C := Tryz.checked) (s := Rows.OpenSpec.upto Rows.memFewerSpec) own started (by kernel_rfl) Tryz.func4
    (witness_row_at (enc := enc) (C := Tryz.checked) false (ahm os) #[Value.agg #[.slice none 0 0, .slice none 0 0]] rfl (by kernel_rfl) (by kernel_rfl) (by kernel_rfl)
      (OpenSpec.preRow_of_cond 8 hx (by kernel_rfl) (fun k hk => by cases hk; kernel_rfl) (by kernel_rfl) (memFewer_laidMet os))) ?_
  intro W base args ds gs before ae hW _ ah _ hL _ _;exact memFewer_contract H enc W base args ds gs before ae hW (ah _ rfl) hL
theorem memFewer_saidUpto:Rows.MemFewerUptoSaid :=
  OpenClaim.holds_of_cond 4 Tryz.f4 rfl rfl rfl rfl rfl rfl rfl ⟨rfl, rfl, rfl, rfl, rfl⟩ rfl rfl rfl rfl rfl (by kernel_rfl) Tryz.func4 (by kernel_rfl)
    (of_decide_eq_true (by kernel_rfl)) (by unfold Func.isWrapper;first | (rw [if_pos (by decide +kernel)];kernel_rfl) | (rw [if_neg (by decide +kernel)];exact⟨rfl,rfl⟩))
    (fun os started H enc _ F=>by rw [OpenClaim.pre_eq_preRow];exact memFewer_lifted os started H enc F)
theorem memFewer_plain (f : FuncId) (fn : Func) (hf : Tryz.pinned.checked.prog.funcNamed "turnery/turnerylaw6.MemFewer" = some f) (aj : Tryz.pinned.checked.prog.funcs[f]? = some fn) :
    false=Tryz.pinned.checked.prog.looks []∧∀(j:Nat) t,fn.params[j]?=some t→Tryz.pinned.checked.prog.wantsStandIn t=false:=by
  obtain rfl : f = 4 := Option.some.inj ((show Tryz.prog.funcNamed "turnery/turnerylaw6.MemFewer" = some 4 by kernel_rfl).symm.trans hf) |>.symm
  obtain rfl:fn=Tryz.f4:=(Option.some.inj (Tryz.func4.symm.trans aj)).symm;refine⟨by kernel_rfl,fun j t ht=>?_⟩;have ad:Tryz.f4.params=#[25]:=Tryz.params4;rw [ad] at ht;have hm:=Array.mem_of_getElem? ht;simp only [List.mem_toArray,List.mem_cons,List.not_mem_nil,or_false] at hm;rcases hm with rfl
  · exact (show Tryz.prog.wantsStandIn 25=false by kernel_rfl)
/-- THE CARD of MemFewer, where what it reads is of bulk at most 1048576. -/
theorem memFewer_holds:Rows.MemFewerUptoCardSaid :=
  Claim7.holds_tied_plain_at .later [] _ _ _ _ memFewer_saidUpto (fun _ h=>by cases h) (by kernel_rfl) (fun _ h=>by cases h) memFewerUpto_row_tie rfl ⟨rfl,rfl⟩ (by kernel_rfl) rfl memFewer_plain (by kernel_rfl)
end Go.Proofs.YtpeejlpcikefcaaGreatDoor
