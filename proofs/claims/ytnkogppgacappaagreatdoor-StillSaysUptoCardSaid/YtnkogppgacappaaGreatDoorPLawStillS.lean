/- StillSays: the law's row and card: where what it reads is of bulk at most 1048576, the law answers true for every input, and each argument reads behind the call as before. Its listed variable is code.ways, as the program's text lays it. -/
import Derived.Test.YtnkogppgacappaaGreatDoorPStSays
namespace Go.Proofs.YtnkogppgacappaaGreatDoor
open Go.RowKit Go.ChangeShapes Go.WideShapes Go.ChangeAt Go.Deep

set_option maxRecDepth 100000 in
theorem stillSays_contract (H : Type) (enc : TypeId × Value → H) (W : World) (base : Nat) (args : Array Value) (ds gs : List (DataW H)) (before : List MemPlace)
    (hval:∀(j:Nat) t v,Tryz.f4.params[j]?=some t→args[j]?=some v→Value.okWide Tryz.prog W .any base t v)
    (hW:DataW.Whole enc Tryz.prog Tryz.f4.params.toList Rows.stillSaysSpec.vars false W args.toList ds gs before) (hk:Rows.uptoSmall H (ds++gs)=true) (hL:laidMetH Tryz.prog Rows.stillSaysRow.laid W) :
    Calls Tryz.prog 4 args W fun e W'=>∃v,e = .returned v∧Rows.stillSaysSpec.post enc Tryz.prog Tryz.f4 false true false false W args v W':=by
  have hW':=hW;obtain⟨p,q,hA0,hV,rfl,hfz,hnd⟩:=hW;have hA:DataW.TrodAll enc Tryz.prog W 0 (fun _=>true) true Tryz.f4.params.toList args.toList ds p:=hA0;have hpar:Tryz.f4.params=#[25]:=Tryz.params4;have hts:∀t∈Tryz.f4.params.toList,Carried t:=by
    intro t ht;rw [hpar] at ht;simp only [List.mem_cons,List.not_mem_nil,or_false] at ht;rcases ht with rfl
    · exact carried_unit
  rw [hpar] at hA hval;obtain⟨v0,vs0,d0,ds0,p0,q0,hargs,rfl,rfl,h0,r0⟩:=trodAll_cons hA;obtain⟨rfl,rfl,rfl⟩:=trodAll_nil r0;obtain rfl:args=#[v0]:=by cases args;simp_all
  obtain⟨rfl,rfl⟩:=trodVars_none hV;have hbulk:=bulk_bound hk;rw [List.append_nil] at hbulk;have hways:Ways W:=ways_of hL;have m0:Rows.uptoBulk d0≤1048576:=Nat.le_trans (bulk_part (by simp)) hbulk;obtain⟨ga,gc,fa,fc,gs,fs,rfl,hg,hf,hu⟩:=arg_unit (hval 0 _ v0 rfl rfl) h0;refine (stillSays_any W hways ga gc fa fc gs fs hg hf ⟨by omega⟩).mono fun e W' ⟨he,hb⟩=>?_;subst he;exact⟨_,rfl,law_post rfl rfl (fun ds h=>by rw [hpar] at h;obtain⟨e0,rfl⟩:=list1 h;rfl) hts hW' hb⟩

theorem stillSays_laidMet(os:Os):laidMet Tryz.prog Rows.stillSaysRow.laid ((laidWorld os).forCall (fun _ _=>0) ⟨#[],#[Value.agg #[.slice none 0 0,.slice none 0 0]],[]⟩).memory :=
  laidMet_of_run' 8 (by kernel_rfl) (by kernel_rfl)
theorem stillSays_reads(os:Os){H:Type}(enc:TypeId×Value→H):∃places,DataW.whole enc Tryz.prog ((laidWorld os).forCall (fun _ _=>0) ⟨#[],#[Value.agg #[.slice none 0 0,.slice none 0 0]],[]⟩).memory Tryz.f4.params.toList Rows.stillSaysSpec.vars false (#[Value.agg #[.slice none 0 0,.slice none 0 0]]:Array Value).toList 8=some ([.agg [.nil,.nil]],[],places) :=
  ⟨[],by kernel_rfl⟩
set_option maxRecDepth 100000 in
theorem stillSays_lifted(os:Os)(started:os.Started)(H:Type)(enc:TypeId×Value→H)(F:Stop.Interp) :
    ReturnsInHanded {} Tryz.checked os 4 .any ((Rows.OpenSpec.upto Rows.stillSaysSpec).preRow enc Tryz.prog Tryz.f4 Rows.stillSaysUptoRow.domain false Rows.stillSaysUptoRow.laid) (((Rows.OpenSpec.upto Rows.stillSaysSpec).at F).post enc Tryz.prog Tryz.f4 false true false false):=by
  obtain⟨places,hx⟩:=stillSays_reads os enc
  refine returnsInHanded_of_row (C := Tryz.checked) (s := Rows.OpenSpec.upto Rows.stillSaysSpec) own started (by kernel_rfl) Tryz.func4
    (witness_row_at (enc := enc) (C := Tryz.checked) false (laidWorld os) #[Value.agg #[.slice none 0 0, .slice none 0 0]] rfl (by kernel_rfl) (by kernel_rfl) (by kernel_rfl)
      (OpenSpec.preRow_of_cond 8 hx (by kernel_rfl) (fun k hk => by cases hk; kernel_rfl) (by kernel_rfl) (stillSays_laidMet os))) ?_
  intro W base args ds gs before hval hW _ hcond _ hL _ _;exact stillSays_contract H enc W base args ds gs before hval hW (hcond _ rfl) hL
theorem stillSays_saidUpto:Rows.StillSaysUptoSaid :=
  OpenClaim.holds_of_cond 4 Tryz.f4 rfl rfl rfl rfl rfl rfl rfl ⟨rfl, rfl, rfl, rfl, rfl⟩ rfl rfl rfl rfl rfl (by kernel_rfl) Tryz.func4 (by kernel_rfl)
    (of_decide_eq_true (by kernel_rfl)) (by unfold Func.isWrapper;first | (rw [if_pos (by decide +kernel)];kernel_rfl) | (rw [if_neg (by decide +kernel)];exact⟨rfl,rfl⟩))
    (fun os started H enc _ F=>by rw [OpenClaim.pre_eq_preRow];exact stillSays_lifted os started H enc F)
theorem stillSays_plain (f : FuncId) (fn : Func) (hf : Tryz.pinned.checked.prog.funcNamed "turnery/turnerylaw6.StillSays" = some f) (hfn : Tryz.pinned.checked.prog.funcs[f]? = some fn) :
    true=Tryz.pinned.checked.prog.looks []∧∀(j:Nat) t,fn.params[j]?=some t→Tryz.pinned.checked.prog.wantsStandIn t=false:=by
  obtain rfl : f = 4 := Option.some.inj ((show Tryz.prog.funcNamed "turnery/turnerylaw6.StillSays" = some 4 by kernel_rfl).symm.trans hf) |>.symm
  obtain rfl:fn=Tryz.f4:=(Option.some.inj (Tryz.func4.symm.trans hfn)).symm;refine⟨by kernel_rfl,fun j t ht=>?_⟩;have hpar:Tryz.f4.params=#[25]:=Tryz.params4;rw [hpar] at ht;have hm:=Array.mem_of_getElem? ht;simp only [List.mem_toArray,List.mem_cons,List.not_mem_nil,or_false] at hm;rcases hm with rfl
  · exact (show Tryz.prog.wantsStandIn 25=false by kernel_rfl)

/-- THE CARD of StillSays, where what it reads is of bulk at most 1048576. -/
theorem stillSays_holds:Rows.StillSaysUptoCardSaid :=
  Claim7.holds_tied_plain_at .later [] _ _ _ _ stillSays_saidUpto (fun _ h=>by cases h) (by kernel_rfl) (fun _ h=>by cases h) stillSaysUpto_row_tie rfl ⟨rfl,rfl⟩ (by kernel_rfl) rfl stillSays_plain (by kernel_rfl)

end Go.Proofs.YtnkogppgacappaaGreatDoor
