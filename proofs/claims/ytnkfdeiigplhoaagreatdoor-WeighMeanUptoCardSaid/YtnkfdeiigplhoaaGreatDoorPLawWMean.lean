import Derived.Test.YtnkfdeiigplhoaaGreatDoorPWMean
/- WeighMean: the law's row and card: where what it reads is of bulk at most 1048576, the law answers true for every input. Its listed variable is code.ways, as the program's text lays it. -/
namespace Go.Proofs.YtnkfdeiigplhoaaGreatDoor
open Go.RowKit Go.ChangeShapes Go.WideShapes Go.ChangeAt Go.Deep
set_option maxRecDepth 100000 in
theorem weighMean_contract (H : Type) (enc : TypeId × Value → H) (W : World) (base : Nat) (args : Array Value) (ds gs : List (DataW H)) (before : List MemPlace)
    (ae:∀(j:Nat) t v,Tryz.f3.params[j]?=some t→args[j]?=some v→Value.okWide Tryz.prog W .any base t v)
    (hW:DataW.Whole enc Tryz.prog Tryz.f3.params.toList Rows.weighMeanSpec.vars false W args.toList ds gs before) (hk:Rows.uptoSmall H (ds++gs)=true) (hL:laidMetH Tryz.prog Rows.weighMeanRow.laid W) :
    Calls Tryz.prog 3 args W fun e W'=>∃v,e = .returned v∧Rows.weighMeanSpec.post enc Tryz.prog Tryz.f3 false true false false W args v W':=by
  have an:=hW;obtain⟨p,q,al,hV,rfl,az,aA⟩:=hW;have hA:DataW.TrodAll enc Tryz.prog W 0 (fun _=>true) true Tryz.f3.params.toList args.toList ds p:=al;have af:Tryz.f3.params=#[25,26,3]:=Tryz.params3;have aq:∀t∈Tryz.f3.params.toList,ad7 t:=by
    intro t ht;rw [af] at ht;simp only [List.mem_cons,List.not_mem_nil,or_false] at ht;rcases ht with rfl | rfl | rfl
    · exact ahU
    · exact ahT
    · exact aiO
  rw [af] at hA ae;obtain⟨v0,aB,d0,au,p0,q0,ak,rfl,rfl,h0,r0⟩:=trodAll_cons hA;obtain⟨v1,aC,d1,av,p1,q1,rfl,rfl,rfl,h1,r1⟩:=trodAll_cons r0;obtain⟨v2,aD,d2,aw,p2,q2,rfl,rfl,rfl,h2,r2⟩:=trodAll_cons r1;obtain⟨rfl,rfl,rfl⟩:=trodAll_nil r2;obtain rfl:args=#[v0,v1,v2]:=by cases args;simp_all
  obtain⟨rfl,rfl⟩:=trodVars_none hV;have ad:=akl hk;rw [List.append_nil] at ad;have ai:abX W:=apg hL;have m0:Rows.uptoBulk d0≤1048576:=Nat.le_trans (afQ (by simp)) ad;obtain⟨ga,gc,fa,fc,gs,fs,rfl,hg,hf,hu⟩:=amY (ae 0 _ v0 rfl rfl) h0;have m1:Rows.uptoBulk d1≤1048576:=Nat.le_trans (afQ (by simp)) ad;obtain⟨ca,cc,C,rfl,hC,hc⟩:=amX (ae 1 _ v1 rfl rfl) h1;have ax:=ae4 amq C;have m2:Rows.uptoBulk d2≤1048576:=Nat.le_trans (afQ (by simp)) ad;obtain⟨k0,rfl,ay,-,ar⟩:=open_int Tryz.underlying3 (ae 2 _ v2 rfl rfl) h2;have aj:=bounds_i64 ar;refine (ahH W ai ga gc fa fc gs fs hg hf ⟨by omega⟩ ca cc C hC (by omega) k0 aj.1 aj.2).mono fun e W' ⟨he,hb⟩=>?_;subst he;exact⟨_,rfl,anm rfl rfl (fun ds h=>by rw [af] at h;obtain⟨e0,e1,e2,rfl⟩:=al2 h;rfl) aq an hb⟩
theorem weighMean_laidMet(os:Os):laidMet Tryz.prog Rows.weighMeanRow.laid ((af4 os).forCall (fun _ _=>0) ⟨#[],#[Value.agg #[.slice none 0 0,.slice none 0 0],Value.slice none 0 0,Value.int .i64 0],[]⟩).memory :=
  laidMet_of_run' 8 (by kernel_rfl) (by kernel_rfl)
theorem weighMean_reads(os:Os){H:Type}(enc:TypeId×Value→H):∃places,DataW.whole enc Tryz.prog ((af4 os).forCall (fun _ _=>0) ⟨#[],#[Value.agg #[.slice none 0 0,.slice none 0 0],Value.slice none 0 0,Value.int .i64 0],[]⟩).memory Tryz.f3.params.toList Rows.weighMeanSpec.vars false (#[Value.agg #[.slice none 0 0,.slice none 0 0],Value.slice none 0 0,Value.int .i64 0]:Array Value).toList 8=some ([.agg [.nil,.nil],.nil,.lit (.int .i64 0)],[],places) :=
  ⟨[],by kernel_rfl⟩
set_option maxRecDepth 100000 in
theorem weighMean_lifted(os:Os)(started:os.Started)(H:Type)(enc:TypeId×Value→H)(F:Stop.Interp) :
    ReturnsInHanded {} Tryz.checked os 3 .any ((Rows.OpenSpec.upto Rows.weighMeanSpec).preRow enc Tryz.prog Tryz.f3 Rows.weighMeanUptoRow.domain false Rows.weighMeanUptoRow.laid) (((Rows.OpenSpec.upto Rows.weighMeanSpec).at F).post enc Tryz.prog Tryz.f3 false true false false):=by
  obtain⟨places,hx⟩:=weighMean_reads os enc
  refine returnsInHanded_of_row (C := Tryz.checked) (s := Rows.OpenSpec.upto Rows.weighMeanSpec) own started (by kernel_rfl) Tryz.func3
    (witness_row_at (enc := enc) (C := Tryz.checked) false (af4 os) #[Value.agg #[.slice none 0 0, .slice none 0 0], Value.slice none 0 0, Value.int .i64 0] rfl (by kernel_rfl) (by kernel_rfl) (by kernel_rfl)
      (OpenSpec.preRow_of_cond 8 hx (by kernel_rfl) (fun k hk => by cases hk; kernel_rfl) (by kernel_rfl) (weighMean_laidMet os))) ?_
  intro W base args ds gs before ae hW _ ag _ hL _ _;exact weighMean_contract H enc W base args ds gs before ae hW (ag _ rfl) hL
theorem weighMean_saidUpto:Rows.WeighMeanUptoSaid :=
  OpenClaim.holds_of_cond 3 Tryz.f3 rfl rfl rfl rfl rfl rfl rfl ⟨rfl, rfl, rfl, rfl, rfl⟩ rfl rfl rfl rfl rfl (by kernel_rfl) Tryz.func3 (by kernel_rfl)
    (of_decide_eq_true (by kernel_rfl)) (by unfold Func.isWrapper;first | (rw [if_pos (by decide +kernel)];kernel_rfl) | (rw [if_neg (by decide +kernel)];exact⟨rfl,rfl⟩))
    (fun os started H enc _ F=>by rw [OpenClaim.pre_eq_preRow];exact weighMean_lifted os started H enc F)
theorem weighMean_plain (f : FuncId) (fn : Func) (hf : Tryz.pinned.checked.prog.funcNamed "turnery/turnerylaw6.WeighMean" = some f) (ao : Tryz.pinned.checked.prog.funcs[f]? = some fn) :
    true=Tryz.pinned.checked.prog.looks []∧∀(j:Nat) t,fn.params[j]?=some t→Tryz.pinned.checked.prog.wantsStandIn t=false:=by
  obtain rfl : f = 3 := Option.some.inj ((show Tryz.prog.funcNamed "turnery/turnerylaw6.WeighMean" = some 3 by kernel_rfl).symm.trans hf) |>.symm
  obtain rfl:fn=Tryz.f3:=(Option.some.inj (Tryz.func3.symm.trans ao)).symm;refine⟨by kernel_rfl,fun j t ht=>?_⟩;have af:Tryz.f3.params=#[25,26,3]:=Tryz.params3;rw [af] at ht;have hm:=Array.mem_of_getElem? ht;simp only [List.mem_toArray,List.mem_cons,List.not_mem_nil,or_false] at hm;rcases hm with rfl | rfl | rfl
  · exact (show Tryz.prog.wantsStandIn 25=false by kernel_rfl)
  · exact (show Tryz.prog.wantsStandIn 26=false by kernel_rfl)
  · exact (show Tryz.prog.wantsStandIn 3=false by kernel_rfl)
/-- THE CARD of WeighMean, where what it reads is of bulk at most 1048576. -/
theorem weighMean_holds:Rows.WeighMeanUptoCardSaid :=
  Claim7.holds_tied_plain_at .later [] _ _ _ _ weighMean_saidUpto (fun _ h=>by cases h) (by kernel_rfl) (fun _ h=>by cases h) weighMeanUpto_row_tie rfl ⟨rfl,rfl⟩ (by kernel_rfl) rfl weighMean_plain (by kernel_rfl)
end Go.Proofs.YtnkfdeiigplhoaaGreatDoor
