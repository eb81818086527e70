import Derived.Test.YtgekbfgplclmeaaDoorPUnrCt
/- UnrollCounts: the law's row and card: where what it reads is of bulk at most 1048576, the law answers true for every input. Its listed variable is code.ways, as the program's text lays it. -/
namespace Go.Proofs.YtgekbfgplclmeaaDoor
open Go.RowKit Go.ChangeShapes Go.WideShapes Go.ChangeAt Go.Deep
theorem list5 {α:Type}{l:List α}(h:l.length=5):∃a b c d e,l=[a,b,c,d,e]:=by
 match l,h with
 | [a,b,c,d,e],_=>exact⟨a,b,c,d,e,rfl⟩
set_option maxRecDepth 100000 in
theorem unrollCounts_contract (H : Type) (enc : TypeId × Value → H) (W : World) (base : Nat) (args : Array Value) (ds gs : List (DataW H)) (before : List MemPlace)
    (ae:∀(j:Nat) t v,Tryd.f3.params[j]?=some t→args[j]?=some v→Value.okWide Tryd.prog W .any base t v)
    (hW:DataW.Whole enc Tryd.prog Tryd.f3.params.toList Rows.unrollCountsSpec.vars false W args.toList ds gs before) (hk:Rows.uptoSmall H (ds++gs)=true) (hL:laidMetH Tryd.prog Rows.unrollCountsRow.laid W) :
    Calls Tryd.prog 3 args W fun e W'=>∃v,e = .returned v∧Rows.unrollCountsSpec.post enc Tryd.prog Tryd.f3 false true false false W args v W':=by
  have aq:=hW;obtain⟨p,q,ao,hV,rfl,aH,aI⟩:=hW;have hA:DataW.TrodAll enc Tryd.prog W 0 (fun _=>true) true Tryd.f3.params.toList args.toList ds p:=ao;have af:Tryd.f3.params=#[25,3,3,26,3]:=Tryd.params3;have au:∀t∈Tryd.f3.params.toList,adb t:=by
    intro t ht;rw [af] at ht;simp only [List.mem_cons,List.not_mem_nil,or_false] at ht;rcases ht with rfl | rfl | rfl | rfl | rfl
    · exact agi
    · exact adg
    · exact adg
    · exact agh
    · exact adg
  rw [af] at hA ae;obtain⟨v0,aJ,d0,ay,p0,q0,an,rfl,rfl,h0,r0⟩:=trodAll_cons hA;obtain⟨v1,aK,d1,az,p1,q1,rfl,rfl,rfl,h1,r1⟩:=trodAll_cons r0;obtain⟨v2,aL,d2,aA,p2,q2,rfl,rfl,rfl,h2,r2⟩:=trodAll_cons r1;obtain⟨v3,aM,d3,aB,p3,q3,rfl,rfl,rfl,h3,r3⟩:=trodAll_cons r2;obtain⟨v4,aN,d4,aC,p4,q4,rfl,rfl,rfl,h4,r4⟩:=trodAll_cons r3;obtain⟨rfl,rfl,rfl⟩:=trodAll_nil r4;obtain rfl:args=#[v0,v1,v2,v3,v4]:=by cases args;simp_all
  obtain⟨rfl,rfl⟩:=trodVars_none hV;have ad:=ahV hk;rw [List.append_nil] at ad;have ai:ab5 W:=alN hL;have m0:Rows.uptoBulk d0≤1048576:=Nat.le_trans (acI (by simp)) ad;obtain⟨ga,gc,fa,fc,gs,fs,rfl,hg,hf,hu⟩:=aj0 (ae 0 _ v0 rfl rfl) h0;have m1:Rows.uptoBulk d1≤1048576:=Nat.le_trans (acI (by simp)) ad;obtain⟨k0,rfl,aE,-,av⟩:=open_int Tryd.underlying3 (ae 1 _ v1 rfl rfl) h1;have aj:=bounds_i64 av;have m2:Rows.uptoBulk d2≤1048576:=Nat.le_trans (acI (by simp)) ad;obtain⟨k1,rfl,aF,-,aw⟩:=open_int Tryd.underlying3 (ae 2 _ v2 rfl rfl) h2;have ak:=bounds_i64 aw;have m3:Rows.uptoBulk d3≤1048576:=Nat.le_trans (acI (by simp)) ad;obtain⟨ca,cc,C,rfl,hC,hc⟩:=ajZ (ae 3 _ v3 rfl rfl) h3;have aD:=adY ajx C;have m4:Rows.uptoBulk d4≤1048576:=Nat.le_trans (acI (by simp)) ad;obtain⟨k2,rfl,aG,-,ax⟩:=open_int Tryd.underlying3 (ae 4 _ v4 rfl rfl) h4;have al:=bounds_i64 ax;refine (aeg W ai ga gc fa fc gs fs hg hf ⟨by omega⟩ k0 aj.1 aj.2 k1 ak.1 ak.2 ca cc C hC (by omega) k2 al.1 al.2).mono fun e W' ⟨he,hb⟩=>?_;subst he;exact⟨_,rfl,akc rfl rfl (fun ds h=>by rw [af] at h;obtain⟨e0,e1,e2,e3,e4,rfl⟩:=list5 h;rfl) au aq hb⟩
theorem unrollCounts_laidMet(os:Os):laidMet Tryd.prog Rows.unrollCountsRow.laid ((aeE os).forCall (fun _ _=>0) ⟨#[],#[Value.agg #[.slice none 0 0,.slice none 0 0],Value.int .i64 0,Value.int .i64 0,Value.slice none 0 0,Value.int .i64 0],[]⟩).memory :=
  laidMet_of_run' 8 (by kernel_rfl) (by kernel_rfl)
theorem unrollCounts_reads(os:Os){H:Type}(enc:TypeId×Value→H):∃places,DataW.whole enc Tryd.prog ((aeE os).forCall (fun _ _=>0) ⟨#[],#[Value.agg #[.slice none 0 0,.slice none 0 0],Value.int .i64 0,Value.int .i64 0,Value.slice none 0 0,Value.int .i64 0],[]⟩).memory Tryd.f3.params.toList Rows.unrollCountsSpec.vars false (#[Value.agg #[.slice none 0 0,.slice none 0 0],Value.int .i64 0,Value.int .i64 0,Value.slice none 0 0,Value.int .i64 0]:Array Value).toList 8=some ([.agg [.nil,.nil],.lit (.int .i64 0),.lit (.int .i64 0),.nil,.lit (.int .i64 0)],[],places) :=
  ⟨[],by kernel_rfl⟩
set_option maxRecDepth 100000 in
theorem unrollCounts_lifted(os:Os)(started:os.Started)(H:Type)(enc:TypeId×Value→H)(F:Stop.Interp) :
    ReturnsInHanded {} Tryd.checked os 3 .any ((Rows.OpenSpec.upto Rows.unrollCountsSpec).preRow enc Tryd.prog Tryd.f3 Rows.unrollCountsUptoRow.domain false Rows.unrollCountsUptoRow.laid) (((Rows.OpenSpec.upto Rows.unrollCountsSpec).at F).post enc Tryd.prog Tryd.f3 false true false false):=by
  obtain⟨places,hx⟩:=unrollCounts_reads os enc
  refine returnsInHanded_of_row (C := Tryd.checked) (s := Rows.OpenSpec.upto Rows.unrollCountsSpec) own started (by kernel_rfl) Tryd.func3
    (witness_row_at (enc := enc) (C := Tryd.checked) false (aeE os) #[Value.agg #[.slice none 0 0, .slice none 0 0], Value.int .i64 0, Value.int .i64 0, Value.slice none 0 0, Value.int .i64 0] rfl (by kernel_rfl) (by kernel_rfl) (by kernel_rfl)
      (OpenSpec.preRow_of_cond 8 hx (by kernel_rfl) (fun k hk => by cases hk; kernel_rfl) (by kernel_rfl) (unrollCounts_laidMet os))) ?_
  intro W base args ds gs before ae hW _ ag _ hL _ _;exact unrollCounts_contract H enc W base args ds gs before ae hW (ag _ rfl) hL
theorem unrollCounts_saidUpto:Rows.UnrollCountsUptoSaid :=
  OpenClaim.holds_of_cond 3 Tryd.f3 rfl rfl rfl rfl rfl rfl rfl ⟨rfl, rfl, rfl, rfl, rfl⟩ rfl rfl rfl rfl rfl (by kernel_rfl) Tryd.func3 (by kernel_rfl)
    (of_decide_eq_true (by kernel_rfl)) (by unfold Func.isWrapper;first | (rw [if_pos (by decide +kernel)];kernel_rfl) | (rw [if_neg (by decide +kernel)];exact⟨rfl,rfl⟩))
    (fun os started H enc _ F=>by rw [OpenClaim.pre_eq_preRow];exact unrollCounts_lifted os started H enc F)
theorem unrollCounts_plain (f : FuncId) (fn : Func) (hf : Tryd.pinned.checked.prog.funcNamed "turnery/turnerylaw6.UnrollCounts" = some f) (ar : Tryd.pinned.checked.prog.funcs[f]? = some fn) :
    false=Tryd.pinned.checked.prog.looks []∧∀(j:Nat) t,fn.params[j]?=some t→Tryd.pinned.checked.prog.wantsStandIn t=false:=by
  obtain rfl : f = 3 := Option.some.inj ((show Tryd.prog.funcNamed "turnery/turnerylaw6.UnrollCounts" = some 3 by kernel_rfl).symm.trans hf) |>.symm
  obtain rfl:fn=Tryd.f3:=(Option.some.inj (Tryd.func3.symm.trans ar)).symm;refine⟨by kernel_rfl,fun j t ht=>?_⟩;have af:Tryd.f3.params=#[25,3,3,26,3]:=Tryd.params3;rw [af] at ht;have hm:=Array.mem_of_getElem? ht;simp only [List.mem_toArray,List.mem_cons,List.not_mem_nil,or_false] at hm;rcases hm with rfl | rfl | rfl | rfl | rfl
  · exact (show Tryd.prog.wantsStandIn 25=false by kernel_rfl)
  · exact (show Tryd.prog.wantsStandIn 3=false by kernel_rfl)
  · exact (show Tryd.prog.wantsStandIn 3=false by kernel_rfl)
  · exact (show Tryd.prog.wantsStandIn 26=false by kernel_rfl)
  · exact (show Tryd.prog.wantsStandIn 3=false by kernel_rfl)
/-- THE CARD of UnrollCounts, where what it reads is of bulk at most 1048576. -/
theorem unrollCounts_holds:Rows.UnrollCountsUptoCardSaid :=
  Claim7.holds_tied_plain_at .later [] _ _ _ _ unrollCounts_saidUpto (fun _ h=>by cases h) (by kernel_rfl) (fun _ h=>by cases h) unrollCountsUpto_row_tie rfl ⟨rfl,rfl⟩ (by kernel_rfl) rfl unrollCounts_plain (by kernel_rfl)
end Go.Proofs.YtgekbfgplclmeaaDoor
