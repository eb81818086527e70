import Derived.Test.YtnkfdeiigplhoaaGreatDoorPPair
import Derived.Test.YtnkfdeiigplhoaaGreatDoorCards
import Derived.Test.YtnkfdeiigplhoaaGreatDoorTie
import Derived.Deep.DeepHandedRow
import Derived.Lib.LaidTab
import Derived.Test.YtnkfdeiigplhoaaGreatDoorPRest0
/- What every law of this seat shares around its walk: the arguments read behind the call as before; what the listed variable gives; what the bound gives. The law WeighOnce: its walk. The law WeighHot: its walk. weigh.By, plainly: what it answers. What code.Check leaves: small units, functions whose blocks may be laid. A row of structs that is written one by one. WeighRest, plainly: laid twice it lies as laid once. The words of the memory that never change, plainly. -/
set_option maxRecDepth 100000
namespace Go.Proofs.YtnkfdeiigplhoaaGreatDoor
section
open Go.RowKit Go.ChangeShapes Go.WideShapes Go.ChangeAt Go.Deep
theorem own:ownKnob Tryz.prog.godebug=none:=by kernel_rfl
theorem aoH:laidOutB Tryz.prog=true:=by kernel_rfl
theorem am9 : Tryz.prog.globalNamed "turnery/code.ways" = some 0 := by kernel_rfl
theorem alz:(Tryz.prog.globals[0]?).map (·.type)=some 177:=by kernel_rfl
theorem apy:Tryz.prog.cellsOf 177=4:=by kernel_rfl
variable {W:World}
theorem apg(h : laidMetH Tryz.prog [("turnery/code.ways", Rows.laid_turnery_code_ways)] W) : abX W := by
 have t : Lib.TabIs Tryz.prog W "turnery/code.ways" .i64 [0, 0, 1, 2] := Lib.tabIs_of_head (rest := []) am9 alz Tryz.underlying177 Tryz.underlying3 abY apy h
 exact⟨t.cell am9 1 (by decide),t.cell am9 2 (by decide),t.cell am9 3 (by decide)⟩
def ad7(t:TypeId):Prop:=Tryz.prog.readableRec t=true∧t<Tryz.prog.types.size
theorem carried {t:TypeId}(h:(Tryz.prog.readableRec t&&decide (t<Tryz.prog.types.size))=true):ad7 t:=by
 simp only [Bool.and_eq_true,decide_eq_true_eq] at h;exact h
theorem ahU:ad7 25:=carried (by kernel_rfl)
theorem aiO:ad7 3:=carried (by kernel_rfl)
theorem ahT:ad7 26:=carried (by kernel_rfl)
variable {H:Type}
theorem ahO{enc:TypeId×Value->H}{W':World}{sp:Nat->Bool}(hb:Below W.heap.size W W'):∀(ts:List TypeId) (vs:List Value) (ds:List (DataW H)) (ps:List MemPlace),(∀t∈ts,ad7 t) ->
 DataW.TrodAll enc Tryz.prog W 0 (fun _=>true) true ts vs ds ps->(∀p∈ps,p.block<W.heap.size)->(∀p∈ps,sp p.block=true)->DataW.TrodAll enc Tryz.prog W' 0 sp true ts vs ds ps
 | [],_,_,_,_,h,_,_=>by
   obtain⟨rfl,rfl,rfl⟩:=trodAll_nil h;exact trodAll_mk0
 | t :: ts,_,_,_,hc,h,ag,al=>by
   obtain⟨v,vs,d,ds,p,q,rfl,rfl,rfl,h1,h2⟩:=trodAll_cons h;obtain⟨c1,c2⟩:=hc t (by simp)
   exact trodAll_cons_mk (WideElems.Trod_stays aoH c1 c2 h1 (fun x hx => hb.same (ag x (by simp [hx]))) (fun x hx => al x (by simp [hx])))
    (ahO hb ts vs ds q (fun t ht=>hc t (by simp [ht])) h2 (fun x hx=>ag x (by simp [hx])) (fun x hx=>al x (by simp [hx])))
theorem ags{enc : TypeId × Value -> H}  {sp : Nat -> Bool} {hd : Bool} {b : Nat} : ∀ (ts : List TypeId) (vs : List Value) (ds : List (DataW H)) (ps : List MemPlace), DataW.TrodAll enc Tryz.prog W b sp hd ts vs ds ps -> ds.length = ts.length
 | [],_,_,_,h=>by
   obtain⟨rfl,rfl,rfl⟩:=trodAll_nil h;rfl
 | t :: ts,_,_,_,h=>by
   obtain⟨v,vs,d,ds,p,q,rfl,rfl,rfl,h1,h2⟩:=trodAll_cons h;simp [ags ts vs ds q h2]
theorem anm{enc : TypeId × Value -> H} {f : Func} {s : ChangeSpec} {W W' : World} {args : Array Value} {ds gs : List (DataW H)} {before : List MemPlace}
 (hv:s.vars=[]) (hr:f.resultTypes=#[4]) (aC:∀ds:List (DataW H),ds.length=f.params.toList.length->s.fn H ds={ results:=[.lit (.bool true)],args:=ds }) (aG:∀t∈f.params.toList,ad7 t)
 (hW:DataW.Whole enc Tryz.prog f.params.toList s.vars false W args.toList ds gs before) (hb:Below W.heap.size W W'):s.post enc Tryz.prog f false true false false W args (.bool true) W':=by
 have ag:∀p∈before,p.block<W.heap.size:=fun p hp=>hW.lt p hp;have hold:∀p∈before,(fun b=>decide (b<W.heap.size)) p.block=true:=fun p hp=>by simpa using ag p hp
 have au:=hW;obtain⟨p,q,hA,hV,rfl,hz,hn⟩:=hW;rw [hv] at hV;obtain⟨rfl,rfl⟩:=trodVars_none hV;have ar:DataW.TrodAll enc Tryz.prog W 0 (fun _=>true) true f.params.toList args.toList ds p:=hA;rw [Abe] at ag hold hz au;have e1:s.fn H (ds++[])={ results:=[.lit (.bool true)],args:=ds }:=by rw [Abe];exact aC ds (ags _ _ _ _ ar)
 have aj:∀(b:Nat) (sp:Nat->Bool) (hd:Bool),DataW.TrodAll enc Tryz.prog W' b sp hd f.resultTypes.toList ((Value.bool true).resultList f.resultTypes.size) (s.fn H (ds++[])).results []:=by
  intro b sp hd;rw [e1,hr];exact trodAll_cons_mk (shut_bool Tryz.underlying4 _) trodAll_mk0
 have ae:∀sp:Nat->Bool,(∀x∈p,sp x.block=true)->DataW.TrodAll enc Tryz.prog W' 0 sp true f.params.toList args.toList (s.fn H (ds++[])).args p:=by
  intro sp al;rw [e1];exact ahO hb _ _ _ _ aG ar ag al
 have af:∀sp:Nat->Bool,DataW.TrodVars enc Tryz.prog W' sp s.vars (s.fn H (ds++[])).vars []:=by
  intro sp;rw [e1,hv];exact rfl
 refine⟨ds,[],p,[],p,[],by simpa using au,aj _ _ _,ae _ hold,af _,World.keptBut_mono (fun x hx=>⟨hx,by simpa using hx⟩) (hb.frame (·∈p)),fun _=>?_⟩;refine⟨?_,_,_,([]++p)++[],⟨[]++p,[],trodAll_append (ae _ (fun _ _=>rfl)) (aj _ _ _),af _,rfl,?_,fun h=>by cases h⟩,fun x hx _=>by simpa using hx⟩
 . exact ok_one hr rfl (okWide_bool_mk Tryz.underlying4 _)
 . intro b off hx
   have ak:MemPlace.cell b off∈p:=by simpa using hx
   rw [hb.frozen (ag _ ak)];exact hz b off ak
theorem afQ{d:DataW H}{l:List (DataW H)}(h:d∈l):Rows.uptoBulk d<=Rows.uptoBulkAll l:=by
 induction l with
 | nil=>cases h
 | cons x r ih =>
   simp only [Rows.uptoBulkAll];rcases Aaw.1 h with e | e
   . subst e;omega
   . have:=ih e;omega
theorem akl{l:List (DataW H)}(hk:Rows.uptoSmall H l=true):Rows.uptoBulkAll l<=1048576:=by
 have h:=of_decide_eq_true hk;exact h
structure ahb (gs:List aas)(fs:List aao):Prop where
 size:agp ⟨gs,fs⟩<=1048576
theorem aiC(x:aas):1<=adP x:=by have:=ago ahF x.init;unfold adP;omega
theorem akZ(x:aao):1<=aeK x:=by have:=ago ada x.blocks;unfold aeK;omega
theorem ajq(x:aad):1<=ada x:=by have:=ago ak0 x.phis;unfold ada;omega
theorem amr(x:afu):1<=ak0 x:=ago _ _
theorem amo(x:ad8):1<=amn x:=ago _ _
theorem amq(x:Int):1<=ahF x:=Aad _
theorem aoK(l:List aad):aaT l<=(l.map ada).sum:=by
 unfold aaT
 induction l with
 | nil=>exact Aad _
 | cons b l ih =>
   have h1:=ae4 amr b.phis;have h2:=ae4 amo b.list;simp only [Aa9,List.sum_cons];unfold ada at *;omega
variable {gs:List aas}{fs:List aao}
theorem ahb.globals(h:ahb gs fs):gs.length<=1048576:=by
 have h1:=h.size;have h2:=ae4 aiC gs;unfold agp at h1;dsimp only at h1;omega
theorem ahb.funcs(h:ahb gs fs):fs.length<=1048576:=by
 have h1:=h.size;have h2:=ae4 akZ fs;unfold agp at h1;dsimp only at h1;omega
theorem ahb.func(h:ahb gs fs){k:Nat}{f:aao}(hf:fs[k]?=some f):aeK f<=1048576:=by
 have h1:=h.size;have h2:=ao3 (f:=aeK) (Aam hf);unfold agp at h1;dsimp only at h1;omega
theorem ahb.many(h:ahb gs fs):∀(k:Nat) (f:aao),fs[k]?=some f->aaT f.blocks<=1048576∧f.blocks.length<=1048576:=by
 intro k f hf;have h1:=h.func hf;have h2:=aoK f.blocks;have h3:=ae4 ajq f.blocks;unfold aeK szL at h1;unfold szL at h3;omega
theorem amY{enc:TypeId×Value->H}{base:Nat}{v:Value}{d:DataW H}{p:List MemPlace}(hv:Value.okWide Tryz.prog W .any base 25 v)(h:DataW.Trod enc Tryz.prog W 0 (fun _=>true) true 25 v d p) :
 ∃ga gc fa fc gs fs,v = .agg #[.slice ga gs.length gc,.slice fa fs.length fc]∧SlAt (fun b=>b<W.heap.size) W 3 aaE (.slice ga gs.length gc) gs∧SlAt (fun b=>b<W.heap.size) W 4 aaZ (.slice fa fs.length fc) fs∧agp ⟨gs,fs⟩<=Rows.uptoBulk d:=by
 obtain⟨cs,rfl,-⟩:=okWide_struct Tryz.underlying25 hv;obtain⟨fuel,h⟩:=h;obtain⟨u,⟨g,f,e,hg,hf⟩,-,hm⟩:=aoR _ _ _ _ _ _ _ _ _ h;have e':cs.toList=[g,f]:=e;obtain⟨ga,gc,eg,-⟩:=id hg;obtain⟨fa,fc,ef,-⟩:=id hf;subst eg ef;refine⟨ga,gc,fa,fc,u.globals,u.funcs,?_,hg,hf,hm⟩;obtain⟨l⟩:=cs;have e2:l=_:=e';rw [e2]
theorem amX{enc:TypeId×Value->H}{base:Nat}{v:Value}{d:DataW H}{p:List MemPlace}(hv:Value.okWide Tryz.prog W .any base 26 v)(h:DataW.Trod enc Tryz.prog W 0 (fun _=>true) true 26 v d p) :
 ∃ca cc C,v = .slice ca C.length cc∧SlAt (fun b=>b<W.heap.size) W 1 aaO (.slice ca C.length cc) C∧szL ahF C<=Rows.uptoBulk d:=by
 obtain⟨a,len,cap,rfl⟩:=okWide_slice Tryz.underlying26 hv;obtain⟨fuel,h⟩:=h;obtain⟨C,⟨v',e,hC⟩,-,hm⟩:=ajj _ _ _ _ _ _ _ _ _ h;have e':[Value.slice a len cap]=[v']:=e;cases e';obtain⟨ca,cc,ec,-⟩:=id hC;cases ec;exact⟨_,_,_,rfl,hC,hm⟩
noncomputable def af4 (os:Os):World :=
 { World.holding Tryz.prog os ⟨#[], #[], []⟩ with heap := (World.holding Tryz.prog os ⟨#[], #[], []⟩).heap.modify 0 fun
  | .cells _ t frozen => .cells #[.int .i64 0, .int .i64 0, .int .i64 1, .int .i64 2] t frozen
  | o => o }
end
section
open Go.RowKit
theorem abR {u:aaC}(h:(aal u).1=0):aal u=(0,0):=by
 have h0:=h;unfold aal at h ⊢
 by_cases h1:10<u.globals.length∨10<u.funcs.length
 . rw [if_pos h1] at h;simp at h
 rw [if_neg h1] at h ⊢
 by_cases h2:acR (acN u.globals) u.globals.length<u.globals.length
 . rw [if_pos h2] at h;exact absurd h (ac7 h2)
 rw [if_neg h2] at h ⊢
 by_cases h3:acR (abr u.globals u.funcs) u.funcs.length<u.funcs.length
 . rw [if_pos h3] at h;exact absurd h (ac7 h3)
 rw [if_neg h3] at h ⊢
 by_cases h4:acR (aa2 u.funcs) u.funcs.length<u.funcs.length
 . rw [if_pos h4] at h;exact absurd h (ac7 h4)
 rw [if_neg h4] at h ⊢;unfold afp at h ⊢
 by_cases h5:aaK u.funcs<0
 . rw [if_pos h5] at h;simp at h
 rw [if_neg h5] at h ⊢
 by_cases h6:0<(u.funcs.getD (aaK u.funcs).toNat ⟨ByteArray.empty,0,0,[]⟩).params
 . rw [if_pos h6] at h;simp at h
 rw [if_neg h6]
theorem aj6 {α:Type}{r:Rp α}{S:Nat->Prop}{w:World}{sz:Nat}{v:Value}{l:List α}(h:SlAt S w sz r v l):∃a c,v = .slice a l.length c:=by
 obtain⟨a,c,hv,_⟩:=h;exact⟨a,c,hv⟩
end
section
open Go.RowKit
structure aol (w W3 wr:World)(H n:Nat)(r:List Nat)(k:Nat):Prop where
 at_:wr.rowIs H 3 n (fun b => .int .i64 ((atF r k b:Nat):Int))
 below:Below w.heap.size w wr
 old:Below W3.heap.size W3 wr
theorem aol.next {w W3 wr:World}{H n:Nat}{r:List Nat}{k:Nat}(h:aol w W3 wr H n r k)(h1:w.heap.size<=H)(h2:W3.heap.size<=H){x:Nat}(hx:∀y,atF r (k+1) y=if y=x then k else atF r k y) :
 aol w W3 (wr.setCell ⟨H,x,none⟩ (.int .i64 k)) H n r (k+1):=by
 refine⟨(h.at_.set x (.int .i64 k)).congr (fun y hy=>?_),h.below.setCell (by exact h1) _,h.old.setCell (by exact h2) _⟩;rw [hx y]
 by_cases hyb:y=x
 . rw [if_pos hyb,if_pos hyb]
 . rw [if_neg hyb,if_neg hyb]
end
section
open Go.RowKit
def alb(fs:List aao)(Cs:List (List Int))(k:Nat):Int:=if (Cs.getD k []).length=(fs.getD k abM).blocks.length then 0 else 9
def acs(u:aaC)(Cs:List (List Int)):Int×Int :=
 if aal u≠(0,0) then aal u
 else if Cs.length≠u.funcs.length then (9,-1)
 else if acR (alb u.funcs Cs) Cs.length<Cs.length then (9,((acR (alb u.funcs Cs) Cs.length:Nat):Int))
 else (0,0)
def byF(f:aao)(C:List Int):aao:=agt f (afq f.blocks (aaB C))
def byL(fs:List aao)(Cs:List (List Int)):List aao:=(List.range fs.length).map fun k=>byF (fs.getD k abM) (Cs.getD k [])
variable {u:aaC}{Cs:List (List Int)}
theorem ai3(h:aal u≠(0,0)):acs u Cs=aal u:=by unfold acs;rw [if_pos h]
theorem akw(h:aal u=(0,0))(hl:Cs.length≠u.funcs.length):acs u Cs=(9,-1):=by unfold acs;rw [if_neg (by simp [h]),if_pos hl]
variable {k:Nat}
theorem alw(h:aal u=(0,0))(hl:Cs.length=u.funcs.length)(hk:k<Cs.length)(h0:∀j,j<k->alb u.funcs Cs j=0)(aD:alb u.funcs Cs k≠0):acs u Cs=(9,((k:Nat):Int)):=by
 unfold acs;rw [if_neg (by simp [h]),if_neg (by simp [hl]),ahz h0 hk aD,if_pos hk]
theorem afz(h:aal u=(0,0))(hl:Cs.length=u.funcs.length)(h0:∀j,j<Cs.length->alb u.funcs Cs j=0):acs u Cs=(0,0):=by
 unfold acs;rw [if_neg (by simp [h]),if_neg (by simp [hl]),aby h0,if_neg (Abg _)]
variable {fs:List aao}
theorem adA(h1:k<fs.length)(h2:k<Cs.length):alb fs Cs k=0↔Cs[k].length=fs[k].blocks.length:=by
 unfold alb;rw [Aac,Aac,Aaa h1,Aaa h2,Abd,Abd];split <;> simp_all
theorem ach(fs:List aao)(Cs:List (List Int)):(byL fs Cs).length=fs.length:=by unfold byL;simp
theorem an7(h1:k<fs.length)(h2:k<Cs.length):(byL fs Cs)[k]?=some (byF fs[k] Cs[k]):=by
 unfold byL;rw [Aak,Aa4 h1];simp only [Option.map_some,Aac,Aaa h1,Aaa h2,Abd]
theorem aez{f:aao}(h:abP fs f=0)(hn:0<f.blocks.length)(c:Nat->Int):aeM (afq f.blocks c) f.blocks.length∧(afq f.blocks c)[0]?=some 0∧adR f.blocks c (afq f.blocks c):=by
 have hf:=ado h
 have hT := ae5 (bs := f.blocks) (fun k x hx t ht => by
  obtain ⟨hk, rfl⟩ := Aae.1 hx
  exact hf.tgt k hk t (by rw [Aac, Aaa hk]; exact ht))
 obtain⟨hO,hl,an⟩:=alY (bs:=f.blocks) (c:=c) hn hT;refine⟨⟨hl,hO.lt,fun z hz=>aeu.1 (an z hz),?_⟩,hO.head,hO⟩;rw [List.nodup_iff_pairwise_ne,List.pairwise_iff_getElem];intro i j hi hj aJ he;have:=hO.inj hT hi hj he;omega
end
section
open Go.RowKit
theorem agN {u:aaC}(h:aal u=(0,0)):0<u.funcs.length:=by
 rcases Nat.eq_zero_or_pos u.funcs.length with h0 | h0
 . exfalso
   obtain⟨h1,h2,h3,h4,h5⟩:=abZ (u:=u) (by rw [h]);unfold aal at h;rw [if_neg (by omega),aby (fun j _=>h3 j),aby (fun j _=>h4 j),aby (fun j _=>h5 j)] at h;simp only [Abg,if_false] at h;have h6:u.funcs=[]:=Abq.1 h0;rw [h6] at h;unfold afp aaK at h;simp at h
 . exact h0
theorem abv {u:aaC}(h:aal u=(0,0)){k:Nat}{f:aao}(hf:u.funcs[k]?=some f) :
 ac1 (ab9 u.globals u.funcs k) f=0∧abP u.funcs f=0:=by
 obtain⟨-,-,-,h2,h3⟩:=abZ (u:=u) (by rw [h]);have g2:=h2 k;have g3:=h3 k;unfold abr at g2;unfold aa2 at g3;rw [hf] at g2 g3;exact⟨g2,g3⟩
theorem agY {l:List aad}{x:aad}(h:x∈l):x.phis.length+x.list.length<=aaT l:=by
 unfold aaT
 induction l with
 | nil=>cases h
 | cons a l ih =>
   rw [Aa9,List.sum_cons];rcases Aaw.1 h with rfl | h
   . omega
   . have:=ih h;omega
theorem aim {fs:List aao}{regs:Int}{x:ad8}(h:aeN fs regs x=0):x.args.length=0∨∃f∈fs,(x.args.length:Int)=f.params:=by
 unfold aeN at h
 by_cases h1:¬(1<=x.op∧x.op<=22)
 . rw [if_pos h1] at h;omega
 rw [if_neg h1] at h
 by_cases h2:acZ x=true
 . rw [if_pos h2] at h;omega
 rw [if_neg h2] at h
 by_cases h3:(shpD x.op=true∧¬(x.op=20∧x.dst = -1))∧agB regs x.dst≠0
 . rw [if_pos h3] at h;omega
 rw [if_neg h3] at h
 by_cases hop:x.op=20
 . right
   unfold acz at h
   by_cases a1:abN regs x.a≠0
   . rw [if_pos a1] at h;exact absurd h a1
   rw [if_neg a1] at h
   by_cases a2:abN regs x.b≠0
   . rw [if_pos a2] at h;exact absurd h a2
   rw [if_neg a2] at h;unfold ab5 at h;rw [if_neg (by simpa using hop)] at h
   by_cases b1:¬(0<=x.fn∧x.fn<=(fs.length:Int) - 1)
   . rw [if_pos b1] at h;omega
   rw [if_neg b1] at h
   by_cases b2:(x.args.length:Int)≠(fs.getD x.fn.toNat ⟨ByteArray.empty,0,0,[]⟩).params
   . rw [if_pos b2] at h;omega
   have hk:x.fn.toNat<fs.length:=by omega
   rw [Aac,Aaa hk,Abd] at b2;exact⟨_,Aaf hk,by omega⟩
 . left
   unfold acZ at h2;simp only [Bool.or_eq_true,Bool.and_eq_true,decide_eq_true_eq,not_or,not_and] at h2;have:=(h2.2 hop).2;omega
theorem adq {u:aaC}(h:aal u=(0,0)):(∀g∈u.globals,g.init.length<=1048576)∧∀f∈u.funcs,ajw f:=by
 obtain⟨-,-,h1,-,-⟩:=abZ (u:=u) (by rw [h]);have aq:∀f∈u.funcs,f.params<=6:=fun f hf=>by
  obtain⟨i,hi,rfl⟩:=Aa1 hf;exact (abH (abv h (Aaa hi)).1).2.2.2.1
 refine⟨fun g hg=>?_,fun f hf=>?_⟩
 . obtain⟨i,hi,rfl⟩:=Aa1 hg
   have g1:=h1 i;unfold acN at g1;rw [Aaa hi] at g1;have:=aeY g1;omega
 . obtain⟨i,hi,rfl⟩:=Aa1 hf
   obtain⟨hh,hb⟩:=abv h (Aaa hi);obtain⟨-,-,-,-,-,-,-,aH,hm⟩:=abH hh;refine⟨by omega,fun x hx=>?_⟩;have aL:=agY hx;obtain⟨j,hj,rfl⟩:=Aa1 hx;obtain⟨e1,e2⟩:=abC.1 hb;have he:=e1 j hj;unfold adk at he;rw [Aaa hj] at he;have aI:=acy.1 he;obtain⟨aF,ak⟩:=(abO (Aaa hj)).1 (e2 j hj);refine⟨by omega,by omega,by omega,fun p hp=>?_,fun x hx=>?_⟩
   . have h3:=adM.1 (aF p hp)
     rw [abA hj] at h3;rw [h3.2.2.1]
     have := ac8 j u.funcs[i].blocks 0 (fun x hx => by
      obtain ⟨j', av, rfl⟩ := Aa1 hx
      have he := e1 j' av
      unfold adk at he
      rw [Aaa av] at he
      have := acy.1 he
      omega)
     omega
   . rcases aim (ak x hx) with h4 | ⟨f,hf,h4⟩
     . omega
     . have:=aq f hf;omega
theorem anF {w:World}{R o:Nat}{cur:Array Value}{T:TypeId}(u0 u1 u2 u3:Value)(h:w.heap[R]?=some (.cells cur T (0,0)))(ho:o+4<=cur.size) :
 ∃ad,(((((w.setCell ⟨R,o,none⟩ u0).setCell ⟨R,o+1,none⟩ u1).setCell ⟨R,o+2,none⟩ u2).setCell ⟨R,o+3,none⟩ u3).heap[R]?=some (.cells ad T (0,0)))∧ad.size=cur.size ∧
   aaj ((((w.setCell ⟨R,o,none⟩ u0).setCell ⟨R,o+1,none⟩ u1).setCell ⟨R,o+2,none⟩ u2).setCell ⟨R,o+3,none⟩ u3) R o [u0,u1,u2,u3] ∧
   ∀j,(j<o∨o+4<=j)->((((w.setCell ⟨R,o,none⟩ u0).setCell ⟨R,o+1,none⟩ u1).setCell ⟨R,o+2,none⟩ u2).setCell ⟨R,o+3,none⟩ u3).cell? ⟨R,j,none⟩=w.cell? ⟨R,j,none⟩:=by
 have h1:=aay (i:=o) h u0;have h2:=aay (i:=o+1) h1 u1;have h3:=aay (i:=o+2) h2 u2;have h4:=aay (i:=o+3) h3 u3;refine⟨_,h4,by simp,fun j v hj=>?_,fun j hj=>?_⟩
 . rw [aaI h4]
   have aK:j<4:=by have:=(Aae.1 hj).1;simpa using this
   simp only [Abx,Array.size_setIfInBounds]
   match j,hj with
   | 0,hj=>cases hj;simp;omega
   | 1,hj=>cases hj;simp;omega
   | 2,hj=>cases hj;simp;omega
   | 3,hj=>cases hj;simp;omega
   | k+4,hj=>simp at hj
 . rw [aaI h4,aaI h]
   simp only [Abx,Array.size_setIfInBounds];rw [if_neg (by omega),if_neg (by omega),if_neg (by omega),if_neg (by omega)]
structure RSt (w W6 wr:World)(R cap:Nat)(L:Nat->aao)(k:Nat):Prop where
 below:Below w.heap.size w wr
 size:W6.heap.size<=wr.heap.size
 keep:∀b,b<W6.heap.size->b≠R->wr.heap[b]?=W6.heap[b]?
 row:∃cur,wr.heap[R]?=some (.cells cur 50 (0,0))∧cur.size=cap * 4
 done:∀(j:Nat),j<k->∃cs,cs.length=4∧aaj wr R (j * 4) cs∧aaZ (iv W6.heap.size wr.heap.size) wr cs (L j)
section
variable {w W6 wo wr : World} {R cap : Nat} {L : Nat -> aao} {k : Nat}
theorem RSt.cell(h:RSt w W6 wr R cap L k){b o:Nat}{v:Value}(hc:W6.cell? ⟨b,o,none⟩=some v)(hb:b≠R):wr.cell? ⟨b,o,none⟩=some v:=by
 rw [World.cell?_of_block (w:=W6) (a:=⟨b,o,none⟩) (h.keep b (aac hc) hb)];exact hc
theorem RSt.later(h:RSt w W6 wo R cap L k)(hb:Below wo.heap.size wo wr)(hR:R<wo.heap.size):RSt w W6 wr R cap L k:=by
 refine⟨h.below.trans (hb.mono h.below.size),Aag h.size hb.size,fun b h1 h2=>?_,?_,fun j h1=>?_⟩
 . rw [hb.block b (Aap h1 h.size),h.keep b h1 h2]
 . obtain⟨cur,h1,h2⟩:=h.row
   exact⟨cur,by rw [hb.block R hR];exact h1,h2⟩
 . obtain⟨cs,h3,h4,h5⟩:=h.done j h1
   exact⟨cs,h3,h4.later hb,aak.out _ _ _ _ _ _ (fun b h=>⟨h.1,Aap h.2 hb.size⟩) (aav.below' hb) h5⟩
theorem RSt.next (h : RSt w W6 wr R cap L k) (hw : w.heap.size <= R) (hR : R < W6.heap.size) (hk : k < cap) (u0 u1 u2 u3 : Value)
 (hx:aaZ (iv W6.heap.size wr.heap.size) wr [u0,u1,u2,u3] (L k)) :
 RSt w W6 ((((wr.setCell ⟨R,k * 4,none⟩ u0).setCell ⟨R,k * 4+1,none⟩ u1).setCell ⟨R,k * 4+2,none⟩ u2).setCell ⟨R,k * 4+3,none⟩ u3) R cap L (k+1):=by
 obtain⟨cur,az,aA⟩:=h.row;obtain⟨ad,r1,r2,r3,r4⟩:=anF (o:=k * 4) u0 u1 u2 u3 az (by omega);have ay:((((wr.setCell ⟨R,k * 4,none⟩ u0).setCell ⟨R,k * 4+1,none⟩ u1).setCell ⟨R,k * 4+2,none⟩ u2).setCell ⟨R,k * 4+3,none⟩ u3).heap.size=wr.heap.size:=by simp [World.setCell]
 have aw:∀b,b≠R->((((wr.setCell ⟨R,k * 4,none⟩ u0).setCell ⟨R,k * 4+1,none⟩ u1).setCell ⟨R,k * 4+2,none⟩ u2).setCell ⟨R,k * 4+3,none⟩ u3).heap[b]?=wr.heap[b]?:=fun b hb=>by
  iterate 4 rw [Below.heap_setCell _ _ _ _ (by dsimp only;exact hb)]
 have ao:Below w.heap.size w ((((wr.setCell ⟨R,k * 4,none⟩ u0).setCell ⟨R,k * 4+1,none⟩ u1).setCell ⟨R,k * 4+2,none⟩ u2).setCell ⟨R,k * 4+3,none⟩ u3) :=
  (((h.below.setCell (p:=⟨R,k * 4,none⟩) hw _).setCell (p:=⟨R,k * 4+1,none⟩) hw _).setCell (p:=⟨R,k * 4+2,none⟩) hw _).setCell (p:=⟨R,k * 4+3,none⟩) hw _
 generalize ((((wr.setCell ⟨R,k * 4,none⟩ u0).setCell ⟨R,k * 4+1,none⟩ u1).setCell ⟨R,k * 4+2,none⟩ u2).setCell ⟨R,k * 4+3,none⟩ u3)=WN at *;have ax:aav (iv W6.heap.size wr.heap.size) wr WN:=aba fun b hb _=>aw b (by have:=hb.1;omega);refine⟨ao,by rw [ay];exact h.size,fun b h1 h2=>by rw [aw b h2,h.keep b h1 h2],⟨ad,r1,by rw [r2,aA]⟩,fun j h1=>?_⟩;rw [ay]
 by_cases hjk:j=k
 . subst hjk
   exact⟨_,rfl,r3,aak.out _ _ _ _ _ _ (fun _ h=>h) ax hx⟩
 . obtain⟨cs,h3,h4,h5⟩:=h.done j (by omega)
   refine⟨cs,h3,fun i u hu=>?_,aak.out _ _ _ _ _ _ (fun _ h=>h) ax h5⟩;have hi:i<4:=by rw [<-h3];exact (Aae.1 hu).1
   rw [r4 _ (by omega)];exact h4 i u hu
theorem RSt.sl {n:Nat}(h:RSt w W6 wr R cap L n){c:Nat}(hc:n<=c)(hm:c<=9223372036854775807){lo:Nat}(hw:lo<=R)(hR:R<W6.heap.size){l:List aao}(hl:l.length=n)(hL:∀(j:Nat) (f:aao),l[j]?=some f->f=L j):SlAt (iv lo wr.heap.size) wr 4 aaZ (.slice (some ⟨R,0,none⟩) n c) l:=by
 refine⟨_,c,by rw [hl],by rw [hl];exact hc,hm,fun _=>⟨R,0,rfl,⟨hw,Aap hR h.size⟩,fun i x hx=>?_⟩⟩;have hi:i<n:=by rw [<-hl];exact (Aae.1 hx).1
 obtain⟨cs,h3,h4,h5⟩:=h.done i hi;rw [<-hL i x hx] at h5;exact⟨cs,aak.out _ _ _ _ _ _ (fun b h=>⟨by have:=h.1;omega,h.2⟩) (aav.refl _ _) h5,h3,by rw [Aab];exact h4⟩
end
end
section
open Go.RowKit
def ag0(f:aao)(C:List Int):List Int:=(afq f.blocks (aaB C)).map (aaB C)
def aob(fs:List aao)(Cs:List (List Int))(k:Nat):List (List Int):=(List.range k).map fun k=>ag0 (fs.getD k abM) (Cs.getD k [])
theorem ajO(fs:List aao)(Cs:List (List Int))(k:Nat):(aob fs Cs k).length=k:=by unfold aob;simp
variable {fs:List aao}{Cs:List (List Int)}
theorem air{n k:Nat}(hk:k<n):(aob fs Cs n).getD k []=ag0 (fs.getD k abM) (Cs.getD k []):=by
 unfold aob;rw [Aac,Aak,Aa4 hk];rfl
theorem ajD{k:Nat}(hk:k<fs.length):(byL fs Cs).getD k abM=byF (fs.getD k abM) (Cs.getD k []):=by
 unfold byL;rw [Aac,Aak,Aa4 hk];rfl
theorem aes{u:aaC}(h:acs u Cs=(0,0)):aal u=(0,0)∧Cs.length=u.funcs.length∧∀k,k<Cs.length->alb u.funcs Cs k=0:=by
 unfold acs at h
 by_cases h1:aal u≠(0,0)
 . rw [if_pos h1] at h;exact absurd h h1
 rw [if_neg h1] at h
 by_cases h2:Cs.length≠u.funcs.length
 . rw [if_pos h2] at h;exact absurd (congrArg Prod.fst h) (by decide)
 rw [if_neg h2] at h
 by_cases h3:acR (alb u.funcs Cs) Cs.length<Cs.length
 . rw [if_pos h3] at h;exact absurd (congrArg Prod.fst h) (show ¬(9:Int)=0 by decide)
 exact⟨Classical.not_not.1 h1,Classical.not_not.1 h2,afH h3⟩
theorem am1{f:aao}{C:List Int}(hb:abP fs f=0)(hn:0<f.blocks.length):byF (byF f C) (ag0 f C)=byF f C:=by
 obtain⟨hp,h0,hO⟩:=aez hb hn (aaB C);have hf:=ado hb;have e:afq (byF f C).blocks (aaB (ag0 f C))=List.range f.blocks.length:=by
  refine alZ (bs:=f.blocks) hf hn hp (fun i hi=>?_) hO;show (List.map (aaB C) _).getD i 0=_;rw [Aac,Aak,Aaa hi];rfl
 show agt (byF f C) _=_;rw [e];show (⟨f.name,f.params,f.regs,aaV (aaV f.blocks _) _⟩:aao)=⟨f.name,f.params,f.regs,_⟩;rw [ajr (hf.turn hp)]
theorem akT{gs:List aas}(h:acs ⟨gs,fs⟩ Cs=(0,0)) :
 acs ⟨gs,byL fs Cs⟩ (aob fs Cs fs.length)=(0,0)∧byL (byL fs Cs) (aob fs Cs fs.length)=byL fs Cs:=by
 obtain⟨h1,h2,h3⟩:=aes h;dsimp only at h2 h3;have hg:∀k (f:aao),fs[k]?=some f->fs.getD k abM=f:=fun k f hf=>by rw [Aac,hf];rfl
 have ai:∀k (f:aao),fs[k]?=some f->abP fs f=0∧0<f.blocks.length:=fun k f hf=>by
  obtain⟨hh,hb⟩:=abv (u:=⟨gs,fs⟩) h1 hf;obtain⟨-,-,-,-,-,-,g1,-,-⟩:=abH hh;exact⟨hb,by omega⟩
 have aB:aal ⟨gs,byL fs Cs⟩=(0,0):=by
  rw [aiR (fs:=fs) (by rw [h1]) (ach fs Cs) (fun k f hf=>?_),h1];obtain⟨hk,he⟩:=Aae.1 hf;obtain⟨hb,hn⟩:=ai k f hf;obtain⟨hp,h0,-⟩:=aez hb hn (aaB (Cs.getD k []));refine⟨afq f.blocks (aaB (Cs.getD k [])),?_,hp,h0⟩;unfold byL;rw [Aak,Aa4 hk,Option.map_some,hg k f hf];rfl
 refine⟨afz aB (by rw [ajO];exact (ach fs Cs).symm) (fun k hk=>?_),?_⟩
 . rw [ajO] at hk
   unfold alb;dsimp only;rw [air hk,ajD hk];refine if_pos ?_;show (ag0 _ _).length=(aaV _ _).length;rw [aaL];unfold ag0;rw [Aal]
 . refine Abk fun k=>?_
   by_cases hk:k<fs.length
   . have aE:k<(byL fs Cs).length:=by rw [ach];exact hk
     have e1:(byL (byL fs Cs) (aob fs Cs fs.length))[k]?=some (byF ((byL fs Cs).getD k abM) ((aob fs Cs fs.length).getD k [])):=by
      show ((List.range _).map _)[k]?=_;rw [Aak,Aa4 aE];rfl
     have e2:(byL fs Cs)[k]?=some (byF (fs.getD k abM) (Cs.getD k [])):=by
      unfold byL;rw [Aak,Aa4 hk];rfl
     obtain⟨hb,hn⟩:=ai k _ (Aaa hk);rw [e1,e2,ajD hk,air hk,hg k _ (Aaa hk),am1 hb hn]
   . rw [Aa8 (by rw [ach,ach];omega),Aa8 (by rw [ach];omega)]
end
section
open Go.RowKit
def ag9(g:aas):List Int:=g.init++List.replicate (g.size - g.init.length).toNat 0
def abK(gs:List aas)(k:Nat):List Int:=(gs.take k).flatMap ag9
def adh(gs:List aas):List Int:=abK gs gs.length
theorem agw {gs:List aas}{k:Nat}(h:k<gs.length):abK gs (k+1)=abK gs k++ag9 gs[k]:=by
 unfold abK;rw [Aat h,List.flatMap_append];simp
theorem ak8 {g:aas}(h:(g.init.length:Int)<=g.size):((ag9 g).length:Int)=g.size:=by
 unfold ag9;rw [Aai,Aa6];omega
theorem aha {gs:List aas}(h:∀g∈gs,(g.init.length:Int)<=g.size):∀k,k<=gs.length->((abK gs k).length:Int)=abe gs k:=by
 intro k
 induction k with
 | zero=>intro _;simp [abK,abe]
 | succ k ih =>
   intro hk;rw [agw hk,acE hk,Aai,Int.natCast_add,ih (by omega),ak8 (h _ (Aaf hk))]
end
end Go.Proofs.YtnkfdeiigplhoaaGreatDoor
