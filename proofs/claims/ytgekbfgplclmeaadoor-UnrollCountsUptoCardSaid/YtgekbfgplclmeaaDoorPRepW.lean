import Derived.Test.YtgekbfgplclmeaaDoorPRepI
/- slices.Repeat of a list of one pair of numbers (ssa.written). -/
namespace Go.Proofs.YtgekbfgplclmeaaDoor
open Go.RowKit Go.Lib
theorem ak8:(Tryd.prog.info? 137).map (fun i=>(i.zero,i.size,i.bytes))=some (some (.agg #[.int .i64 0,.int .i64 0]),2,16):=by kernel_rfl
theorem aiX:(Tryd.prog.info? 137).map (·.size)=some 2:=by kernel_rfl
variable {P:Program}
theorem adF(w : World) (dT sT ty elem : TypeId) (sz g o ae ag : Nat) (a : Addr) (af ai : Nat) (cur : Array Value) (t : TypeId) (cs : List Value) (n : Nat)
 (hu:P.underlying dT=some (.slice elem)) (hs:(P.info? elem).map (·.size)=some sz)
 (hg:w.heap[g]?=some (.cells cur t (0,0))) (hn:n=Nat.min af ae) (ao:cs.length=n * sz)
 (an:∀j v,cs[j]?=some v->w.cell? (a.add j)=some v) (al:o+cs.length<=cur.size) (h1:∀v∈cs,v.oneCell'=true) :
 (Builtin.copy_ #[dT,sT] ty #[.slice (some ⟨g,o,none⟩) ae ag,.slice (some a) af ai]).run P w =
   .ok (goInt n) (w.setRow g (cur.toList.take o++cs++cur.toList.drop (o+cs.length)).toArray):=by
 have hl:=run_loadCells_list (P:=P) w a cs an;have aO:=run_storeCells_at P g o t cs 0 cur w hg (by simpa using al) h1;rw [ao] at hl;cases hq:P.info? elem with
 | none=>simp [hq] at hs
 | some i =>
   have hi:i.size=sz:=by simpa [hq] using hs
   simp [Builtin.copy_,run_underlying hu,Builtin.lenOf,Builtin.firstCells,sizeOf,typeInfo,hq,hi,<-hn,hl,aO]
theorem ac9(w:World)(dT sT ty elem:TypeId)(sz:Nat)(d a:Option Addr)(ae ag af ai:Nat)(hu:P.underlying dT=some (.slice elem))(hs:(P.info? elem).map (·.size)=some sz)(hn:Nat.min af ae=0) :
 (Builtin.copy_ #[dT,sT] ty #[.slice d ae ag,.slice a af ai]).run P w = .ok (goInt 0) w:=by
 cases hq:P.info? elem with
 | none=>simp [hq] at hs
 | some i =>
   have hl:∀(x:Addr),(loadCells x 0).run P w = .ok #[] w:=fun x=>by simpa using run_loadCells_list (P:=P) w x [] (by simp)
   cases d <;> cases a <;> simp [Builtin.copy_,run_underlying hu,Builtin.lenOf,Builtin.firstCells,sizeOf,typeInfo,hq,hn,storeCells,hl]
theorem adm {P : Program} {w : World} {ops : Array Oper} {rest : List Oper} {o : Oper} {a : Act} {Q : Exit -> Act -> World -> Prop} (ax : o.guard = none) (d s : Operand) (dT sT : TypeId)
 (ho:o.op = .call { callee := .builtin .copy,args:=#[d,s],argTypes:=#[dT,sT] }) (elem:TypeId) (hu:P.underlying dT=some (.slice elem)) (sz:Nat) (av:(P.info? elem).map (·.size)=some sz)
 (dp sp:Option Addr) (ae ag af ai:Nat) (hd:a.eval d = .slice dp ae ag) (hs:a.eval s = .slice sp af ai)
 (g off:Nat) (cur:List Value) (t:TypeId) (hg:w.heap[g]?=some (.cells cur.toArray t (0,0))) (n:Nat) (hn:n=Nat.min af ae) (cs:List Value) (ao:cs.length=n * sz)
 (aq:0<n->dp=some ⟨g,off,none⟩∧∃ad,sp=some ad∧∀j v,cs[j]?=some v->w.cell? (ad.add j)=some v)
 (al:off+cs.length<=cur.length) (h1:∀v∈cs,v.oneCell'=true) (B:Nat) (w0:World) (hb:Below B w0 w) (aw:B<=g)
 (h:∀w',Hid (w'.heap[g]?=some (.cells (splice cur off cs).toArray t (0,0)))->Below B w0 w'->wpList P ops Q rest (a.put o.dst (goInt n)) w') :
 wpList P ops Q (o :: rest) a w:=by
 refine wpList_plain ax fun K hK=>?_
 by_cases h0:n=0
 . subst h0
   obtain rfl:cs=[]:=Abm (by rw [ao,Aa5]);have aj:=ac9 (P:=P) w dT sT o.type elem sz dp sp ae ag af ai hu av hn.symm;unfold Oper.wp;simp [execOp,ho,resolve,invoke,builtin,hd,hs,aj,Result.andThen];exact hK _ _ (h w (show _=_ by simpa [splice] using hg) hb)
 . obtain⟨rfl,ad,rfl,an⟩:=aq (by omega)
   have aj:=adF (P:=P) w dT sT o.type elem sz g off ae ag ad af ai cur.toArray t cs n hu av hg hn ao an (by simpa using al) h1;unfold Oper.wp;simp [execOp,ho,resolve,invoke,builtin,hd,hs,aj,Result.andThen];exact hK _ _ (h _ (show _=_ by simpa [splice] using setRow_heap w g _ _ t _ hg) (below_setRow hb aw _))
theorem adX {P : Program} {ops : Array Oper} {o : Oper} {a : Act} {w : World} {K : Act -> World -> Prop} {Q : Exit -> Act -> World -> Prop} {E : Prop} (ax : o.guard = none) (d s : Operand) (dT sT : TypeId)
 (ho:o.op = .call { callee := .builtin .copy,args:=#[d,s],argTypes:=#[dT,sT] }) (elem:TypeId) (hu:P.underlying dT=some (.slice elem)) (sz:Nat) (av:(P.info? elem).map (·.size)=some sz)
 (dp sp:Option Addr) (ae ag af ai:Nat) (hd:a.eval d = .slice dp ae ag) (hs:a.eval s = .slice sp af ai)
 (g off:Nat) (cur:List Value) (t:TypeId) (hg:w.heap[g]?=some (.cells cur.toArray t (0,0))) (n:Nat) (hn:n=Nat.min af ae) (cs:List Value) (ao:cs.length=n * sz)
 (aq:0<n->dp=some ⟨g,off,none⟩∧∃ad,sp=some ad∧∀j v,cs[j]?=some v->w.cell? (ad.add j)=some v)
 (al:off+cs.length<=cur.length) (h1:∀v∈cs,v.oneCell'=true) (B:Nat) (w0:World) (hb:RowKit.Below B w0 w) (aw:B<=g)
 (h:∀w',RowKit.Hid (w'.heap[g]?=some (.cells (splice cur off cs).toArray t (0,0)))->RowKit.Below B w0 w'->K (a.put o.dst (goInt n)) w') :
 if Region.wanted o (yielded ops a.tmps)=true then Oper.wp P o a w K Q else E:=by
 have hw:Region.wanted o (yielded ops a.tmps)=true:=by simp [Region.wanted,ax]
 rw [if_pos hw]
 by_cases h0:n=0
 . subst h0
   obtain rfl:cs=[]:=Abm (by rw [ao,Aa5]);have aj:=ac9 (P:=P) w dT sT o.type elem sz dp sp ae ag af ai hu av hn.symm;unfold Oper.wp;simp [execOp,ho,resolve,invoke,builtin,hd,hs,aj,Result.andThen];exact h w (show _=_ by simpa [splice] using hg) hb
 . obtain⟨rfl,ad,rfl,an⟩:=aq (by omega)
   have aj:=adF (P:=P) w dT sT o.type elem sz g off ae ag ad af ai cur.toArray t cs n hu av hg hn ao an (by simpa using al) h1;unfold Oper.wp;simp [execOp,ho,resolve,invoke,builtin,hd,hs,aj,Result.andThen];exact h _ (show _=_ by simpa [splice] using setRow_heap w g _ _ t _ hg) (below_setRow hb aw _)
def pairs(n:Nat)(x y:Value):List Value:=(List.replicate n [x,y]).flatten
theorem aaJ(n:Nat)(x y:Value):(pairs n x y).length=n * 2:=by
 unfold pairs
 induction n with
 | zero=>rfl
 | succ n ih=>rw [List.replicate_succ,Abb,Aak,ih];simp;omega
theorem aeI(m n:Nat)(x y:Value):pairs (m+n) x y=pairs m x y++pairs n x y:=by
 unfold pairs;rw [<-List.replicate_append_replicate,List.flatten_append]
variable {n:Nat}{x y:Value}
theorem agA{v:Value}(h:v∈pairs n x y):v=x∨v=y:=by
 unfold pairs at h;obtain⟨l,hl,hv⟩:=List.mem_flatten.1 h;rw [Abd hl] at hv;simpa using hv
theorem akm:∀{n i:Nat},i<n->(pairs n x y)[i * 2]?=some x∧(pairs n x y)[i * 2+1]?=some y:=by
 intro n
 induction n with
 | zero=>intro i hi;omega
 | succ n ih =>
   intro i hi;have e:pairs (n+1) x y=x :: y :: pairs n x y:=by unfold pairs;rw [List.replicate_succ];rfl
   rw [e];cases i with
   | zero=>exact⟨rfl,rfl⟩
   | succ i =>
     rw [show (i+1) * 2=i * 2+2 by omega,show i * 2+2+1=i * 2+1+2 by omega];exact ih (by omega)
theorem ajd{m:Nat}(h:m<=n){j:Nat}(hj:j<m * 2):(pairs n x y)[j]?=(pairs m x y)[j]?:=by
 obtain⟨k,rfl⟩:∃k,n=m+k:=⟨n - m,by omega⟩
 rw [aeI,Abh (by rw [aaJ];exact hj)]
theorem aea{z u:Value}{m c:Nat}(h:m+c<=n):splice (pairs m x y++pairs (n - m) z u) (m * 2) (pairs c x y)=pairs (m+c) x y++pairs (n - (m+c)) z u:=by
 unfold splice;have h1:(pairs m x y++pairs (n - m) z u).take (m * 2)=pairs m x y:=by
  rw [List.take_append_of_le_length (by rw [aaJ];exact Aad _),List.take_of_length_le (by rw [aaJ];exact Aad _)]
 have h2:(pairs m x y++pairs (n - m) z u).drop (m * 2+(pairs c x y).length)=pairs (n - (m+c)) z u:=by
  rw [aaJ,show n - m=c+(n - (m+c)) by omega,aeI,<-Aa9];have e:(pairs m x y++pairs c z u).length=m * 2+c * 2:=by rw [Aak,aaJ,aaJ]
  rw [List.drop_append_of_le_length (by rw [e];exact Aad _),List.drop_of_length_le (by rw [e];exact Aad _)];rfl
 rw [h1,h2,aeI,Aa9]
theorem aeF(x y:Value)(n:Nat):madeCells #[x,y] (n * 2)=(pairs n x y).toArray:=by
 apply Array.ext
 . simp [madeCells,aaJ]
 . intro i h1 h2
   rw [size_madeCells] at h1;obtain⟨k,hk⟩:∃k,k=i / 2:=⟨_,rfl⟩
   have aK:k<n:=by omega
   obtain⟨p0,p1⟩:=akm (x:=x) (y:=y) aK;have e:(pairs n x y).toArray[i]?=some ((pairs n x y).toArray[i]):=Array.getElem?_eq_getElem h2;rw [List.getElem?_toArray] at e
   by_cases hm:i=k * 2
   . clear hk
     subst hm;rw [p0] at e;rw [<-Option.some.inj e];simp [madeCells,Nat.mul_mod_left]
   . have aM:i=k * 2+1:=by omega
     clear hk hm;subst aM;rw [p1] at e;rw [<-Option.some.inj e];simp [madeCells,Nat.add_mod,Nat.mul_mod_left]
theorem ae6(t e:TypeId)(z0 z1:Value)(bytes:Nat)(ht:P.underlying t=some (.slice e))(ak:(P.info? e).map (fun i=>(i.zero,i.size,i.bytes))=some (some (.agg #[z0,z1]),2,bytes))(h0:(Value.agg #[z0,z1]).cells=#[z0,z1])(kl kc:IntKind)(n:Nat)(hb:(bytes:Int) * n<=281474976710656)(aG:(n:Int)<=9223372036854775807)(w:World) :
 (Instr.makeSlice t (.int kl (n:Int)) (.int kc (n:Int))).run P w = .ok (.slice (some ⟨w.heap.size,0,none⟩) n n) (w.alloc (.cells (pairs n z0 z1).toArray e)):=by
 cases hq:P.info? e with
 | none=>simp [hq] at ak
 | some i =>
   rw [hq] at ak;simp only [Option.map_some,Option.some.injEq,Prod.mk.injEq] at ak;obtain⟨hz,hs,aH⟩:=ak;have h:=run_make (P:=P) w t e i _ ht hq hz kl kc (n:Int) (n:Int) (by omega) (Int.le_refl _) (by rw [aH];exact hb) aG;rw [h0,hs,Aag,aeF] at h;exact h
set_option maxRecDepth 100000 in
set_option maxHeartbeats 1000000 in
theorem adV(ad:Addr)(c:Nat)(x y:Int)(n:Nat)(hn:n<=1048576)(w:World)(hx:w.cell? (ad.add 0)=some (.int .i64 x))(hy:w.cell? (ad.add 1)=some (.int .i64 y)) :
 Calls Tryd.prog 59 #[.slice (some ad) 1 c,.int .i64 (n:Int)] w fun e w' =>
  ∃g,e = .returned (.slice (some ⟨g,0,none⟩) n n)∧w.heap.size<=g∧w'.heap[g]?=some (.cells (pairs n (.int .i64 x) (.int .i64 y)).toArray 137 (0,0))∧Below w.heap.size w w':=by
 have aN:=ae6 (P:=Tryd.prog) 134 137 (.int .i64 0) (.int .i64 0) 16 Tryd.underlying134 ak8 rfl .i64 .i64 n (by omega) (by omega);have Hx:=hid hx;have Hy:=hid hy;have aX:IntKind.u64.wrap (n:Int)=(n:Int):=by rw [IntKind.wrap_u64];omega
 have aU:decide ((n:Int)<0)=false:=decide_eq_false (by omega);have aV:decide (9223372036854775807<(n:Int))=false:=decide_eq_false (by omega);clear hx hy;go_enter Tryd.func59,Tryd.ntmps59;have az:(ad.add 0).block<w.heap.size:=World.block_lt_of_cell? w _ Hx.out;have aA:(ad.add 1).block<w.heap.size:=World.block_lt_of_cell? w _ Hy.out
 go_wp2_with (first
  | (go_at_call 82; (with_reducible refine (afm n hn w).mono ?_); rintro e w' ⟨rfl, rfl⟩)
  | (with_reducible refine adm rfl (.tmp 31) (.tmp 32) 134 134 rfl 137 Tryd.underlying134 2 aiX _ _ n n 1 c rfl rfl w.heap.size 0 (pairs n (.int .i64 0) (.int .i64 0)) 137 ?_ (min 1 n) rfl (pairs (min 1 n) (.int .i64 x) (.int .i64 y)) (aaJ _ _ _) ?_ ?_ ?_ w.heap.size w ?_ (Aad _) ?_
     . exact heap_alloc_new _ _
     . intro h0
       refine ⟨rfl, ad, rfl, fun j v hj => ?_⟩
       rw [show min 1 n = 1 by omega] at hj
       match j, hj with
       | 0, hj => cases hj; exact ((Below.alloc (Below.refl w.heap.size w) (Aad _) _).cell az).trans Hx.out
       | 1, hj => cases hj; exact ((Below.alloc (Below.refl w.heap.size w) (Aad _) _).cell aA).trans Hy.out
       | j + 2, hj => cases hj
     . rw [aaJ, aaJ]; omega
     . intro v hv; rcases agA hv with rfl | rfl <;> rfl
     . exact bE
     intro w2 au ar
     have aE : Hid (w2.heap[w.heap.size]? = some (.cells (pairs (min 1 n) (.int .i64 x) (.int .i64 y) ++ pairs (n - min 1 n) (.int .i64 0) (.int .i64 0)).toArray 137 (0, 0))) := by
      have h := aea (x := .int .i64 x) (y := .int .i64 y) (z := .int .i64 0) (u := .int .i64 0) (m := 0) (n := n) (c := min 1 n) (by omega)
      rw [Aa5, Aac, Nat.sub_zero, show pairs 0 (Value.int .i64 x) (Value.int .i64 y) = [] from rfl, Aa7] at h
      have h2 := au.out
      rw [h] at h2
      exact h2
     have aC := hid ar
     clear au ar az aA))
 clear aN;go_loopw [8] (fun i wr=>∃m:Nat,m<=n∧min 1 n<=m∧i = .int .i64 (m:Int)∧Hid (wr.heap[w.heap.size]?=some (.cells (pairs m (.int .i64 x) (.int .i64 y)++pairs (n - m) (.int .i64 0) (.int .i64 0)).toArray 137 (0,0)))∧Hid (Below w.heap.size w wr)) (fun i _=>n - (intOf i).toNat)
 case atStart=>exact⟨min 1 n,by omega,Aad _,by first | rfl | simp [goInt],aE,aC⟩
 case round =>
  obtain⟨m,hm,aL,rfl,HG,HB⟩:=hrel
  by_cases hlt:m<n
  . have aR:0<m:=by omega
    have aS:¬n=m:=by omega
    have aT:((n:Int) - (m:Int)).toNat=n - m:=by omega
    obtain⟨d,hd⟩:∃d,d=min m (n - m):=⟨_,rfl⟩
    have aP:0<d:=by omega
    have aQ:d<=n - m:=by omega
    have ay:m+d<=n:=by omega
    have aI:d<=m:=by omega
    have Hd:=hid hd;have aW:IntKind.i64.wrap ((m:Int)+(d:Int))=((m+d:Nat):Int):=by rw [IntWalk.i64_in _ (by omega)];simp
    clear hd;clear aL;go_wp2_with fail
    go_region_law
     (refine adX (by rfl) (.tmp 41) (.tmp 44) 134 134 (by rfl) 137 Tryd.underlying134 2 aiX (some ⟨w.heap.size, m * 2, none⟩) (some ⟨w.heap.size, 0, none⟩) (n - m) (n - m) m n ?_ ?_ w.heap.size (m * 2) (pairs m (.int .i64 x) (.int .i64 y) ++ pairs (n - m) (.int .i64 0) (.int .i64 0)) 137 HG.out d Hd.out (pairs d (.int .i64 x) (.int .i64 y)) (aaJ _ _ _) ?_ ?_ ?_ w.heap.size w ?_ (Aad _) ?_
      . simp [go_sem]
      . simp [go_sem]
      . intro _
        refine ⟨rfl, ⟨w.heap.size, 0, none⟩, rfl, fun j v hj => ?_⟩
        have aJ : j < d * 2 := by
         have := (Aae.1 hj).1
         rwa [aaJ] at this
        rw [show (⟨w.heap.size, 0, none⟩ : Addr).add j = ⟨w.heap.size, j, none⟩ by unfold Addr.add; split <;> simp_all]
        refine (aaH (w := _) HG.out).trans ?_
        rw [List.getElem?_toArray, Abh (by rw [aaJ]; omega), ajd aI aJ]
        exact hj
      . rw [Aak, aaJ, aaJ, aaJ]; omega
      . intro v hv; rcases agA hv with rfl | rfl <;> rfl
      . exact HB.out.drew
      intro w2 au ar
      have aF : Hid (w2.heap[w.heap.size]? = some (.cells (pairs (m + d) (.int .i64 x) (.int .i64 y) ++ pairs (n - (m + d)) (.int .i64 0) (.int .i64 0)).toArray 137 (0, 0))) := by
       have h2 := au.out
       have h3 := aea (x := .int .i64 x) (y := .int .i64 y) (z := .int .i64 0) (u := .int .i64 0) (m := m) (n := n) (c := d) ay
       rw [h3] at h2
       exact h2
      have aD := hid ar
      clear au ar)
    all_goals
     go_simp
     (try go_wp2_with fail)
     go_roundw
     case rel=>exact⟨m+d,ay,by omega,by first | rfl | go_num,aF,aD⟩
     case measure=>simp [intOf];omega
  . obtain rfl:m=n:=by omega
    have aB:Hid (wr.heap[w.heap.size]?=some (.cells (pairs m (.int .i64 x) (.int .i64 y)).toArray 137 (0,0))):=by
     have h:=HG.out;rw [Nat.sub_self,show pairs 0 (Value.int .i64 0) (Value.int .i64 0)=[] from rfl,List.append_nil] at h;exact h
    go_wp2_with fail;go_ret;exact⟨w.heap.size,rfl,Aad _,aB.out,HB.out⟩
end Go.Proofs.YtgekbfgplclmeaaDoor
