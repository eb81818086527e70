import Derived.Test.YtpeejlpcikefcaaGreatDoorPKeep
/- slices.Repeat of a list of one pair of numbers (ssa.written). ssa.checker.writes: all registers that a function writes. -/
set_option maxHeartbeats 4000000
set_option maxRecDepth 100000
namespace Go.Proofs.YtpeejlpcikefcaaGreatDoor
section
open Go.RowKit Go.Lib
theorem as0:(Tryz.prog.info? 96).map (fun i=>(i.zero,i.size,i.bytes))=some (some (.agg #[.int .i64 0,.int .i64 0]),2,16):=by kernel_rfl
theorem ap2:(Tryz.prog.info? 96).map (·.size)=some 2:=by kernel_rfl
variable {P:Program}
theorem agb(w : World) (dT sT ty elem : TypeId) (sz g o ah al : Nat) (a : Addr) (ai an : Nat) (cur : Array Value) (t : TypeId) (cs : List Value) (n : Nat)
 (hu:P.underlying dT=some (.slice elem)) (hs:(P.info? elem).map (·.size)=some sz)
 (hg:w.heap[g]?=some (.cells cur t (0,0))) (hn:n=Nat.min ai ah) (ar:cs.length=n * sz)
 (aB:∀j v,cs[j]?=some v->w.cell? (a.add j)=some v) (aC:o+cs.length<=cur.size) (h1:∀v∈cs,v.oneCell'=true) :
 (Builtin.copy_ #[dT,sT] ty #[.slice (some ⟨g,o,none⟩) ah al,.slice (some a) ai an]).run P w =
   .ok (goInt n) (w.setRow g (cur.toList.take o++cs++cur.toList.drop (o+cs.length)).toArray):=by
 have hl:=run_loadCells_list (P:=P) w a cs aB;have af:=run_storeCells_at P g o t cs 0 cur w hg (by simpa using aC) h1;rw [ar] at hl;cases hq:P.info? elem with
 | none=>simp [hq] at hs
 | some i =>
   have hi:i.size=sz:=by simpa [hq] using hs
   simp [Builtin.copy_,run_underlying hu,Builtin.lenOf,Builtin.firstCells,sizeOf,typeInfo,hq,hi,<-hn,hl,af]
theorem aff(w:World)(dT sT ty elem:TypeId)(sz:Nat)(d a:Option Addr)(ah al ai an:Nat)(hu:P.underlying dT=some (.slice elem))(hs:(P.info? elem).map (·.size)=some sz)(hn:Nat.min ai ah=0) :
 (Builtin.copy_ #[dT,sT] ty #[.slice d ah al,.slice a ai an]).run P w = .ok (goInt 0) w:=by
 cases hq:P.info? elem with
 | none=>simp [hq] at hs
 | some i =>
   have hl:∀(x:Addr),(loadCells x 0).run P w = .ok #[] w:=fun x=>by simpa using run_loadCells_list (P:=P) w x [] (by simp)
   cases d <;> cases a <;> simp [Builtin.copy_,run_underlying hu,Builtin.lenOf,Builtin.firstCells,sizeOf,typeInfo,hq,hn,storeCells,hl]
theorem afz {P : Program} {w : World} {ops : Array Oper} {rest : List Oper} {o : Oper} {a : Act} {Q : Exit -> Act -> World -> Prop} (bl : o.guard = none) (d s : Operand) (dT sT : TypeId)
 (ho:o.op = .call { callee := .builtin .copy,args:=#[d,s],argTypes:=#[dT,sT] }) (elem:TypeId) (hu:P.underlying dT=some (.slice elem)) (sz:Nat) (aO:(P.info? elem).map (·.size)=some sz)
 (dp sp:Option Addr) (ah al ai an:Nat) (hd:a.eval d = .slice dp ah al) (hs:a.eval s = .slice sp ai an)
 (g off:Nat) (cur:List Value) (t:TypeId) (hg:w.heap[g]?=some (.cells cur.toArray t (0,0))) (n:Nat) (hn:n=Nat.min ai ah) (cs:List Value) (ar:cs.length=n * sz)
 (aH:0<n->dp=some ⟨g,off,none⟩∧∃ad,sp=some ad∧∀j v,cs[j]?=some v->w.cell? (ad.add j)=some v)
 (aC:off+cs.length<=cur.length) (h1:∀v∈cs,v.oneCell'=true) (B:Nat) (w0:World) (hb:Below B w0 w) (bo:B<=g)
 (h:∀w',Hid (w'.heap[g]?=some (.cells (splice cur off cs).toArray t (0,0)))->Below B w0 w'->wpList P ops Q rest (a.put o.dst (goInt n)) w') :
 wpList P ops Q (o :: rest) a w:=by
 refine wpList_plain bl fun K hK=>?_
 by_cases h0:n=0
 . subst h0
   obtain rfl:cs=[]:=Aba (by rw [ar,Nat.zero_mul]);have av:=aff (P:=P) w dT sT o.type elem sz dp sp ah al ai an hu aO hn.symm;unfold Oper.wp;simp [execOp,ho,resolve,invoke,builtin,hd,hs,av,Result.andThen];exact hK _ _ (h w (show _=_ by simpa [splice] using hg) hb)
 . obtain⟨rfl,ad,rfl,aB⟩:=aH (by omega)
   have av:=agb (P:=P) w dT sT o.type elem sz g off ah al ad ai an cur.toArray t cs n hu aO hg hn ar aB (by simpa using aC) h1;unfold Oper.wp;simp [execOp,ho,resolve,invoke,builtin,hd,hs,av,Result.andThen];exact hK _ _ (h _ (show _=_ by simpa [splice] using setRow_heap w g _ _ t _ hg) (below_setRow hb bo _))
theorem agy {P : Program} {ops : Array Oper} {o : Oper} {a : Act} {w : World} {K : Act -> World -> Prop} {Q : Exit -> Act -> World -> Prop} {E : Prop} (bl : o.guard = none) (d s : Operand) (dT sT : TypeId)
 (ho:o.op = .call { callee := .builtin .copy,args:=#[d,s],argTypes:=#[dT,sT] }) (elem:TypeId) (hu:P.underlying dT=some (.slice elem)) (sz:Nat) (aO:(P.info? elem).map (·.size)=some sz)
 (dp sp:Option Addr) (ah al ai an:Nat) (hd:a.eval d = .slice dp ah al) (hs:a.eval s = .slice sp ai an)
 (g off:Nat) (cur:List Value) (t:TypeId) (hg:w.heap[g]?=some (.cells cur.toArray t (0,0))) (n:Nat) (hn:n=Nat.min ai ah) (cs:List Value) (ar:cs.length=n * sz)
 (aH:0<n->dp=some ⟨g,off,none⟩∧∃ad,sp=some ad∧∀j v,cs[j]?=some v->w.cell? (ad.add j)=some v)
 (aC:off+cs.length<=cur.length) (h1:∀v∈cs,v.oneCell'=true) (B:Nat) (w0:World) (hb:RowKit.Below B w0 w) (bo:B<=g)
 (h:∀w',RowKit.Hid (w'.heap[g]?=some (.cells (splice cur off cs).toArray t (0,0)))->RowKit.Below B w0 w'->K (a.put o.dst (goInt n)) w') :
 if Region.wanted o (yielded ops a.tmps)=true then Oper.wp P o a w K Q else E:=by
 have hw:Region.wanted o (yielded ops a.tmps)=true:=by simp [Region.wanted,bl]
 rw [if_pos hw]
 by_cases h0:n=0
 . subst h0
   obtain rfl:cs=[]:=Aba (by rw [ar,Nat.zero_mul]);have av:=aff (P:=P) w dT sT o.type elem sz dp sp ah al ai an hu aO hn.symm;unfold Oper.wp;simp [execOp,ho,resolve,invoke,builtin,hd,hs,av,Result.andThen];exact h w (show _=_ by simpa [splice] using hg) hb
 . obtain⟨rfl,ad,rfl,aB⟩:=aH (by omega)
   have av:=agb (P:=P) w dT sT o.type elem sz g off ah al ad ai an cur.toArray t cs n hu aO hg hn ar aB (by simpa using aC) h1;unfold Oper.wp;simp [execOp,ho,resolve,invoke,builtin,hd,hs,av,Result.andThen];exact h _ (show _=_ by simpa [splice] using setRow_heap w g _ _ t _ hg) (below_setRow hb bo _)
def pairs(n:Nat)(x y:Value):List Value:=(List.replicate n [x,y]).flatten
theorem abh(n:Nat)(x y:Value):(pairs n x y).length=n * 2:=by
 unfold pairs
 induction n with
 | zero=>rfl
 | succ n ih=>rw [List.replicate_succ,Abz,Aau,ih];simp;omega
theorem aij(m n:Nat)(x y:Value):pairs (m+n) x y=pairs m x y++pairs n x y:=by
 unfold pairs;rw [<-List.replicate_append_replicate,Abu]
variable {n:Nat}{x y:Value}
theorem ald{v:Value}(h:v∈pairs n x y):v=x∨v=y:=by
 unfold pairs at h;obtain⟨l,hl,hv⟩:=List.mem_flatten.1 h;rw [List.eq_of_mem_replicate hl] at hv;simpa using hv
theorem arI:∀{n i:Nat},i<n->(pairs n x y)[i * 2]?=some x∧(pairs n x y)[i * 2+1]?=some y:=by
 intro n
 induction n with
 | zero=>intro i hi;omega
 | succ n ih =>
   intro i hi;have e:pairs (n+1) x y=x :: y :: pairs n x y:=by unfold pairs;rw [List.replicate_succ];rfl
   rw [e];cases i with
   | zero=>exact⟨rfl,rfl⟩
   | succ i =>
     rw [show (i+1) * 2=i * 2+2 by omega,show i * 2+2+1=i * 2+1+2 by omega];exact ih (by omega)
theorem ap3{m:Nat}(h:m<=n){j:Nat}(hj:j<m * 2):(pairs n x y)[j]?=(pairs m x y)[j]?:=by
 obtain⟨k,rfl⟩:∃k,n=m+k:=⟨n - m,by omega⟩
 rw [aij,Abl (by rw [abh];exact hj)]
theorem agN{z u:Value}{m c:Nat}(h:m+c<=n):splice (pairs m x y++pairs (n - m) z u) (m * 2) (pairs c x y)=pairs (m+c) x y++pairs (n - (m+c)) z u:=by
 unfold splice;have h1:(pairs m x y++pairs (n - m) z u).take (m * 2)=pairs m x y:=by
  rw [Aco (by rw [abh];exact Aac _),Abr (by rw [abh];exact Aac _)]
 have h2:(pairs m x y++pairs (n - m) z u).drop (m * 2+(pairs c x y).length)=pairs (n - (m+c)) z u:=by
  rw [abh,show n - m=c+(n - (m+c)) by omega,aij,<-Abh];have e:(pairs m x y++pairs c z u).length=m * 2+c * 2:=by rw [Aau,abh,abh]
  rw [List.drop_append_of_le_length (by rw [e];exact Aac _),List.drop_of_length_le (by rw [e];exact Aac _)];rfl
 rw [h1,h2,aij,Abh]
theorem aik(x y:Value)(n:Nat):madeCells #[x,y] (n * 2)=(pairs n x y).toArray:=by
 apply Array.ext
 . simp [madeCells,abh]
 . intro i h1 h2
   rw [size_madeCells] at h1;obtain⟨k,hk⟩:∃k,k=i / 2:=⟨_,rfl⟩
   have bM:k<n:=by omega
   obtain⟨p0,p1⟩:=arI (x:=x) (y:=y) bM;have e:(pairs n x y).toArray[i]?=some ((pairs n x y).toArray[i]):=Array.getElem?_eq_getElem h2;rw [Ab8] at e
   by_cases hm:i=k * 2
   . clear hk
     subst hm;rw [p0] at e;rw [<-Option.some.inj e];simp [madeCells,Nat.mul_mod_left]
   . have bG:i=k * 2+1:=by omega
     clear hk hm;subst bG;rw [p1] at e;rw [<-Option.some.inj e];simp [madeCells,Nat.add_mod,Nat.mul_mod_left]
theorem aiz(t e:TypeId)(z0 z1:Value)(bytes:Nat)(ht:P.underlying t=some (.slice e))(aw:(P.info? e).map (fun i=>(i.zero,i.size,i.bytes))=some (some (.agg #[z0,z1]),2,bytes))(h0:(Value.agg #[z0,z1]).cells=#[z0,z1])(kl kc:IntKind)(n:Nat)(hb:(bytes:Int) * n<=281474976710656)(bF:(n:Int)<=9223372036854775807)(w:World) :
 (Instr.makeSlice t (.int kl (n:Int)) (.int kc (n:Int))).run P w = .ok (.slice (some ⟨w.heap.size,0,none⟩) n n) (w.alloc (.cells (pairs n z0 z1).toArray e)):=by
 cases hq:P.info? e with
 | none=>simp [hq] at aw
 | some i =>
   rw [hq] at aw;simp only [Aaw,Option.some.injEq,Prod.mk.injEq] at aw;obtain⟨hz,hs,bD⟩:=aw;have h:=run_make (P:=P) w t e i _ ht hq hz kl kc (n:Int) (n:Int) (by omega) (Int.le_refl _) (by rw [bD];exact hb) bF;rw [h0,hs,Aan,aik] at h;exact h
theorem agz(ad:Addr)(c:Nat)(x y:Int)(n:Nat)(hn:n<=1048576)(w:World)(hx:w.cell? (ad.add 0)=some (.int .i64 x))(hy:w.cell? (ad.add 1)=some (.int .i64 y)) :
 Calls Tryz.prog 48 #[.slice (some ad) 1 c,.int .i64 (n:Int)] w fun e w' =>
  ∃g,e = .returned (.slice (some ⟨g,0,none⟩) n n)∧w.heap.size<=g∧w'.heap[g]?=some (.cells (pairs n (.int .i64 x) (.int .i64 y)).toArray 96 (0,0))∧Below w.heap.size w w':=by
 have bR:=aiz (P:=Tryz.prog) 93 96 (.int .i64 0) (.int .i64 0) 16 Tryz.underlying93 as0 rfl .i64 .i64 n (by omega) (by omega);have Hx:=hid hx;have Hy:=hid hy;have b9:IntKind.u64.wrap (n:Int)=(n:Int):=by rw [IntKind.wrap_u64];omega
 have cb:decide ((n:Int)<0)=false:=decide_eq_false (by omega);have b0:decide (9223372036854775807<(n:Int))=false:=decide_eq_false (by omega);clear hx hy;go_enter Tryz.func48,Tryz.ntmps48;have bt:(ad.add 0).block<w.heap.size:=World.block_lt_of_cell? w _ Hx.out;have bw:(ad.add 1).block<w.heap.size:=World.block_lt_of_cell? w _ Hy.out
 go_wp2_with (first
  | (go_at_call 76; (with_reducible refine (aiO n hn w).mono ?_); rintro e w' ⟨rfl, rfl⟩)
  | (with_reducible refine afz rfl (.tmp 31) (.tmp 32) 93 93 rfl 96 Tryz.underlying93 2 ap2 _ _ n n 1 c rfl rfl w.heap.size 0 (pairs n (.int .i64 0) (.int .i64 0)) 96 ?_ (min 1 n) rfl (pairs (min 1 n) (.int .i64 x) (.int .i64 y)) (abh _ _ _) ?_ ?_ ?_ w.heap.size w ?_ (Aac _) ?_
     . exact heap_alloc_new _ _
     . intro h0
       refine ⟨rfl, ad, rfl, fun j v hj => ?_⟩
       rw [show min 1 n = 1 by omega] at hj
       match j, hj with
       | 0, hj => cases hj; exact ((Below.alloc (Below.refl w.heap.size w) (Aac _) _).cell bt).trans Hx.out
       | 1, hj => cases hj; exact ((Below.alloc (Below.refl w.heap.size w) (Aac _) _).cell bw).trans Hy.out
       | j + 2, hj => cases hj
     . rw [abh, abh]; omega
     . intro v hv; rcases ald hv with rfl | rfl <;> rfl
     . exact bE
     intro w2 a1 aW
     have bN : Hid (w2.heap[w.heap.size]? = some (.cells (pairs (min 1 n) (.int .i64 x) (.int .i64 y) ++ pairs (n - min 1 n) (.int .i64 0) (.int .i64 0)).toArray 96 (0, 0))) := by
      have h := agN (x := .int .i64 x) (y := .int .i64 y) (z := .int .i64 0) (u := .int .i64 0) (m := 0) (n := n) (c := min 1 n) (by omega)
      rw [Nat.zero_mul, Aab, Nat.sub_zero, show pairs 0 (Value.int .i64 x) (Value.int .i64 y) = [] from rfl, Abg] at h
      have h2 := a1.out
      rw [h] at h2
      exact h2
     have bP := hid aW
     clear a1 aW bt bw))
 clear bR;go_loopw [8] (fun i wr=>∃m:Nat,m<=n∧min 1 n<=m∧i = .int .i64 (m:Int)∧Hid (wr.heap[w.heap.size]?=some (.cells (pairs m (.int .i64 x) (.int .i64 y)++pairs (n - m) (.int .i64 0) (.int .i64 0)).toArray 96 (0,0)))∧Hid (Below w.heap.size w wr)) (fun i _=>n - (intOf i).toNat)
 case atStart=>exact⟨min 1 n,by omega,Aac _,by first | rfl | simp [goInt],bN,bP⟩
 case round =>
  obtain⟨m,hm,bU,rfl,HG,HB⟩:=hrel
  by_cases hlt:m<n
  . have b8:0<m:=by omega
    have b3:¬n=m:=by omega
    have ca:((n:Int) - (m:Int)).toNat=n - m:=by omega
    obtain⟨d,hd⟩:∃d,d=min m (n - m):=⟨_,rfl⟩
    have aL:0<d:=by omega
    have b1:d<=n - m:=by omega
    have br:m+d<=n:=by omega
    have bX:d<=m:=by omega
    have Hd:=hid hd;have b6:IntKind.i64.wrap ((m:Int)+(d:Int))=((m+d:Nat):Int):=by rw [IntWalk.i64_in _ (by omega)];simp
    clear hd;clear bU;go_wp2_with fail
    go_region_law
     (refine agy (by rfl) (.tmp 41) (.tmp 44) 93 93 (by rfl) 96 Tryz.underlying93 2 ap2 (some ⟨w.heap.size, m * 2, none⟩) (some ⟨w.heap.size, 0, none⟩) (n - m) (n - m) m n ?_ ?_ w.heap.size (m * 2) (pairs m (.int .i64 x) (.int .i64 y) ++ pairs (n - m) (.int .i64 0) (.int .i64 0)) 96 HG.out d Hd.out (pairs d (.int .i64 x) (.int .i64 y)) (abh _ _ _) ?_ ?_ ?_ w.heap.size w ?_ (Aac _) ?_
      . simp [go_sem]
      . simp [go_sem]
      . intro _
        refine ⟨rfl, ⟨w.heap.size, 0, none⟩, rfl, fun j v hj => ?_⟩
        have bT : j < d * 2 := by
         have := (Aad.1 hj).1
         rwa [abh] at this
        rw [show (⟨w.heap.size, 0, none⟩ : Addr).add j = ⟨w.heap.size, j, none⟩ by unfold Addr.add; split <;> simp_all]
        refine (aaW (w := _) HG.out).trans ?_
        rw [Ab8, Abl (by rw [abh]; omega), ap3 bX bT]
        exact hj
      . rw [Aau, abh, abh, abh]; omega
      . intro v hv; rcases ald hv with rfl | rfl <;> rfl
      . exact HB.out.drew
      intro w2 a1 aW
      have bO : Hid (w2.heap[w.heap.size]? = some (.cells (pairs (m + d) (.int .i64 x) (.int .i64 y) ++ pairs (n - (m + d)) (.int .i64 0) (.int .i64 0)).toArray 96 (0, 0))) := by
       have h2 := a1.out
       have h3 := agN (x := .int .i64 x) (y := .int .i64 y) (z := .int .i64 0) (u := .int .i64 0) (m := m) (n := n) (c := d) br
       rw [h3] at h2
       exact h2
      have bV := hid aW
      clear a1 aW)
    all_goals
     go_simp
     (try go_wp2_with fail)
     go_roundw
     case rel=>exact⟨m+d,br,by omega,by first | rfl | go_num,bO,bV⟩
     case measure=>simp [intOf];omega
  . obtain rfl:m=n:=by omega
    have bW:Hid (wr.heap[w.heap.size]?=some (.cells (pairs m (.int .i64 x) (.int .i64 y)).toArray 96 (0,0))):=by
     have h:=HG.out;rw [Nat.sub_self,show pairs 0 (Value.int .i64 0) (Value.int .i64 0)=[] from rfl,Ab5] at h;exact h
    go_wp2_with fail;go_ret;exact⟨w.heap.size,rfl,Aac _,bW.out,HB.out⟩
end
section
open Go.RowKit
def amV(t:List (Int×Int)):Array Value:=(t.flatMap fun p=>[Value.int .i64 p.1,Value.int .i64 p.2]).toArray
theorem ale : ∀ (t : List (Int × Int)) (i : Nat), (t.flatMap fun p => [Value.int .i64 p.1, Value.int .i64 p.2])[i]? = (t[i / 2]?).map fun p => if i % 2 = 0 then Value.int .i64 p.1 else Value.int .i64 p.2
 | [],i=>by simp
 | p :: t,0=>rfl
 | p :: t,1=>rfl
 | p :: t,i+2=>by
   have h:=ale t i;rw [List.flatMap_cons,show (i+2) / 2=i / 2+1 by omega,Ab4,show (i+2) % 2=i % 2 by omega,<-h];rfl
theorem ahf(t:List (Int×Int))(i:Nat):(amV t)[i]?=(t[i / 2]?).map fun p=>if i % 2=0 then Value.int .i64 p.1 else Value.int .i64 p.2:=by
 unfold amV;rw [Ab8,ale]
theorem ajR {t:List (Int×Int)}{r:Nat}(hr:r<t.length):(amV t)[r * 2]?=some (.int .i64 t[r].1)∧(amV t)[r * 2+1]?=some (.int .i64 t[r].2):=by
 rw [ahf,ahf,show r * 2 / 2=r by omega,show (r * 2+1) / 2=r by omega,Aaa hr];refine⟨?_,?_⟩
 . rw [show r * 2 % 2=0 by omega];rfl
 . rw [show (r * 2+1) % 2=1 by omega];rfl
theorem ap4(t:List (Int×Int)):(amV t).size=t.length * 2:=by
 unfold amV;rw [Abo]
 induction t with
 | nil=>rfl
 | cons p t ih=>rw [List.flatMap_cons,Aau,ih,Aa8];simp;omega
theorem arJ {t:List (Int×Int)}{r:Nat}(hr:r<t.length)(b a:Int):((amV t).setIfInBounds (r * 2) (.int .i64 b)).setIfInBounds (r * 2+1) (.int .i64 a)=amV (t.set r (b,a)):=by
 apply Array.ext_getElem?;intro i;have hz:=ap4 t;rw [Acr,Acr,ahf,ahf,Aa6]
 by_cases h1:r * 2+1=i
 . subst h1
   rw [if_pos rfl,if_pos (by simp [hz];omega),if_pos (by omega),if_pos hr];rw [show (r * 2+1) % 2=1 by omega];rfl
 . rw [if_neg h1]
   by_cases h2:r * 2=i
   . subst h2
     rw [if_pos rfl,if_pos (by omega),if_pos (by omega),if_pos hr];rw [show r * 2 % 2=0 by omega];rfl
   . rw [if_neg h2,if_neg (by omega)]
theorem arK(n:Nat)(x y:Int):amV (List.replicate n (x,y))=(pairs n (.int .i64 x) (.int .i64 y)).toArray:=by
 unfold amV pairs
 congr 1
 induction n with
 | zero=>rfl
 | succ n ih=>rw [List.replicate_succ,List.replicate_succ,List.flatMap_cons,Abz,ih]
structure agV (w W:World)(RB:Nat)(t:List (Int×Int)):Prop where
 grown:w.grownBy W (some RB)
 row:W.heap[RB]?=some (.cells (amV t) 96 (0,0))
section
variable {w W W' : World} {RB : Nat} {t : List (Int × Int)}
theorem agV.cell(h:agV w W RB t){b o:Nat}{v:Value}(hc:w.cell? ⟨b,o,none⟩=some v)(hb:b≠RB):W.cell? ⟨b,o,none⟩=some v:=h.grown.cell (a:=⟨b,o,none⟩) hc (fun e=>hb (Option.some.inj e))
theorem agV.sl {α:Type}{r:Rp α}(hr:r.Mono){S:Nat->Prop}{sz:Nat}{v:Value}{l:List α}(h:agV w W RB t)(hS:∀b,S b->b≠RB)(hs:SlAt S w sz r v l):SlAt S W sz r v l :=
 hs.mono hr (fun _ h=>h) (acI fun b hb hl=>h.grown.block b hl (fun e=>hS b hb (Option.some.inj e)))
theorem agV.grow(h:agV w W RB t)(hb:Below W.heap.size W W'):agV w W' RB t:=by
 have hR:=(Aag.1 h.row).1;exact⟨h.grown.trans ⟨hb.os,hb.tape,hb.output,hb.size,fun b h1 _=>hb.block b h1⟩,(hb.block RB hR).trans h.row⟩
theorem agV.at0(h:agV w W RB t){r:Nat}(hr:r<t.length):W.cell? ⟨RB,r * 2,none⟩=some (.int .i64 t[r].1):=by rw [aaW h.row];exact (ajR hr).1
theorem agV.at1(h:agV w W RB t){r:Nat}(hr:r<t.length):W.cell? ⟨RB,r * 2+1,none⟩=some (.int .i64 t[r].2):=by rw [aaW h.row];exact (ajR hr).2
theorem agV.fz(h:agV w W RB t)(o:Nat):W.frozen? ⟨RB,o,none⟩=false:=by simp [World.frozen?,h.row]
theorem ail(W:World)(b o:Nat)(v:Value):W.grownBy (W.setCell ⟨b,o,none⟩ v) (some b) :=
 ⟨rfl,rfl,rfl,by simp [World.setCell],fun k _ hk=>Below.heap_setCell _ _ _ _ (fun e=>hk (by rw [e]))⟩
end
theorem aim {t:List (Int×Int)}{r:Nat}(hr:r<t.length):t.getD r (-1,-1)=t[r]:=by rw [Aaf,Aaa hr];rfl
theorem ajS {w W:World}{CB RB n cap:Nat}{s:WSt}(h:agV w W RB s.1)(hc:w.cell? ⟨CB,5,none⟩=some (.slice (some ⟨RB,0,none⟩) n cap))(aK:CB≠RB)(hl:s.1.length=n)(hn:n<=1048576){r:Nat}(hr:r<n)(b a:Int) :
 Calls Tryz.prog 79 #[.pointer (some ⟨CB,0,none⟩),.int .i64 (r:Int),.int .i64 b,.int .i64 a] W fun e W' =>
  e = .returned (.bool (!decide (0<=(s.1.getD r (-1,-1)).1)))∧agV w W' RB (wrF s (r:Int) b a).1∧W.grownBy W' (some RB):=by
 have aN:r<s.1.length:=by omega
 refine (ap1 CB RB n cap r b a _ _ W (h.cell hc aK) (h.at0 aN) (h.at1 aN) (h.fz _) (h.fz _) hr hn).mono ?_;rintro e W' ⟨rfl,rfl⟩;rw [aim aN];refine⟨rfl,?_⟩;unfold wrF;rw [Aan,aim aN]
 by_cases hx:0<=s.1[r].1
 . rw [if_pos hx,if_pos hx]
   exact⟨h,World.grownBy.refl _ _⟩
 . rw [if_neg hx,if_neg hx]
   have hg:=(ail W RB (r * 2) (.int .i64 b)).trans (ail _ RB (r * 2+1) (.int .i64 a));exact⟨⟨h.grown.trans hg,by rw [aak (aak h.row _) _,arJ aN]⟩,hg⟩
theorem as1(s:WSt)(r:Nat)(b a:Int):(wrF s (r:Int) b a).2=((!decide (0<=(s.1.getD r (-1,-1)).1))&&s.2):=by
 unfold wrF;rw [Aan]
 by_cases hx:0<=(s.1.getD r (-1,-1)).1
 . rw [if_pos hx,decide_eq_true hx];rfl
 . rw [if_neg hx,decide_eq_false hx];simp
theorem anU {S : Nat -> Prop} (CB RB cap : Nat) (ba : Option Addr) (bc : Nat) (f : aav) (w : World) (hf : ar0 f) (hS : ∀ b, S b -> b ≠ RB) (hb : SlAt S w 6 aa2 (.slice ba f.blocks.length bc) f.blocks)
 (c1:w.cell? ⟨CB,1,none⟩=some (.int .i64 f.params)) (c3:w.cell? ⟨CB,3,none⟩=some (.slice ba f.blocks.length bc)) (c5:w.cell? ⟨CB,5,none⟩=some (.slice (some ⟨RB,0,none⟩) f.regs.toNat cap)) (aK:CB≠RB)
 (aF:w.heap[RB]?=some (.cells (amV (List.replicate f.regs.toNat (-1,-1))) 96 (0,0))) :
 Calls Tryz.prog 50 #[.pointer (some ⟨CB,0,none⟩)] w fun e w'=>e = .returned (.bool (acG f).2)∧agV w w' RB (acG f).1:=by
 have Hf:=hid hf;have HS:=hid hS;have Hb:=hid hb;have C3:=hid c3;have C5:=hid c5;have zC:CB<w.heap.size:=aac c1;obtain⟨n,hn⟩:∃n,n=f.regs.toNat:=⟨_,rfl⟩
 rw [<-hn] at C5 aF;have bu:=hf.pr;obtain⟨P,hP⟩:=Abc bu.1;have b4:n<=100:=by omega
 have bY:P<=n:=by omega
 rw [hP] at c1;have Hn:=hid hn;have HP:=hid hP;have h0:agV w w RB (List.replicate n (-1,-1)):=⟨World.grownBy.refl _ _,aF⟩
 have H0:=hid h0;clear hf hS hb c3 c5 hn bu hP aF h0;go_enter Tryz.func50,Tryz.ntmps50;go_wp2_with fail;go_loopw [3,16] (fun s3 s16 wr=>∃(k:Nat) (s:WSt),k<=P∧s3 = .bool s.2∧s16 = .int .i64 k∧s=ah5 k (List.replicate n (-1,-1),true)∧agV w wr RB s.1) (fun _ s16 _=>P - (intOf s16).toNat)
 case atStart=>exact⟨0,(List.replicate n (-1,-1),true),Aaj _,rfl,rfl,rfl,H0.out⟩
 case round =>
  obtain⟨k,s,hk,rfl,rfl,hs,af⟩:=hrel;have ax:=hid af;have aq:s.1.length=n:=by rw [hs,agt,Ab1]
  by_cases hkP:k<P
  . have aj:=ajS af C5.out aK aq (by omega) (r:=k) (by omega) 0 (-1)
    have ag:=hid aj;obtain⟨q,hq⟩:∃q,q=(!decide (0<=(s.1.getD k (-1,-1)).1)):=⟨_,rfl⟩
    have aE:Hid ((wrF s (k:Int) 0 (-1)).2=(q&&s.2)):=by show _=_;rw [as1,hq]
    have Hs:Hid (ah5 (k+1) (List.replicate n (-1,-1),true)=wrF s (k:Int) 0 (-1)):=by show _=_;rw [ah5,hs]
    rw [<-hq] at ag;obtain⟨s1,s2⟩:=s;clear af hs aq aj hq;cases q with
    | true =>
      go_wp2_with (first | (go_at_call 79;refine (ag.out).mono ?_;rintro e w3 ⟨rfl,ae,-⟩;have ak:=hid ae;clear ae));go_roundw
      case rel=>exact⟨k+1,wrF (s1,s2) (k:Int) 0 (-1),by omega,by rw [aE.out];rfl,by go_num,Hs.out.symm,ak.out⟩
      case measure=>simp [intOf];omega
    | false =>
      go_wp2_with (first | (go_at_call 79;refine (ag.out).mono ?_;rintro e w3 ⟨rfl,ae,-⟩;have ak:=hid ae;clear ae));go_roundw
      case rel=>exact⟨k+1,wrF (s1,s2) (k:Int) 0 (-1),by omega,by rw [aE.out];rfl,by go_num,Hs.out.symm,ak.out⟩
      case measure=>simp [intOf];omega
  . have aM:k=P:=by omega
    have Hs:Hid (acL f.blocks f.blocks.length s=acG f):=by
     show _=_;unfold acG;rw [hs,aM,HP.out,Aan,Hn.out]
    have c3:=ax.out.cell C3.out aK;have b7:CB<wr.heap.size:=aac c3;have aA:=hid aq;obtain⟨bs,a6⟩:∃bs,bs=f.blocks:=⟨_,rfl⟩
    rw [<-a6] at Hs Hb c3;have b2:bs.length<=40:=by rw [a6];exact Hf.out.len.2
    have bS:=hid a6;obtain⟨S0,bd⟩:∃S0,S0=s:=⟨_,rfl⟩
    rw [<-bd] at Hs;have bA:=hid bd;clear af hs aq aM bd a6 C3;go_wp2_with fail;clear c3;go_loopw [3,32] (fun s3 s32 wr=>∃(i:Nat) (s:WSt),i<=bs.length∧s3 = .bool s.2∧s32 = .int .i64 i∧s=acL bs i S0∧agV w wr RB s.1∧s.1.length=n) (fun _ s32 _=>bs.length - (intOf s32).toNat)
    case atStart=>exact⟨0,s,Aaj _,rfl,rfl,bA.out.symm,ax.out,aA.out⟩
    case round =>
     clear ax aA bA;obtain⟨i,s,hi,rfl,rfl,hs,af,aq⟩:=hrel;have ax:=hid af;have aA:=hid aq
     by_cases hib:i<bs.length
     . obtain⟨xb,bI,cs,rfl,aJ,hx,-,ar⟩:=Hb.out.get hib
       obtain⟨pa,pc,la,lc,ta,tc,rfl,bf,bk,-,bH,bK,-,-,-⟩:=hx.opens;obtain⟨d0,d1,d2,d3,d4,d5⟩:=ar.get6;have d0:=af.cell d0 (HS.out _ aJ);have d1:=af.cell d1 (HS.out _ aJ);have d2:=af.cell d2 (HS.out _ aJ);have d3:=af.cell d3 (HS.out _ aJ);have d4:=af.cell d4 (HS.out _ aJ);have d5:=af.cell d5 (HS.out _ aJ);have zx:xb<wr.heap.size:=aac d0;obtain⟨x,a8⟩:∃x,x=bs[i]:=⟨_,rfl⟩
       rw [<-a8] at bf bk bH bK d0 d1 d2 d3 d4 d5;have bJ:=hid bf;have bL:=hid bk;have bq:f.blocks[i]?=some x:=by rw [<-bS.out,a8,Aaa hib]
       have bz:=hid bq;have Hs:Hid (acL bs (i+1) S0=af2 i x.list x.list.length (agK i x.phis x.phis.length s)):=by
        show _=_;rw [acL,<-hs,Aaf,Aaa hib,<-a8];rfl
       have bm:agV w (wr.alloc (.cells #[.slice pa x.phis.length pc,.slice la x.list.length lc,.int .i64 x.fin.kind,.bool x.fin.on.reg,.int .i64 x.fin.on.n,.slice ta x.fin.to.length tc] 46)) RB s.1:=af.grow bE;clear af hs aq ar hx bf bk a8 bq;go_wp2_with fail;clear d0 d1 d2 d3 d4 d5;obtain⟨W1,bh⟩:∃W1,W1=wr.alloc (.cells #[.slice pa x.phis.length pc,.slice la x.list.length lc,.int .i64 x.fin.kind,.bool x.fin.on.reg,.int .i64 x.fin.on.n,.slice ta x.fin.to.length tc] 46):=⟨_,rfl⟩
       rw [<-bh] at bm ⊢;have e1:W1.cell? ⟨wr.heap.size,1,none⟩=some (.slice la x.list.length lc):=by rw [bh];simp
       have bp:wr.heap.size≠RB:=fun e=>by
        have:=(Aag.1 ax.out.row).1;omega
       obtain⟨BX,bx⟩:∃BX,BX=wr.heap.size:=⟨_,rfl⟩
       rw [<-bx] at e1 bp ⊢;have E1:=hid e1;have bC:=hid bm;obtain⟨s0,be⟩:∃s0,s0=s:=⟨_,rfl⟩
       rw [<-be] at Hs;have bB:=hid be;clear bh e1 bm be bx;go_loopw [3,40] (fun s3 s40 wi=>∃(j:Nat) (s':WSt),j<=x.phis.length∧s3 = .bool s'.2∧s40 = .int .i64 j∧s'=agK i x.phis j s0∧agV w wi RB s'.1∧s'.1.length=n∧W1.grownBy wi (some RB)) (fun _ s40 _=>x.phis.length - (intOf s40).toNat)
       case atStart=>exact⟨0,s,Aaj _,rfl,rfl,bB.out.symm,bC.out,aA.out,World.grownBy.refl _ _⟩
       case round =>
        clear ax aA bC bB;obtain⟨j,s,hj,rfl,rfl,hs,af,aq,aY⟩:=hrel;have ax:=hid af;have aA:=hid aq;have bZ:=hid aY
        by_cases hjp:j<x.phis.length
        . obtain⟨pb,bg,cs,rfl,ay,hp,-,ar⟩:=bJ.out.get hjp
          obtain⟨fa,fc,rfl,-,-,-⟩:=hp.opens;obtain⟨d0,d1⟩:=ar.get2;have d0:=af.cell d0 (HS.out _ ay);have d1:=af.cell d1 (HS.out _ ay);have zp:pb<wr.heap.size:=aac d0;obtain⟨y,hy⟩:∃y,y=x.phis[j]:=⟨_,rfl⟩
          rw [<-hy] at d0 d1;have aS:=(Hf.out.phi i x bz.out y (by rw [hy];exact Aas _)).1;obtain⟨q,hq⟩:=Abc aS.1;rw [hq] at d0;have bn:q<n:=by rw [Hn.out];omega
          have au:agV w (wr.alloc (.cells #[.int .i64 (q:Int),.slice fa y.src.length fc] 115)) RB s.1:=af.grow bE;have aT:W1.grownBy (wr.alloc (.cells #[.int .i64 (q:Int),.slice fa y.src.length fc] 115)) (some RB):=aY.trans (World.grownBy_alloc _ _ _);have aZ:=hid aT;have aj:=ajS au C5.out aK aq (by omega) bn (i:Int) (-1);have ag:=hid aj;obtain⟨o,ho⟩:∃o,o=(!decide (0<=(s.1.getD q (-1,-1)).1)):=⟨_,rfl⟩
          have aE:Hid ((wrF s (q:Int) i (-1)).2=(o&&s.2)):=by show _=_;rw [as1,ho]
          have aD:Hid (agK i x.phis (j+1) s0=wrF s (q:Int) i (-1)):=by
           show _=_;rw [agK,<-hs,Aaf,Aaa hjp,<-hy,<-hq];rfl
          have aV:Hid ((wrF s (q:Int) i (-1)).1.length=n):=by show _=_;rw [ah4,aq]
          rw [<-ho] at ag;obtain⟨s1,s2⟩:=s;clear af hs aq aY aj ho au aT hq hy aS ar hp;cases o with
          | true =>
            go_wp2_with (first | (go_at_call 79;refine (ag.out).mono ?_;rintro e w3 ⟨rfl,ae,ao⟩;have ak:=hid ae;have az:=hid ao;clear ae ao));go_roundw
            case rel=>exact⟨j+1,wrF (s1,s2) (q:Int) i (-1),by omega,by rw [aE.out];rfl,by go_num,aD.out.symm,ak.out,aV.out,aZ.out.trans az.out⟩
            case measure=>simp [intOf];omega
          | false =>
            go_wp2_with (first | (go_at_call 79;refine (ag.out).mono ?_;rintro e w3 ⟨rfl,ae,ao⟩;have ak:=hid ae;have az:=hid ao;clear ae ao));go_roundw
            case rel=>exact⟨j+1,wrF (s1,s2) (q:Int) i (-1),by omega,by rw [aE.out];rfl,by go_num,aD.out.symm,ak.out,aV.out,aZ.out.trans az.out⟩
            case measure=>simp [intOf];omega
        . have aQ:j=x.phis.length:=by omega
          have e1:=aY.cell (a:=⟨BX,1,none⟩) E1.out (fun e=>bp (Option.some.inj e));have zB:BX<wr.heap.size:=aac e1;have aD:Hid (acL bs (i+1) S0=af2 i x.list x.list.length s):=by show _=_;rw [Hs.out,hs,aQ]
          obtain⟨a7,aG⟩:∃a7,a7=s:=⟨_,rfl⟩
          rw [<-aG] at aD;have aP:=hid aG;clear af hs aq aY aQ aG;go_wp2_with fail;clear e1;go_loopw [3,56] (fun s3 s56 wi=>∃(j:Nat) (s':WSt),j<=x.list.length∧s3 = .bool s'.2∧s56 = .int .i64 j∧s'=af2 i x.list j a7∧agV w wi RB s'.1∧s'.1.length=n) (fun _ s56 _=>x.list.length - (intOf s56).toNat)
          case atStart=>exact⟨0,s,Aaj _,rfl,rfl,aP.out.symm,ax.out,aA.out⟩
          case round =>
           clear ax aA aP;obtain⟨j',s,b5,rfl,rfl,hs,af,aq⟩:=hrel;have ax:=hid af;have aA:=hid aq
           by_cases hjl:j'<x.list.length
           . obtain⟨pb,bg,cs,rfl,ay,hp,-,ar⟩:=bL.out.get hjl
             obtain⟨fa,fc,rfl,-,-,-⟩:=hp.opens;obtain⟨d0,d1,d2,d3,d4,d5,d6,d7⟩:=ar.get8;have d0:=af.cell d0 (HS.out _ ay);have d1:=af.cell d1 (HS.out _ ay);have d2:=af.cell d2 (HS.out _ ay);have d3:=af.cell d3 (HS.out _ ay);have d4:=af.cell d4 (HS.out _ ay);have d5:=af.cell d5 (HS.out _ ay);have d6:=af.cell d6 (HS.out _ ay);have d7:=af.cell d7 (HS.out _ ay);have zp:pb<wr.heap.size:=aac d0;obtain⟨y,hy⟩:∃y,y=x.list[j']:=⟨_,rfl⟩
             rw [<-hy] at d0 d1 d2 d3 d4 d5 d6 d7;have aS:=(Hf.out.ins i x bz.out y (by rw [hy];exact Aas _)).dst;obtain⟨W2,aU⟩:∃W2,W2=wr.alloc (.cells #[.int .i64 y.op,.int .i64 y.dst,.bool y.a.reg,.int .i64 y.a.n,.bool y.b.reg,.int .i64 y.b.n,.int .i64 y.fn,.slice fa y.args.length fc] 49):=⟨_,rfl⟩
             have au:agV w W2 RB s.1:=by rw [aU];exact af.grow bE
             have bQ:=hid au;have aD:Hid (af2 i x.list (j'+1) a7=akW i j' y s):=by
              show _=_;rw [af2,<-hs,Aaf,Aaa hjl,<-hy];rfl
             by_cases aL:y.dst<0
             . have q1:decide (y.dst<0)=true:=decide_eq_true aL
               have aI:Hid (akW i j' y s=s):=by show _=_;unfold akW;rw [if_pos aL]
               have ae:=au;rw [aU] at ae;have ak:=hid ae;obtain⟨s1,s2⟩:=s;clear af hs aq au ae hy ar hp aU aS;go_wp2_with fail;go_roundw
               case rel=>exact⟨j'+1,(s1,s2),by omega,rfl,by go_num,(aD.out.trans aI.out).symm,ak.out,aA.out⟩
               case measure=>simp [intOf];omega
             . have q1:decide (y.dst<0)=false:=decide_eq_false aL
               obtain⟨q,hq⟩:=Abc (by omega:0<=y.dst);have bn:q<n:=by rw [Hn.out];omega
               have aj:=ajS au C5.out aK aq (by omega) bn (i:Int) (j':Int);rw [aU,hq] at aj;have ag:=hid aj;obtain⟨o,ho⟩:∃o,o=(!decide (0<=(s.1.getD q (-1,-1)).1)):=⟨_,rfl⟩
               have aE:Hid ((wrF s (q:Int) i j').2=(o&&s.2)):=by show _=_;rw [as1,ho]
               have aI:Hid (akW i j' y s=wrF s (q:Int) i j'):=by show _=_;unfold akW;rw [if_neg aL,hq]
               have aV:Hid ((wrF s (q:Int) i j').1.length=n):=by show _=_;rw [ah4,aq]
               rw [<-ho] at ag;rw [hq] at d1 q1;obtain⟨s1,s2⟩:=s;clear af hs aq aj ho au hq hy aS ar hp aU aL;cases o with
               | true =>
                 go_wp2_with (first | (go_at_call 79;refine (ag.out).mono ?_;rintro e w3 ⟨rfl,ae,ao⟩;have ak:=hid ae;have az:=hid ao;clear ae ao));go_roundw
                 case rel=>exact⟨j'+1,wrF (s1,s2) (q:Int) i j',by omega,by rw [aE.out];rfl,by go_num,(aD.out.trans aI.out).symm,ak.out,aV.out⟩
                 case measure=>simp [intOf];omega
               | false =>
                 go_wp2_with (first | (go_at_call 79;refine (ag.out).mono ?_;rintro e w3 ⟨rfl,ae,ao⟩;have ak:=hid ae;have az:=hid ao;clear ae ao));go_roundw
                 case rel=>exact⟨j'+1,wrF (s1,s2) (q:Int) i j',by omega,by rw [aE.out];rfl,by go_num,(aD.out.trans aI.out).symm,ak.out,aV.out⟩
                 case measure=>simp [intOf];omega
           . have aX:j'=x.list.length:=by omega
             have aI:Hid (acL bs (i+1) S0=s):=by show _=_;rw [aD.out,hs,aX]
             clear af hs aq aX;go_wp2_with fail;go_roundw
             case rel=>exact⟨i+1,s,by omega,rfl,by go_num,aI.out.symm,ax.out,aA.out⟩
             case measure=>simp [intOf];omega
     . have aR:i=bs.length:=by omega
       have bj:Hid (acG f=s):=by show _=_;rw [<-Hs.out,hs,aR]
       clear af hs aq aR;go_wp2_with fail;go_ret;rw [bj.out];exact⟨rfl,ax.out⟩
end
end Go.Proofs.YtpeejlpcikefcaaGreatDoor
