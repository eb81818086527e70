import Derived.Test.YtpeejlpcikefcaaGreatDoorPKeep
/- slices.Repeat of a list of one pair of numbers (ssa.written). ssa.checker.writes: all registers that a function writes. -/
set_option maxHeartbeats 4000000
set_option maxRecDepth 100000
namespace Go.Proofs.YtpeejlpcikefcaaGreatDoor
section
open Go.RowKit Go.Lib
theorem asT:(Tryz.prog.info? 96).map (fun i=>(i.zero,i.size,i.bytes))=some (some (.agg #[.int .i64 0,.int .i64 0]),2,16):=by kernel_rfl
theorem apY:(Tryz.prog.info? 96).map (·.size)=some 2:=by kernel_rfl
variable {P:Program}
theorem af7(w : World) (dT sT ty elem : TypeId) (sz g o ai ao : Nat) (a : Addr) (ah an : Nat) (cur : Array Value) (t : TypeId) (cs : List Value) (n : Nat)
 (hu:P.underlying dT=some (.slice elem)) (hs:(P.info? elem).map (·.size)=some sz)
 (hg:w.heap[g]?=some (.cells cur t (0,0))) (hn:n=Nat.min ah ai) (ar:cs.length=n * sz)
 (aB:∀j v,cs[j]?=some v->w.cell? (a.add j)=some v) (ay:o+cs.length<=cur.size) (h1:∀v∈cs,v.oneCell'=true) :
 (Builtin.copy_ #[dT,sT] ty #[.slice (some ⟨g,o,none⟩) ai ao,.slice (some a) ah an]).run P w =
   .ok (goInt n) (w.setRow g (cur.toList.take o++cs++cur.toList.drop (o+cs.length)).toArray):=by
 have hl:=run_loadCells_list (P:=P) w a cs aB;have af:=run_storeCells_at P g o t cs 0 cur w hg (by simpa using ay) h1;rw [ar] at hl;cases hq:P.info? elem with
 | none=>simp [hq] at hs
 | some i =>
   have hi:i.size=sz:=by simpa [hq] using hs
   simp [Builtin.copy_,run_underlying hu,Builtin.lenOf,Builtin.firstCells,sizeOf,typeInfo,hq,hi,<-hn,hl,af]
theorem afc(w:World)(dT sT ty elem:TypeId)(sz:Nat)(d a:Option Addr)(ai ao ah an:Nat)(hu:P.underlying dT=some (.slice elem))(hs:(P.info? elem).map (·.size)=some sz)(hn:Nat.min ah ai=0) :
 (Builtin.copy_ #[dT,sT] ty #[.slice d ai ao,.slice a ah an]).run P w = .ok (goInt 0) w:=by
 cases hq:P.info? elem with
 | none=>simp [hq] at hs
 | some i =>
   have hl:∀(x:Addr),(loadCells x 0).run P w = .ok #[] w:=fun x=>by simpa using run_loadCells_list (P:=P) w x [] (by simp)
   cases d <;> cases a <;> simp [Builtin.copy_,run_underlying hu,Builtin.lenOf,Builtin.firstCells,sizeOf,typeInfo,hq,hn,storeCells,hl]
theorem afy {P : Program} {w : World} {ops : Array Oper} {rest : List Oper} {o : Oper} {a : Act} {Q : Exit -> Act -> World -> Prop} (bl : o.guard = none) (d s : Operand) (dT sT : TypeId)
 (ho:o.op = .call { callee := .builtin .copy,args:=#[d,s],argTypes:=#[dT,sT] }) (elem:TypeId) (hu:P.underlying dT=some (.slice elem)) (sz:Nat) (aR:(P.info? elem).map (·.size)=some sz)
 (dp sp:Option Addr) (ai ao ah an:Nat) (hd:a.eval d = .slice dp ai ao) (hs:a.eval s = .slice sp ah an)
 (g off:Nat) (cur:List Value) (t:TypeId) (hg:w.heap[g]?=some (.cells cur.toArray t (0,0))) (n:Nat) (hn:n=Nat.min ah ai) (cs:List Value) (ar:cs.length=n * sz)
 (aG:0<n->dp=some ⟨g,off,none⟩∧∃ad,sp=some ad∧∀j v,cs[j]?=some v->w.cell? (ad.add j)=some v)
 (ay:off+cs.length<=cur.length) (h1:∀v∈cs,v.oneCell'=true) (B:Nat) (w0:World) (hb:Below B w0 w) (bo:B<=g)
 (h:∀w',Hid (w'.heap[g]?=some (.cells (splice cur off cs).toArray t (0,0)))->Below B w0 w'->wpList P ops Q rest (a.put o.dst (goInt n)) w') :
 wpList P ops Q (o :: rest) a w:=by
 refine wpList_plain bl fun K hK=>?_
 by_cases h0:n=0
 . subst h0
   obtain rfl:cs=[]:=Aa9 (by rw [ar,Nat.zero_mul]);have av:=afc (P:=P) w dT sT o.type elem sz dp sp ai ao ah an hu aR hn.symm;unfold Oper.wp;simp [execOp,ho,resolve,invoke,builtin,hd,hs,av,Result.andThen];exact hK _ _ (h w (show _=_ by simpa [splice] using hg) hb)
 . obtain⟨rfl,ad,rfl,aB⟩:=aG (by omega)
   have av:=af7 (P:=P) w dT sT o.type elem sz g off ai ao ad ah an cur.toArray t cs n hu aR hg hn ar aB (by simpa using ay) h1;unfold Oper.wp;simp [execOp,ho,resolve,invoke,builtin,hd,hs,av,Result.andThen];exact hK _ _ (h _ (show _=_ by simpa [splice] using setRow_heap w g _ _ t _ hg) (below_setRow hb bo _))
theorem agw {P : Program} {ops : Array Oper} {o : Oper} {a : Act} {w : World} {K : Act -> World -> Prop} {Q : Exit -> Act -> World -> Prop} {E : Prop} (bl : o.guard = none) (d s : Operand) (dT sT : TypeId)
 (ho:o.op = .call { callee := .builtin .copy,args:=#[d,s],argTypes:=#[dT,sT] }) (elem:TypeId) (hu:P.underlying dT=some (.slice elem)) (sz:Nat) (aR:(P.info? elem).map (·.size)=some sz)
 (dp sp:Option Addr) (ai ao ah an:Nat) (hd:a.eval d = .slice dp ai ao) (hs:a.eval s = .slice sp ah an)
 (g off:Nat) (cur:List Value) (t:TypeId) (hg:w.heap[g]?=some (.cells cur.toArray t (0,0))) (n:Nat) (hn:n=Nat.min ah ai) (cs:List Value) (ar:cs.length=n * sz)
 (aG:0<n->dp=some ⟨g,off,none⟩∧∃ad,sp=some ad∧∀j v,cs[j]?=some v->w.cell? (ad.add j)=some v)
 (ay:off+cs.length<=cur.length) (h1:∀v∈cs,v.oneCell'=true) (B:Nat) (w0:World) (hb:RowKit.Below B w0 w) (bo:B<=g)
 (h:∀w',RowKit.Hid (w'.heap[g]?=some (.cells (splice cur off cs).toArray t (0,0)))->RowKit.Below B w0 w'->K (a.put o.dst (goInt n)) w') :
 if Region.wanted o (yielded ops a.tmps)=true then Oper.wp P o a w K Q else E:=by
 have hw:Region.wanted o (yielded ops a.tmps)=true:=by simp [Region.wanted,bl]
 rw [if_pos hw]
 by_cases h0:n=0
 . subst h0
   obtain rfl:cs=[]:=Aa9 (by rw [ar,Nat.zero_mul]);have av:=afc (P:=P) w dT sT o.type elem sz dp sp ai ao ah an hu aR hn.symm;unfold Oper.wp;simp [execOp,ho,resolve,invoke,builtin,hd,hs,av,Result.andThen];exact h w (show _=_ by simpa [splice] using hg) hb
 . obtain⟨rfl,ad,rfl,aB⟩:=aG (by omega)
   have av:=af7 (P:=P) w dT sT o.type elem sz g off ai ao ad ah an cur.toArray t cs n hu aR hg hn ar aB (by simpa using ay) h1;unfold Oper.wp;simp [execOp,ho,resolve,invoke,builtin,hd,hs,av,Result.andThen];exact h _ (show _=_ by simpa [splice] using setRow_heap w g _ _ t _ hg) (below_setRow hb bo _)
def pairs(n:Nat)(x y:Value):List Value:=(List.replicate n [x,y]).flatten
theorem abe(n:Nat)(x y:Value):(pairs n x y).length=n * 2:=by
 unfold pairs
 induction n with
 | zero=>rfl
 | succ n ih=>rw [List.replicate_succ,Abv,Aau,ih];simp;omega
theorem ain(m n:Nat)(x y:Value):pairs (m+n) x y=pairs m x y++pairs n x y:=by
 unfold pairs;rw [<-List.replicate_append_replicate,Abs]
variable {n:Nat}{x y:Value}
theorem alc{v:Value}(h:v∈pairs n x y):v=x∨v=y:=by
 unfold pairs at h;obtain⟨l,hl,hv⟩:=List.mem_flatten.1 h;rw [List.eq_of_mem_replicate hl] at hv;simpa using hv
theorem ary:∀{n i:Nat},i<n->(pairs n x y)[i * 2]?=some x∧(pairs n x y)[i * 2+1]?=some y:=by
 intro n
 induction n with
 | zero=>intro i hi;omega
 | succ n ih =>
   intro i hi;have e:pairs (n+1) x y=x :: y :: pairs n x y:=by unfold pairs;rw [List.replicate_succ];rfl
   rw [e];cases i with
   | zero=>exact⟨rfl,rfl⟩
   | succ i =>
     rw [show (i+1) * 2=i * 2+2 by omega,show i * 2+2+1=i * 2+1+2 by omega];exact ih (by omega)
theorem apZ{m:Nat}(h:m<=n){j:Nat}(hj:j<m * 2):(pairs n x y)[j]?=(pairs m x y)[j]?:=by
 obtain⟨k,rfl⟩:∃k,n=m+k:=⟨n - m,by omega⟩
 rw [ain,Abj (by rw [abe];exact hj)]
theorem agN{z u:Value}{m c:Nat}(h:m+c<=n):splice (pairs m x y++pairs (n - m) z u) (m * 2) (pairs c x y)=pairs (m+c) x y++pairs (n - (m+c)) z u:=by
 unfold splice;have h1:(pairs m x y++pairs (n - m) z u).take (m * 2)=pairs m x y:=by
  rw [Acm (by rw [abe];exact Aac _),Abq (by rw [abe];exact Aac _)]
 have h2:(pairs m x y++pairs (n - m) z u).drop (m * 2+(pairs c x y).length)=pairs (n - (m+c)) z u:=by
  rw [abe,show n - m=c+(n - (m+c)) by omega,ain,<-Abo];have e:(pairs m x y++pairs c z u).length=m * 2+c * 2:=by rw [Aau,abe,abe]
  rw [List.drop_append_of_le_length (by rw [e];exact Aac _),List.drop_of_length_le (by rw [e];exact Aac _)];rfl
 rw [h1,h2,ain,Abo]
theorem aio(x y:Value)(n:Nat):madeCells #[x,y] (n * 2)=(pairs n x y).toArray:=by
 apply Array.ext
 . simp [madeCells,abe]
 . intro i h1 h2
   rw [size_madeCells] at h1;obtain⟨k,hk⟩:∃k,k=i / 2:=⟨_,rfl⟩
   have bP:k<n:=by omega
   obtain⟨p0,p1⟩:=ary (x:=x) (y:=y) bP;have e:(pairs n x y).toArray[i]?=some ((pairs n x y).toArray[i]):=Array.getElem?_eq_getElem h2;rw [Ab7] at e
   by_cases hm:i=k * 2
   . clear hk
     subst hm;rw [p0] at e;rw [<-Option.some.inj e];simp [madeCells,Nat.mul_mod_left]
   . have bV:i=k * 2+1:=by omega
     clear hk hm;subst bV;rw [p1] at e;rw [<-Option.some.inj e];simp [madeCells,Nat.add_mod,Nat.mul_mod_left]
theorem aiE(t e:TypeId)(z0 z1:Value)(bytes:Nat)(ht:P.underlying t=some (.slice e))(aw:(P.info? e).map (fun i=>(i.zero,i.size,i.bytes))=some (some (.agg #[z0,z1]),2,bytes))(h0:(Value.agg #[z0,z1]).cells=#[z0,z1])(kl kc:IntKind)(n:Nat)(hb:(bytes:Int) * n<=281474976710656)(bS:(n:Int)<=9223372036854775807)(w:World) :
 (Instr.makeSlice t (.int kl (n:Int)) (.int kc (n:Int))).run P w = .ok (.slice (some ⟨w.heap.size,0,none⟩) n n) (w.alloc (.cells (pairs n z0 z1).toArray e)):=by
 cases hq:P.info? e with
 | none=>simp [hq] at aw
 | some i =>
   rw [hq] at aw;simp only [Aaw,Option.some.injEq,Prod.mk.injEq] at aw;obtain⟨hz,hs,bU⟩:=aw;have h:=run_make (P:=P) w t e i _ ht hq hz kl kc (n:Int) (n:Int) (by omega) (Int.le_refl _) (by rw [bU];exact hb) bS;rw [h0,hs,Aan,aio] at h;exact h
theorem agx(ad:Addr)(c:Nat)(x y:Int)(n:Nat)(hn:n<=1048576)(w:World)(hx:w.cell? (ad.add 0)=some (.int .i64 x))(hy:w.cell? (ad.add 1)=some (.int .i64 y)) :
 Calls Tryz.prog 48 #[.slice (some ad) 1 c,.int .i64 (n:Int)] w fun e w' =>
  ∃g,e = .returned (.slice (some ⟨g,0,none⟩) n n)∧w.heap.size<=g∧w'.heap[g]?=some (.cells (pairs n (.int .i64 x) (.int .i64 y)).toArray 96 (0,0))∧Below w.heap.size w w':=by
 have bJ:=aiE (P:=Tryz.prog) 93 96 (.int .i64 0) (.int .i64 0) 16 Tryz.underlying93 asT rfl .i64 .i64 n (by omega) (by omega);have Hx:=hid hx;have Hy:=hid hy;have b0:IntKind.u64.wrap (n:Int)=(n:Int):=by rw [IntKind.wrap_u64];omega
 have b1:decide ((n:Int)<0)=false:=decide_eq_false (by omega);have b9:decide (9223372036854775807<(n:Int))=false:=decide_eq_false (by omega);clear hx hy;go_enter Tryz.func48,Tryz.ntmps48;have bC:(ad.add 0).block<w.heap.size:=World.block_lt_of_cell? w _ Hx.out;have bq:(ad.add 1).block<w.heap.size:=World.block_lt_of_cell? w _ Hy.out
 go_wp2_with (first
  | (go_at_call 76; (with_reducible refine (aiT n hn w).mono ?_); rintro e w' ⟨rfl, rfl⟩)
  | (with_reducible refine afy rfl (.tmp 31) (.tmp 32) 93 93 rfl 96 Tryz.underlying93 2 apY _ _ n n 1 c rfl rfl w.heap.size 0 (pairs n (.int .i64 0) (.int .i64 0)) 96 ?_ (min 1 n) rfl (pairs (min 1 n) (.int .i64 x) (.int .i64 y)) (abe _ _ _) ?_ ?_ ?_ w.heap.size w ?_ (Aac _) ?_
     . exact heap_alloc_new _ _
     . intro h0
       refine ⟨rfl, ad, rfl, fun j v hj => ?_⟩
       rw [show min 1 n = 1 by omega] at hj
       match j, hj with
       | 0, hj => cases hj; exact ((Below.alloc (Below.refl w.heap.size w) (Aac _) _).cell bC).trans Hx.out
       | 1, hj => cases hj; exact ((Below.alloc (Below.refl w.heap.size w) (Aac _) _).cell bq).trans Hy.out
       | j + 2, hj => cases hj
     . rw [abe, abe]; omega
     . intro v hv; rcases alc hv with rfl | rfl <;> rfl
     . exact bE
     intro w2 aM aO
     have bK : Hid (w2.heap[w.heap.size]? = some (.cells (pairs (min 1 n) (.int .i64 x) (.int .i64 y) ++ pairs (n - min 1 n) (.int .i64 0) (.int .i64 0)).toArray 96 (0, 0))) := by
      have h := agN (x := .int .i64 x) (y := .int .i64 y) (z := .int .i64 0) (u := .int .i64 0) (m := 0) (n := n) (c := min 1 n) (by omega)
      rw [Nat.zero_mul, Aab, Nat.sub_zero, show pairs 0 (Value.int .i64 x) (Value.int .i64 y) = [] from rfl, Abc] at h
      have h2 := aM.out
      rw [h] at h2
      exact h2
     have bR := hid aO
     clear aM aO bC bq))
 clear bJ;go_loopw [8] (fun i wr=>∃m:Nat,m<=n∧min 1 n<=m∧i = .int .i64 (m:Int)∧Hid (wr.heap[w.heap.size]?=some (.cells (pairs m (.int .i64 x) (.int .i64 y)++pairs (n - m) (.int .i64 0) (.int .i64 0)).toArray 96 (0,0)))∧Hid (Below w.heap.size w wr)) (fun i _=>n - (intOf i).toNat)
 case atStart=>exact⟨min 1 n,by omega,Aac _,by first | rfl | simp [goInt],bK,bR⟩
 case round =>
  obtain⟨m,hm,bG,rfl,HG,HB⟩:=hrel
  by_cases hlt:m<n
  . have b5:0<m:=by omega
    have ca:¬n=m:=by omega
    have b4:((n:Int) - (m:Int)).toNat=n - m:=by omega
    obtain⟨d,hd⟩:∃d,d=min m (n - m):=⟨_,rfl⟩
    have aK:0<d:=by omega
    have cb:d<=n - m:=by omega
    have bp:m+d<=n:=by omega
    have bF:d<=m:=by omega
    have Hd:=hid hd;have b8:IntKind.i64.wrap ((m:Int)+(d:Int))=((m+d:Nat):Int):=by rw [IntWalk.i64_in _ (by omega)];simp
    clear hd;clear bG;go_wp2_with fail
    go_region_law
     (refine agw (by rfl) (.tmp 41) (.tmp 44) 93 93 (by rfl) 96 Tryz.underlying93 2 apY (some ⟨w.heap.size, m * 2, none⟩) (some ⟨w.heap.size, 0, none⟩) (n - m) (n - m) m n ?_ ?_ w.heap.size (m * 2) (pairs m (.int .i64 x) (.int .i64 y) ++ pairs (n - m) (.int .i64 0) (.int .i64 0)) 96 HG.out d Hd.out (pairs d (.int .i64 x) (.int .i64 y)) (abe _ _ _) ?_ ?_ ?_ w.heap.size w ?_ (Aac _) ?_
      . simp [go_sem]
      . simp [go_sem]
      . intro _
        refine ⟨rfl, ⟨w.heap.size, 0, none⟩, rfl, fun j v hj => ?_⟩
        have bM : j < d * 2 := by
         have := (Aad.1 hj).1
         rwa [abe] at this
        rw [show (⟨w.heap.size, 0, none⟩ : Addr).add j = ⟨w.heap.size, j, none⟩ by unfold Addr.add; split <;> simp_all]
        refine (aaX (w := _) HG.out).trans ?_
        rw [Ab7, Abj (by rw [abe]; omega), apZ bF bM]
        exact hj
      . rw [Aau, abe, abe, abe]; omega
      . intro v hv; rcases alc hv with rfl | rfl <;> rfl
      . exact HB.out.drew
      intro w2 aM aO
      have bO : Hid (w2.heap[w.heap.size]? = some (.cells (pairs (m + d) (.int .i64 x) (.int .i64 y) ++ pairs (n - (m + d)) (.int .i64 0) (.int .i64 0)).toArray 96 (0, 0))) := by
       have h2 := aM.out
       have h3 := agN (x := .int .i64 x) (y := .int .i64 y) (z := .int .i64 0) (u := .int .i64 0) (m := m) (n := n) (c := d) bp
       rw [h3] at h2
       exact h2
      have bX := hid aO
      clear aM aO)
    all_goals
     go_simp
     (try go_wp2_with fail)
     go_roundw
     case rel=>exact⟨m+d,bp,by omega,by first | rfl | go_num,bO,bX⟩
     case measure=>simp [intOf];omega
  . obtain rfl:m=n:=by omega
    have bQ:Hid (wr.heap[w.heap.size]?=some (.cells (pairs m (.int .i64 x) (.int .i64 y)).toArray 96 (0,0))):=by
     have h:=HG.out;rw [Nat.sub_self,show pairs 0 (Value.int .i64 0) (Value.int .i64 0)=[] from rfl,Ab4] at h;exact h
    go_wp2_with fail;go_ret;exact⟨w.heap.size,rfl,Aac _,bQ.out,HB.out⟩
end
section
open Go.RowKit
def amX(t:List (Int×Int)):Array Value:=(t.flatMap fun p=>[Value.int .i64 p.1,Value.int .i64 p.2]).toArray
theorem ald : ∀ (t : List (Int × Int)) (i : Nat), (t.flatMap fun p => [Value.int .i64 p.1, Value.int .i64 p.2])[i]? = (t[i / 2]?).map fun p => if i % 2 = 0 then Value.int .i64 p.1 else Value.int .i64 p.2
 | [],i=>by simp
 | p :: t,0=>rfl
 | p :: t,1=>rfl
 | p :: t,i+2=>by
   have h:=ald t i;rw [List.flatMap_cons,show (i+2) / 2=i / 2+1 by omega,Ab3,show (i+2) % 2=i % 2 by omega,<-h];rfl
theorem ahg(t:List (Int×Int))(i:Nat):(amX t)[i]?=(t[i / 2]?).map fun p=>if i % 2=0 then Value.int .i64 p.1 else Value.int .i64 p.2:=by
 unfold amX;rw [Ab7,ald]
theorem ajU {t:List (Int×Int)}{r:Nat}(hr:r<t.length):(amX t)[r * 2]?=some (.int .i64 t[r].1)∧(amX t)[r * 2+1]?=some (.int .i64 t[r].2):=by
 rw [ahg,ahg,show r * 2 / 2=r by omega,show (r * 2+1) / 2=r by omega,Aaa hr];refine⟨?_,?_⟩
 . rw [show r * 2 % 2=0 by omega];rfl
 . rw [show (r * 2+1) % 2=1 by omega];rfl
theorem ap0(t:List (Int×Int)):(amX t).size=t.length * 2:=by
 unfold amX;rw [Abn]
 induction t with
 | nil=>rfl
 | cons p t ih=>rw [List.flatMap_cons,Aau,ih,Aba];simp;omega
theorem arz {t:List (Int×Int)}{r:Nat}(hr:r<t.length)(b a:Int):((amX t).setIfInBounds (r * 2) (.int .i64 b)).setIfInBounds (r * 2+1) (.int .i64 a)=amX (t.set r (b,a)):=by
 apply Array.ext_getElem?;intro i;have hz:=ap0 t;rw [Acp,Acp,ahg,ahg,Aa5]
 by_cases h1:r * 2+1=i
 . subst h1
   rw [if_pos rfl,if_pos (by simp [hz];omega),if_pos (by omega),if_pos hr];rw [show (r * 2+1) % 2=1 by omega];rfl
 . rw [if_neg h1]
   by_cases h2:r * 2=i
   . subst h2
     rw [if_pos rfl,if_pos (by omega),if_pos (by omega),if_pos hr];rw [show r * 2 % 2=0 by omega];rfl
   . rw [if_neg h2,if_neg (by omega)]
theorem arA(n:Nat)(x y:Int):amX (List.replicate n (x,y))=(pairs n (.int .i64 x) (.int .i64 y)).toArray:=by
 unfold amX pairs
 congr 1
 induction n with
 | zero=>rfl
 | succ n ih=>rw [List.replicate_succ,List.replicate_succ,List.flatMap_cons,Abv,ih]
structure agV (w W:World)(RB:Nat)(t:List (Int×Int)):Prop where
 grown:w.grownBy W (some RB)
 row:W.heap[RB]?=some (.cells (amX t) 96 (0,0))
section
variable {w W W' : World} {RB : Nat} {t : List (Int × Int)}
theorem agV.cell(h:agV w W RB t){b o:Nat}{v:Value}(hc:w.cell? ⟨b,o,none⟩=some v)(hb:b≠RB):W.cell? ⟨b,o,none⟩=some v:=h.grown.cell (a:=⟨b,o,none⟩) hc (fun e=>hb (Option.some.inj e))
theorem agV.sl {α:Type}{r:Rp α}(hr:r.Mono){S:Nat->Prop}{sz:Nat}{v:Value}{l:List α}(h:agV w W RB t)(hS:∀b,S b->b≠RB)(hs:SlAt S w sz r v l):SlAt S W sz r v l :=
 hs.mono hr (fun _ h=>h) (acI fun b hb hl=>h.grown.block b hl (fun e=>hS b hb (Option.some.inj e)))
theorem agV.grow(h:agV w W RB t)(hb:Below W.heap.size W W'):agV w W' RB t:=by
 have hR:=(Aag.1 h.row).1;exact⟨h.grown.trans ⟨hb.os,hb.tape,hb.output,hb.size,fun b h1 _=>hb.block b h1⟩,(hb.block RB hR).trans h.row⟩
theorem agV.at0(h:agV w W RB t){r:Nat}(hr:r<t.length):W.cell? ⟨RB,r * 2,none⟩=some (.int .i64 t[r].1):=by rw [aaX h.row];exact (ajU hr).1
theorem agV.at1(h:agV w W RB t){r:Nat}(hr:r<t.length):W.cell? ⟨RB,r * 2+1,none⟩=some (.int .i64 t[r].2):=by rw [aaX h.row];exact (ajU hr).2
theorem agV.fz(h:agV w W RB t)(o:Nat):W.frozen? ⟨RB,o,none⟩=false:=by simp [World.frozen?,h.row]
theorem aip(W:World)(b o:Nat)(v:Value):W.grownBy (W.setCell ⟨b,o,none⟩ v) (some b) :=
 ⟨rfl,rfl,rfl,by simp [World.setCell],fun k _ hk=>Below.heap_setCell _ _ _ _ (fun e=>hk (by rw [e]))⟩
end
theorem aiq {t:List (Int×Int)}{r:Nat}(hr:r<t.length):t.getD r (-1,-1)=t[r]:=by rw [Aaf,Aaa hr];rfl
theorem ajV {w W:World}{CB RB n cap:Nat}{s:WSt}(h:agV w W RB s.1)(hc:w.cell? ⟨CB,5,none⟩=some (.slice (some ⟨RB,0,none⟩) n cap))(aJ:CB≠RB)(hl:s.1.length=n)(hn:n<=1048576){r:Nat}(hr:r<n)(b a:Int) :
 Calls Tryz.prog 79 #[.pointer (some ⟨CB,0,none⟩),.int .i64 (r:Int),.int .i64 b,.int .i64 a] W fun e W' =>
  e = .returned (.bool (!decide (0<=(s.1.getD r (-1,-1)).1)))∧agV w W' RB (wrF s (r:Int) b a).1∧W.grownBy W' (some RB):=by
 have aW:r<s.1.length:=by omega
 refine (apX CB RB n cap r b a _ _ W (h.cell hc aJ) (h.at0 aW) (h.at1 aW) (h.fz _) (h.fz _) hr hn).mono ?_;rintro e W' ⟨rfl,rfl⟩;rw [aiq aW];refine⟨rfl,?_⟩;unfold wrF;rw [Aan,aiq aW]
 by_cases hx:0<=s.1[r].1
 . rw [if_pos hx,if_pos hx]
   exact⟨h,World.grownBy.refl _ _⟩
 . rw [if_neg hx,if_neg hx]
   have hg:=(aip W RB (r * 2) (.int .i64 b)).trans (aip _ RB (r * 2+1) (.int .i64 a));exact⟨⟨h.grown.trans hg,by rw [aak (aak h.row _) _,arz aW]⟩,hg⟩
theorem asU(s:WSt)(r:Nat)(b a:Int):(wrF s (r:Int) b a).2=((!decide (0<=(s.1.getD r (-1,-1)).1))&&s.2):=by
 unfold wrF;rw [Aan]
 by_cases hx:0<=(s.1.getD r (-1,-1)).1
 . rw [if_pos hx,decide_eq_true hx];rfl
 . rw [if_neg hx,decide_eq_false hx];simp
theorem anX {S : Nat -> Prop} (CB RB cap : Nat) (ba : Option Addr) (bc : Nat) (f : aaz) (w : World) (hf : arR f) (hS : ∀ b, S b -> b ≠ RB) (hb : SlAt S w 6 aa0 (.slice ba f.blocks.length bc) f.blocks)
 (c1:w.cell? ⟨CB,1,none⟩=some (.int .i64 f.params)) (c3:w.cell? ⟨CB,3,none⟩=some (.slice ba f.blocks.length bc)) (c5:w.cell? ⟨CB,5,none⟩=some (.slice (some ⟨RB,0,none⟩) f.regs.toNat cap)) (aJ:CB≠RB)
 (aH:w.heap[RB]?=some (.cells (amX (List.replicate f.regs.toNat (-1,-1))) 96 (0,0))) :
 Calls Tryz.prog 50 #[.pointer (some ⟨CB,0,none⟩)] w fun e w'=>e = .returned (.bool (acG f).2)∧agV w w' RB (acG f).1:=by
 have Hf:=hid hf;have HS:=hid hS;have Hb:=hid hb;have C3:=hid c3;have C5:=hid c5;have zC:CB<w.heap.size:=aac c1;obtain⟨n,hn⟩:∃n,n=f.regs.toNat:=⟨_,rfl⟩
 rw [<-hn] at C5 aH;have bw:=hf.pr;obtain⟨P,hP⟩:=Abb bw.1;have bY:n<=100:=by omega
 have b2:P<=n:=by omega
 rw [hP] at c1;have Hn:=hid hn;have HP:=hid hP;have h0:agV w w RB (List.replicate n (-1,-1)):=⟨World.grownBy.refl _ _,aH⟩
 have H0:=hid h0;clear hf hS hb c3 c5 hn bw hP aH h0;go_enter Tryz.func50,Tryz.ntmps50;go_wp2_with fail;go_loopw [3,16] (fun s3 s16 wr=>∃(k:Nat) (s:WSt),k<=P∧s3 = .bool s.2∧s16 = .int .i64 k∧s=ah8 k (List.replicate n (-1,-1),true)∧agV w wr RB s.1) (fun _ s16 _=>P - (intOf s16).toNat)
 case atStart=>exact⟨0,(List.replicate n (-1,-1),true),Aaj _,rfl,rfl,rfl,H0.out⟩
 case round =>
  obtain⟨k,s,hk,rfl,rfl,hs,af⟩:=hrel;have ax:=hid af;have aq:s.1.length=n:=by rw [hs,agr,Ab0]
  by_cases hkP:k<P
  . have aj:=ajV af C5.out aJ aq (by omega) (r:=k) (by omega) 0 (-1)
    have ag:=hid aj;obtain⟨q,hq⟩:∃q,q=(!decide (0<=(s.1.getD k (-1,-1)).1)):=⟨_,rfl⟩
    have aE:Hid ((wrF s (k:Int) 0 (-1)).2=(q&&s.2)):=by show _=_;rw [asU,hq]
    have Hs:Hid (ah8 (k+1) (List.replicate n (-1,-1),true)=wrF s (k:Int) 0 (-1)):=by show _=_;rw [ah8,hs]
    rw [<-hq] at ag;obtain⟨s1,s2⟩:=s;clear af hs aq aj hq;cases q with
    | true =>
      go_wp2_with (first | (go_at_call 79;refine (ag.out).mono ?_;rintro e w3 ⟨rfl,ae,-⟩;have ak:=hid ae;clear ae));go_roundw
      case rel=>exact⟨k+1,wrF (s1,s2) (k:Int) 0 (-1),by omega,by rw [aE.out];rfl,by go_num,Hs.out.symm,ak.out⟩
      case measure=>simp [intOf];omega
    | false =>
      go_wp2_with (first | (go_at_call 79;refine (ag.out).mono ?_;rintro e w3 ⟨rfl,ae,-⟩;have ak:=hid ae;clear ae));go_roundw
      case rel=>exact⟨k+1,wrF (s1,s2) (k:Int) 0 (-1),by omega,by rw [aE.out];rfl,by go_num,Hs.out.symm,ak.out⟩
      case measure=>simp [intOf];omega
  . have aV:k=P:=by omega
    have Hs:Hid (acL f.blocks f.blocks.length s=acG f):=by
     show _=_;unfold acG;rw [hs,aV,HP.out,Aan,Hn.out]
    have c3:=ax.out.cell C3.out aJ;have b3:CB<wr.heap.size:=aac c3;have aC:=hid aq;obtain⟨bs,a8⟩:∃bs,bs=f.blocks:=⟨_,rfl⟩
    rw [<-a8] at Hs Hb c3;have bZ:bs.length<=40:=by rw [a8];exact Hf.out.len.2
    have bI:=hid a8;obtain⟨S0,bk⟩:∃S0,S0=s:=⟨_,rfl⟩
    rw [<-bk] at Hs;have bx:=hid bk;clear af hs aq aV bk a8 C3;go_wp2_with fail;clear c3;go_loopw [3,32] (fun s3 s32 wr=>∃(i:Nat) (s:WSt),i<=bs.length∧s3 = .bool s.2∧s32 = .int .i64 i∧s=acL bs i S0∧agV w wr RB s.1∧s.1.length=n) (fun _ s32 _=>bs.length - (intOf s32).toNat)
    case atStart=>exact⟨0,s,Aaj _,rfl,rfl,bx.out.symm,ax.out,aC.out⟩
    case round =>
     clear ax aC bx;obtain⟨i,s,hi,rfl,rfl,hs,af,aq⟩:=hrel;have ax:=hid af;have aC:=hid aq
     by_cases hib:i<bs.length
     . obtain⟨xb,bW,cs,rfl,aI,hx,-,ar⟩:=Hb.out.get hib
       obtain⟨pa,pc,la,lc,ta,tc,rfl,bg,be,-,bD,bH,-,-,-⟩:=hx.opens;obtain⟨d0,d1,d2,d3,d4,d5⟩:=ar.get6;have d0:=af.cell d0 (HS.out _ aI);have d1:=af.cell d1 (HS.out _ aI);have d2:=af.cell d2 (HS.out _ aI);have d3:=af.cell d3 (HS.out _ aI);have d4:=af.cell d4 (HS.out _ aI);have d5:=af.cell d5 (HS.out _ aI);have zx:xb<wr.heap.size:=aac d0;obtain⟨x,a6⟩:∃x,x=bs[i]:=⟨_,rfl⟩
       rw [<-a6] at bg be bD bH d0 d1 d2 d3 d4 d5;have bL:=hid bg;have bT:=hid be;have bt:f.blocks[i]?=some x:=by rw [<-bI.out,a6,Aaa hib]
       have br:=hid bt;have Hs:Hid (acL bs (i+1) S0=afY i x.list x.list.length (agJ i x.phis x.phis.length s)):=by
        show _=_;rw [acL,<-hs,Aaf,Aaa hib,<-a6];rfl
       have bh:agV w (wr.alloc (.cells #[.slice pa x.phis.length pc,.slice la x.list.length lc,.int .i64 x.fin.kind,.bool x.fin.on.reg,.int .i64 x.fin.on.n,.slice ta x.fin.to.length tc] 46)) RB s.1:=af.grow bE;clear af hs aq ar hx bg be a6 bt;go_wp2_with fail;clear d0 d1 d2 d3 d4 d5;obtain⟨W1,bd⟩:∃W1,W1=wr.alloc (.cells #[.slice pa x.phis.length pc,.slice la x.list.length lc,.int .i64 x.fin.kind,.bool x.fin.on.reg,.int .i64 x.fin.on.n,.slice ta x.fin.to.length tc] 46):=⟨_,rfl⟩
       rw [<-bd] at bh ⊢;have e1:W1.cell? ⟨wr.heap.size,1,none⟩=some (.slice la x.list.length lc):=by rw [bd];simp
       have bA:wr.heap.size≠RB:=fun e=>by
        have:=(Aag.1 ax.out.row).1;omega
       obtain⟨BX,bu⟩:∃BX,BX=wr.heap.size:=⟨_,rfl⟩
       rw [<-bu] at e1 bA ⊢;have E1:=hid e1;have bz:=hid bh;obtain⟨s0,bn⟩:∃s0,s0=s:=⟨_,rfl⟩
       rw [<-bn] at Hs;have bB:=hid bn;clear bd e1 bh bn bu;go_loopw [3,40] (fun s3 s40 wi=>∃(j:Nat) (s':WSt),j<=x.phis.length∧s3 = .bool s'.2∧s40 = .int .i64 j∧s'=agJ i x.phis j s0∧agV w wi RB s'.1∧s'.1.length=n∧W1.grownBy wi (some RB)) (fun _ s40 _=>x.phis.length - (intOf s40).toNat)
       case atStart=>exact⟨0,s,Aaj _,rfl,rfl,bB.out.symm,bz.out,aC.out,World.grownBy.refl _ _⟩
       case round =>
        clear ax aC bz bB;obtain⟨j,s,hj,rfl,rfl,hs,af,aq,aN⟩:=hrel;have ax:=hid af;have aC:=hid aq;have b6:=hid aN
        by_cases hjp:j<x.phis.length
        . obtain⟨pb,bf,cs,rfl,aA,hp,-,ar⟩:=bL.out.get hjp
          obtain⟨fa,fc,rfl,-,-,-⟩:=hp.opens;obtain⟨d0,d1⟩:=ar.get2;have d0:=af.cell d0 (HS.out _ aA);have d1:=af.cell d1 (HS.out _ aA);have zp:pb<wr.heap.size:=aac d0;obtain⟨y,hy⟩:∃y,y=x.phis[j]:=⟨_,rfl⟩
          rw [<-hy] at d0 d1;have aX:=(Hf.out.phi i x br.out y (by rw [hy];exact Aaq _)).1;obtain⟨q,hq⟩:=Abb aX.1;rw [hq] at d0;have bm:q<n:=by rw [Hn.out];omega
          have au:agV w (wr.alloc (.cells #[.int .i64 (q:Int),.slice fa y.src.length fc] 115)) RB s.1:=af.grow bE;have aU:W1.grownBy (wr.alloc (.cells #[.int .i64 (q:Int),.slice fa y.src.length fc] 115)) (some RB):=aN.trans (World.grownBy_alloc _ _ _);have aZ:=hid aU;have aj:=ajV au C5.out aJ aq (by omega) bm (i:Int) (-1);have ag:=hid aj;obtain⟨o,ho⟩:∃o,o=(!decide (0<=(s.1.getD q (-1,-1)).1)):=⟨_,rfl⟩
          have aE:Hid ((wrF s (q:Int) i (-1)).2=(o&&s.2)):=by show _=_;rw [asU,ho]
          have aD:Hid (agJ i x.phis (j+1) s0=wrF s (q:Int) i (-1)):=by
           show _=_;rw [agJ,<-hs,Aaf,Aaa hjp,<-hy,<-hq];rfl
          have aP:Hid ((wrF s (q:Int) i (-1)).1.length=n):=by show _=_;rw [ah7,aq]
          rw [<-ho] at ag;obtain⟨s1,s2⟩:=s;clear af hs aq aN aj ho au aU hq hy aX ar hp;cases o with
          | true =>
            go_wp2_with (first | (go_at_call 79;refine (ag.out).mono ?_;rintro e w3 ⟨rfl,ae,al⟩;have ak:=hid ae;have az:=hid al;clear ae al));go_roundw
            case rel=>exact⟨j+1,wrF (s1,s2) (q:Int) i (-1),by omega,by rw [aE.out];rfl,by go_num,aD.out.symm,ak.out,aP.out,aZ.out.trans az.out⟩
            case measure=>simp [intOf];omega
          | false =>
            go_wp2_with (first | (go_at_call 79;refine (ag.out).mono ?_;rintro e w3 ⟨rfl,ae,al⟩;have ak:=hid ae;have az:=hid al;clear ae al));go_roundw
            case rel=>exact⟨j+1,wrF (s1,s2) (q:Int) i (-1),by omega,by rw [aE.out];rfl,by go_num,aD.out.symm,ak.out,aP.out,aZ.out.trans az.out⟩
            case measure=>simp [intOf];omega
        . have aT:j=x.phis.length:=by omega
          have e1:=aN.cell (a:=⟨BX,1,none⟩) E1.out (fun e=>bA (Option.some.inj e));have zB:BX<wr.heap.size:=aac e1;have aD:Hid (acL bs (i+1) S0=afY i x.list x.list.length s):=by show _=_;rw [Hs.out,hs,aT]
          obtain⟨a7,aF⟩:∃a7,a7=s:=⟨_,rfl⟩
          rw [<-aF] at aD;have aY:=hid aF;clear af hs aq aN aT aF;go_wp2_with fail;clear e1;go_loopw [3,56] (fun s3 s56 wi=>∃(j:Nat) (s':WSt),j<=x.list.length∧s3 = .bool s'.2∧s56 = .int .i64 j∧s'=afY i x.list j a7∧agV w wi RB s'.1∧s'.1.length=n) (fun _ s56 _=>x.list.length - (intOf s56).toNat)
          case atStart=>exact⟨0,s,Aaj _,rfl,rfl,aY.out.symm,ax.out,aC.out⟩
          case round =>
           clear ax aC aY;obtain⟨j',s,b7,rfl,rfl,hs,af,aq⟩:=hrel;have ax:=hid af;have aC:=hid aq
           by_cases hjl:j'<x.list.length
           . obtain⟨pb,bf,cs,rfl,aA,hp,-,ar⟩:=bT.out.get hjl
             obtain⟨fa,fc,rfl,-,-,-⟩:=hp.opens;obtain⟨d0,d1,d2,d3,d4,d5,d6,d7⟩:=ar.get8;have d0:=af.cell d0 (HS.out _ aA);have d1:=af.cell d1 (HS.out _ aA);have d2:=af.cell d2 (HS.out _ aA);have d3:=af.cell d3 (HS.out _ aA);have d4:=af.cell d4 (HS.out _ aA);have d5:=af.cell d5 (HS.out _ aA);have d6:=af.cell d6 (HS.out _ aA);have d7:=af.cell d7 (HS.out _ aA);have zp:pb<wr.heap.size:=aac d0;obtain⟨y,hy⟩:∃y,y=x.list[j']:=⟨_,rfl⟩
             rw [<-hy] at d0 d1 d2 d3 d4 d5 d6 d7;have aX:=(Hf.out.ins i x br.out y (by rw [hy];exact Aaq _)).dst;obtain⟨W2,aS⟩:∃W2,W2=wr.alloc (.cells #[.int .i64 y.op,.int .i64 y.dst,.bool y.a.reg,.int .i64 y.a.n,.bool y.b.reg,.int .i64 y.b.n,.int .i64 y.fn,.slice fa y.args.length fc] 49):=⟨_,rfl⟩
             have au:agV w W2 RB s.1:=by rw [aS];exact af.grow bE
             have bN:=hid au;have aD:Hid (afY i x.list (j'+1) a7=akW i j' y s):=by
              show _=_;rw [afY,<-hs,Aaf,Aaa hjl,<-hy];rfl
             by_cases aK:y.dst<0
             . have q1:decide (y.dst<0)=true:=decide_eq_true aK
               have aL:Hid (akW i j' y s=s):=by show _=_;unfold akW;rw [if_pos aK]
               have ae:=au;rw [aS] at ae;have ak:=hid ae;obtain⟨s1,s2⟩:=s;clear af hs aq au ae hy ar hp aS aX;go_wp2_with fail;go_roundw
               case rel=>exact⟨j'+1,(s1,s2),by omega,rfl,by go_num,(aD.out.trans aL.out).symm,ak.out,aC.out⟩
               case measure=>simp [intOf];omega
             . have q1:decide (y.dst<0)=false:=decide_eq_false aK
               obtain⟨q,hq⟩:=Abb (by omega:0<=y.dst);have bm:q<n:=by rw [Hn.out];omega
               have aj:=ajV au C5.out aJ aq (by omega) bm (i:Int) (j':Int);rw [aS,hq] at aj;have ag:=hid aj;obtain⟨o,ho⟩:∃o,o=(!decide (0<=(s.1.getD q (-1,-1)).1)):=⟨_,rfl⟩
               have aE:Hid ((wrF s (q:Int) i j').2=(o&&s.2)):=by show _=_;rw [asU,ho]
               have aL:Hid (akW i j' y s=wrF s (q:Int) i j'):=by show _=_;unfold akW;rw [if_neg aK,hq]
               have aP:Hid ((wrF s (q:Int) i j').1.length=n):=by show _=_;rw [ah7,aq]
               rw [<-ho] at ag;rw [hq] at d1 q1;obtain⟨s1,s2⟩:=s;clear af hs aq aj ho au hq hy aX ar hp aS aK;cases o with
               | true =>
                 go_wp2_with (first | (go_at_call 79;refine (ag.out).mono ?_;rintro e w3 ⟨rfl,ae,al⟩;have ak:=hid ae;have az:=hid al;clear ae al));go_roundw
                 case rel=>exact⟨j'+1,wrF (s1,s2) (q:Int) i j',by omega,by rw [aE.out];rfl,by go_num,(aD.out.trans aL.out).symm,ak.out,aP.out⟩
                 case measure=>simp [intOf];omega
               | false =>
                 go_wp2_with (first | (go_at_call 79;refine (ag.out).mono ?_;rintro e w3 ⟨rfl,ae,al⟩;have ak:=hid ae;have az:=hid al;clear ae al));go_roundw
                 case rel=>exact⟨j'+1,wrF (s1,s2) (q:Int) i j',by omega,by rw [aE.out];rfl,by go_num,(aD.out.trans aL.out).symm,ak.out,aP.out⟩
                 case measure=>simp [intOf];omega
           . have aQ:j'=x.list.length:=by omega
             have aL:Hid (acL bs (i+1) S0=s):=by show _=_;rw [aD.out,hs,aQ]
             clear af hs aq aQ;go_wp2_with fail;go_roundw
             case rel=>exact⟨i+1,s,by omega,rfl,by go_num,aL.out.symm,ax.out,aC.out⟩
             case measure=>simp [intOf];omega
     . have a1:i=bs.length:=by omega
       have bj:Hid (acG f=s):=by show _=_;rw [<-Hs.out,hs,a1]
       clear af hs aq a1;go_wp2_with fail;go_ret;rw [bj.out];exact⟨rfl,ax.out⟩
end
end Go.Proofs.YtpeejlpcikefcaaGreatDoor
