import Derived.Test.YtgekbfgplclmeaaDoorPRest0
import Derived.Test.YtgekbfgplclmeaaDoorPHotW
import Derived.Shelf.Bits.Mul64
import Derived.Laws.CopyOwn
/- weigh.By, plainly: what it answers. What code.Check leaves: small units, functions whose blocks may be laid. A row of structs that is written one by one. WeighRest, plainly: laid twice it lies as laid once. The words of the memory that never change, plainly. still.within; turnerysame.Bools; turneryref5.WordsOf; turneryref6.StillFirst. slices.Repeat of a list of one Boolean; math/bits.Mul of 1 and a small number. slices.Repeat of a list of one number. -/
set_option maxHeartbeats 1000000
namespace Go.Proofs.YtgekbfgplclmeaaDoor
section
open Go.RowKit
end
section
open Go.RowKit
theorem acJ {u:aax}(h:aak u=(0,0)){k:Nat}{f:aal}(hf:u.funcs[k]?=some f) :
 adi (abK u.globals u.funcs k) f=0∧ab6 u.funcs f=0:=by
 obtain⟨-,-,-,h2,h3⟩:=acK (u:=u) (by rw [h]);have g2:=h2 k;have g3:=h3 k;unfold abp at g2;unfold aa7 at g3;rw [hf] at g2 g3;exact⟨g2,g3⟩
theorem afk {l:List aad}{x:aad}(h:x∈l):x.phis.length+x.list.length<=aa1 l:=by
 unfold aa1
 induction l with
 | nil=>cases h
 | cons a l ih =>
   rw [Aa2,List.sum_cons];rcases Aax.1 h with rfl | h
   . omega
   . have:=ih h;omega
theorem agv {fs:List aal}{regs:Int}{x:abo}(h:aed fs regs x=0):x.args.length=0∨∃f∈fs,(x.args.length:Int)=f.params:=by
 unfold aed at h
 by_cases h1:¬(1<=x.op∧x.op<=22)
 . rw [if_pos h1] at h;omega
 rw [if_neg h1] at h
 by_cases h2:aco x=true
 . rw [if_pos h2] at h;omega
 rw [if_neg h2] at h
 by_cases h3:(shpD x.op=true∧¬(x.op=20∧x.dst = -1))∧ae3 regs x.dst≠0
 . rw [if_pos h3] at h;omega
 rw [if_neg h3] at h
 by_cases hop:x.op=20
 . right
   unfold abW at h
   by_cases a1:abr regs x.a≠0
   . rw [if_pos a1] at h;exact absurd h a1
   rw [if_neg a1] at h
   by_cases a2:abr regs x.b≠0
   . rw [if_pos a2] at h;exact absurd h a2
   rw [if_neg a2] at h;unfold abS at h;rw [if_neg (by simpa using hop)] at h
   by_cases b1:¬(0<=x.fn∧x.fn<=(fs.length:Int) - 1)
   . rw [if_pos b1] at h;omega
   rw [if_neg b1] at h
   by_cases b2:(x.args.length:Int)≠(fs.getD x.fn.toNat ⟨ByteArray.empty,0,0,[]⟩).params
   . rw [if_pos b2] at h;omega
   have hk:x.fn.toNat<fs.length:=by omega
   rw [Aab,Aaa hk,Option.getD_some] at b2;exact⟨_,Aai hk,by omega⟩
 . left
   unfold aco at h2;simp only [Bool.or_eq_true,Bool.and_eq_true,decide_eq_true_eq,not_or,not_and] at h2;have:=(h2.2 hop).2;omega
theorem ago {u:aax}(h:aak u=(0,0)):(∀g∈u.globals,g.init.length<=1048576)∧∀f∈u.funcs,al0 f:=by
 obtain⟨-,-,h1,-,-⟩:=acK (u:=u) (by rw [h]);have aj:∀f∈u.funcs,f.params<=6:=fun f hf=>by
  obtain⟨i,hi,rfl⟩:=Aav hf;exact (acZ (acJ h (Aaa hi)).1).2.2.2.1
 refine⟨fun g hg=>?_,fun f hf=>?_⟩
 . obtain⟨i,hi,rfl⟩:=Aav hg
   have g1:=h1 i;unfold acp at g1;rw [Aaa hi] at g1;have:=adT g1;omega
 . obtain⟨i,hi,rfl⟩:=Aav hf
   obtain⟨hh,hb⟩:=acJ h (Aaa hi);obtain⟨-,-,-,-,-,-,-,aF,hm⟩:=acZ hh;refine⟨by omega,fun x hx=>?_⟩;have aL:=afk hx;obtain⟨j,hj,rfl⟩:=Aav hx;obtain⟨e1,e2⟩:=adP.1 hb;have he:=e1 j hj;unfold adS at he;rw [Aaa hj] at he;have aJ:=ahs.1 he;obtain⟨aE,aB⟩:=(adf (Aaa hj)).1 (e2 j hj);refine⟨by omega,by omega,by omega,fun p hp=>?_,fun x hx=>?_⟩
   . have h3:=afR.1 (aE p hp)
     rw [abJ hj] at h3;rw [h3.2.2.1]
     have := acw j u.funcs[i].blocks 0 (fun x hx => by
      obtain ⟨j', al, rfl⟩ := Aav hx
      have he := e1 j' al
      unfold adS at he
      rw [Aaa al] at he
      have := ahs.1 he
      omega)
     omega
   . rcases agv (aB x hx) with h4 | ⟨f,hf,h4⟩
     . omega
     . have:=aj f hf;omega
end
section
open Go.RowKit
end
section
open Go.RowKit
def afv(g:aat):List Int:=g.init++List.replicate (g.size - g.init.length).toNat 0
def abn(gs:List aat)(k:Nat):List Int:=(gs.take k).flatMap afv
def acF(gs:List aat):List Int:=abn gs gs.length
theorem aeY {gs:List aat}{k:Nat}(h:k<gs.length):abn gs (k+1)=abn gs k++afv gs[k]:=by
 unfold abn;rw [Aaz h,List.flatMap_append];simp
theorem ait {g:aat}(h:(g.init.length:Int)<=g.size):((afv g).length:Int)=g.size:=by
 unfold afv;rw [Aak,Aar];omega
theorem afw {gs:List aat}(h:∀g∈gs,(g.init.length:Int)<=g.size):∀k,k<=gs.length->((abn gs k).length:Int)=aaY gs k:=by
 intro k
 induction k with
 | zero=>intro _;simp [abn,aaY]
 | succ k ih =>
   intro hk;rw [aeY hk,abX hk,Aak,Int.natCast_add,ih (by omega),ait (h _ (Aai hk))]
end
section
open Go.RowKit
theorem aiu {gs:List aat}(h:∀g∈gs,0<=g.size∧g.size<=200):∀k,k<=gs.length->0<=aaY gs k∧aaY gs k<=200 * k:=by
 intro k
 induction k with
 | zero=>intro _;simp [aaY]
 | succ k ih =>
   intro hk;have:=ih (by omega);have h2:=h _ (Aai hk);rw [abX hk];omega
end
section
open Go.RowKit Go.Lib
theorem ai9(x y:Nat)(hx:x<18446744073709551616)(hy:y<18446744073709551616)(w:World) :
 Calls Tryd.prog 108 #[.int .u64 x,.int .u64 y] w fun e w'=>e = .returned (.tuple #[.int .u64 ((x * y / 18446744073709551616:Nat):Int),.int .u64 ((x * y % 18446744073709551616:Nat):Int)])∧w=w':=by
 obtain⟨bd,bt,bw,aA⟩:=Lib.mul64_hi x y hx hy;have ba:=Lib.half_mul_le (a:=x / 4294967296) (b:=y / 4294967296) (by omega) (by omega);have bb:=Lib.half_mul_le (a:=x / 4294967296) (b:=y % 4294967296) (by omega) (by omega);have bc:=Lib.half_mul_le (a:=x % 4294967296) (b:=y / 4294967296) (by omega) (by omega);have aw:x / 4294967296 * (y / 4294967296)<18446744073709551616:=by omega
 have ax:x / 4294967296 * (y % 4294967296)<18446744073709551616:=by omega
 have ay:x % 4294967296 * (y / 4294967296)<18446744073709551616:=by omega
 have az:x / 4294967296 * (y / 4294967296)+(x / 4294967296 * (y % 4294967296)+x % 4294967296 * (y % 4294967296) / 4294967296) / 4294967296<18446744073709551616:=by omega
 have bh:x / 4294967296 * (y / 4294967296)+(x / 4294967296 * (y % 4294967296)+x % 4294967296 * (y % 4294967296) / 4294967296) / 4294967296+((x / 4294967296 * (y % 4294967296)+x % 4294967296 * (y % 4294967296) / 4294967296) % 4294967296+x % 4294967296 * (y / 4294967296)) / 4294967296<18446744073709551616:=by omega
 go_enter Tryd.func108,Tryd.ntmps108;go_wp2;simp only [Mul64.maskN x hx,Mul64.maskN y hy,Mul64.divN,Mul64.mulN,Mul64.addN,Mul64.wrapN _ bd,Mul64.wrapN _ ax,Mul64.wrapN _ bt,Mul64.maskN _ bt,Mul64.wrapN _ ay,Mul64.wrapN _ bw,Mul64.wrapN _ aw,Mul64.wrapN _ az,Mul64.wrapN _ bh,Mul64.wrapM (x * y)];rw [aA];go_ret2;exact⟨rfl,rfl⟩
theorem afm(y:Nat)(hy:y<=1048576)(w:World) :
 Calls Tryd.prog 82 #[.int .u64 1,.int .u64 (y:Int)] w fun e w'=>e = .returned (.tuple #[.int .u64 0,.int .u64 (y:Int)])∧w=w':=by
 have ag:=ai9 1 y (by decide) (by omega) w;rw [Nat.one_mul,Nat.div_eq_of_lt (by omega),Nat.mod_eq_of_lt (by omega)] at ag;have H:=hid ag;clear ag;go_enter Tryd.func82,Tryd.ntmps82;go_wp2_with (go_at_call 108;refine H.out.mono ?_;rintro e w' ⟨rfl,rfl⟩);go_ret2;exact⟨rfl,rfl⟩
theorem afs {α:Type}(a b:α){m n c:Nat}(h:m+c<=n):splice (List.replicate m a++List.replicate (n - m) b) m (List.replicate c a)=List.replicate (m+c) a++List.replicate (n - (m+c)) b:=by
 unfold splice;rw [List.take_left' (by simp),List.drop_append,Aar,Aar,List.drop_eq_nil_of_le (by simp),Aa7,List.drop_replicate,<-List.replicate_append_replicate,Aa9,show n - m - (m+c - m)=n - (m+c) by omega]
theorem abk(z:Value)(n:Nat):madeCells #[z] n=(List.replicate n z).toArray:=by
 apply Array.ext
 . simp [madeCells]
 . intro i h1 h2
   simp [madeCells,Nat.mod_one]
end
section
open Go.RowKit Go.Lib
theorem acr:(Tryd.prog.info? 3).map (fun i=>(i.zero,i.size,i.bytes))=some (some (.int .i64 0),1,8):=by kernel_rfl
theorem afI:(Tryd.prog.info? 3).map (·.size)=some 1:=by kernel_rfl
set_option maxRecDepth 100000 in
theorem ae5(ad:Addr)(c:Nat)(x:Int)(n:Nat)(hn:n<=1048576)(w:World)(hx:w.cell? (ad.add 0)=some (.int .i64 x)) :
 Calls Tryd.prog 79 #[.slice (some ad) 1 c,.int .i64 (n:Int)] w fun e w' =>
  ∃g,e = .returned (.slice (some ⟨g,0,none⟩) n n)∧w.heap.size<=g∧w'.heap[g]?=some (.cells (List.replicate n (Value.int .i64 x)).toArray 3 (0,0))∧Below w.heap.size w w':=by
 have aD:=run_make_row' (P:=Tryd.prog) 26 3 (.int .i64 0) 8 Tryd.underlying26 acr rfl .i64 .i64 n (by omega) (by omega);have Hx:=hid hx;have aR:IntKind.u64.wrap (n:Int)=(n:Int):=by rw [IntKind.wrap_u64];omega
 have aO:decide ((n:Int)<0)=false:=decide_eq_false (by omega);have aP:decide (9223372036854775807<(n:Int))=false:=decide_eq_false (by omega);clear hx;go_enter Tryd.func79,Tryd.ntmps79;have an:(ad.add 0).block<w.heap.size:=World.block_lt_of_cell? w _ Hx.out
 go_wp2_with (first
  | (go_at_call 82; (with_reducible refine (afm n hn w).mono ?_); rintro e w' ⟨rfl, rfl⟩)
  | (with_reducible refine wpList_copy_splice rfl (.tmp 31) (.tmp 32) 26 26 rfl 3 Tryd.underlying26 afI _ _ n n 1 c rfl rfl w.heap.size 0 (List.replicate n (Value.int .i64 0)) 3 ?_ (List.replicate (min 1 n) (Value.int .i64 x)) ?_ ?_ ?_ ?_ w.heap.size w ?_ (Aad _) ?_
     . rw [heap_alloc_new, abk]
     . simp
     . intro h0
       refine ⟨rfl, ad, rfl, fun j v hj => ?_⟩
       have ai : j = 0 := by
        have := (Aae.1 hj).1
        rw [Aar] at this
        omega
       subst ai
       rw [List.getElem?_replicate] at hj
       split at hj
       . cases hj
         exact ((Below.alloc (Below.refl w.heap.size w) (Aad _) _).cell an).trans Hx.out
       . cases hj
     . simp; omega
     . intro v hv; rw [Abd hv]; rfl
     . exact bE
     intro w2 af ae
     have au : Hid (w2.heap[w.heap.size]? = some (.cells (List.replicate (min 1 n) (Value.int .i64 x) ++ List.replicate (n - min 1 n) (Value.int .i64 0)).toArray 3 (0, 0))) := by
      have h := afs (Value.int .i64 x) (Value.int .i64 0) (m := 0) (n := n) (c := min 1 n) (by omega)
      simp only [List.replicate_zero, Aa7, Nat.sub_zero, Aac] at h
      have h2 := af.out
      rw [h] at h2
      exact h2
     have aq := hid ae
     rw [Aar]
     clear af ae an))
 clear aD;go_loopw [8] (fun i wr=>∃m:Nat,m<=n∧min 1 n<=m∧i = .int .i64 (m:Int)∧Hid (wr.heap[w.heap.size]?=some (.cells (List.replicate m (Value.int .i64 x)++List.replicate (n - m) (Value.int .i64 0)).toArray 3 (0,0)))∧Hid (Below w.heap.size w wr)) (fun i _=>n - (intOf i).toNat)
 case atStart=>exact⟨min 1 n,by omega,Aad _,by first | rfl | simp [goInt],au,aq⟩
 case round =>
  obtain⟨m,hm,aC,rfl,HG,HB⟩:=hrel
  by_cases hlt:m<n
  . have aK:0<m:=by omega
    have aM:¬n=m:=by omega
    have aN:((n:Int) - (m:Int)).toNat=n - m:=by omega
    obtain⟨d,hd⟩:∃d,d=min m (n - m):=⟨_,rfl⟩
    have aG:0<d:=by omega
    have aH:d<=n - m:=by omega
    have ak:m+d<=n:=by omega
    have aI:d<=m:=by omega
    have Hd:=hid hd;have aQ:IntKind.i64.wrap ((m:Int)+(d:Int))=((m+d:Nat):Int):=by rw [IntWalk.i64_in _ (by omega)];simp
    clear hd;clear aC;go_wp2_with fail
    go_region_law
     (refine step_copy_splice (by rfl) (.tmp 41) (.tmp 44) 26 26 (by rfl) 3 Tryd.underlying26 afI (some ⟨w.heap.size, m, none⟩) (some ⟨w.heap.size, 0, none⟩) (n - m) (n - m) m n ?_ ?_ w.heap.size m (List.replicate m (Value.int .i64 x) ++ List.replicate (n - m) (Value.int .i64 0)) 3 HG.out (List.replicate d (Value.int .i64 x)) ?_ ?_ ?_ ?_ w.heap.size w ?_ (Aad _) ?_
      . simp [go_sem]
      . simp [go_sem]
      . rw [Aar]; exact Hd.out
      . intro _
        refine ⟨rfl, ⟨w.heap.size, 0, none⟩, rfl, fun j v hj => ?_⟩
        have ai : j < d := by
         have := (Aae.1 hj).1
         rwa [Aar] at this
        rw [List.getElem?_replicate, if_pos ai] at hj
        cases hj
        rw [show (⟨w.heap.size, 0, none⟩ : Addr).add j = ⟨w.heap.size, j, none⟩ by unfold Addr.add; split <;> simp_all]
        refine (aaH (w := _) HG.out).trans ?_
        rw [List.getElem?_toArray, Abh (by rw [Aar]; omega), List.getElem?_replicate, if_pos (by omega)]
      . simp; omega
      . intro v hv; rw [Abd hv]; rfl
      . exact HB.out.drew
      intro w2 af ae
      have av : Hid (w2.heap[w.heap.size]? = some (.cells (List.replicate (m + d) (Value.int .i64 x) ++ List.replicate (n - (m + d)) (Value.int .i64 0)).toArray 3 (0, 0))) := by
       have h2 := af.out
       have h3 := afs (Value.int .i64 x) (Value.int .i64 0) (m := m) (n := n) (c := d) ak
       rw [h3] at h2
       exact h2
      have ar := hid ae
      rw [Aar]
      clear af ae)
    all_goals
     go_simp
     (try go_wp2_with fail)
     go_roundw
     case rel=>exact⟨m+d,ak,by omega,by first | rfl | go_num,av,ar⟩
     case measure=>simp [intOf];omega
  . obtain rfl:m=n:=by omega
    have ao:Hid (wr.heap[w.heap.size]?=some (.cells (List.replicate m (Value.int .i64 x)).toArray 3 (0,0))):=by
     have h:=HG.out;rw [Nat.sub_self,List.replicate_zero,List.append_nil] at h;exact h
    go_wp2_with fail;go_ret;exact⟨w.heap.size,rfl,Aad _,ao.out,HB.out⟩
end
end Go.Proofs.YtgekbfgplclmeaaDoor
