import Derived.Test.YtnkfdeiigplhoaaGreatDoorPQuietO
import Derived.Shelf.Bits.Mul64
import Derived.Laws.CopyOwn
/- slices.Repeat of a list of one Boolean; math/bits.Mul of 1 and a small number. slices.Repeat of a list of one number. -/
set_option maxHeartbeats 1000000
namespace Go.Proofs.YtnkfdeiigplhoaaGreatDoor
section
open Go.RowKit Go.Lib
theorem al4(x y:Nat)(hx:x<18446744073709551616)(hy:y<18446744073709551616)(w:World) :
 Calls Tryz.prog 136 #[.int .u64 x,.int .u64 y] w fun e w'=>e = .returned (.tuple #[.int .u64 ((x * y / 18446744073709551616:Nat):Int),.int .u64 ((x * y % 18446744073709551616:Nat):Int)])∧w=w':=by
 obtain⟨bd,bt,bw,ay⟩:=Lib.mul64_hi x y hx hy;have ba:=Lib.half_mul_le (a:=x / 4294967296) (b:=y / 4294967296) (by omega) (by omega);have bb:=Lib.half_mul_le (a:=x / 4294967296) (b:=y % 4294967296) (by omega) (by omega);have bc:=Lib.half_mul_le (a:=x % 4294967296) (b:=y / 4294967296) (by omega) (by omega);have au:x / 4294967296 * (y / 4294967296)<18446744073709551616:=by omega
 have av:x / 4294967296 * (y % 4294967296)<18446744073709551616:=by omega
 have aw:x % 4294967296 * (y / 4294967296)<18446744073709551616:=by omega
 have ax:x / 4294967296 * (y / 4294967296)+(x / 4294967296 * (y % 4294967296)+x % 4294967296 * (y % 4294967296) / 4294967296) / 4294967296<18446744073709551616:=by omega
 have bh:x / 4294967296 * (y / 4294967296)+(x / 4294967296 * (y % 4294967296)+x % 4294967296 * (y % 4294967296) / 4294967296) / 4294967296+((x / 4294967296 * (y % 4294967296)+x % 4294967296 * (y % 4294967296) / 4294967296) % 4294967296+x % 4294967296 * (y / 4294967296)) / 4294967296<18446744073709551616:=by omega
 go_enter Tryz.func136,Tryz.ntmps136;go_wp2;simp only [Mul64.maskN x hx,Mul64.maskN y hy,Mul64.divN,Mul64.mulN,Mul64.addN,Mul64.wrapN _ bd,Mul64.wrapN _ av,Mul64.wrapN _ bt,Mul64.maskN _ bt,Mul64.wrapN _ aw,Mul64.wrapN _ bw,Mul64.wrapN _ au,Mul64.wrapN _ ax,Mul64.wrapN _ bh,Mul64.wrapM (x * y)];rw [ay];go_ret2;exact⟨rfl,rfl⟩
theorem akO(y:Nat)(hy:y<=1048576)(w:World) :
 Calls Tryz.prog 100 #[.int .u64 1,.int .u64 (y:Int)] w fun e w'=>e = .returned (.tuple #[.int .u64 0,.int .u64 (y:Int)])∧w=w':=by
 have ag:=al4 1 y (by decide) (by omega) w;rw [Nat.one_mul,Nat.div_eq_of_lt (by omega),Nat.mod_eq_of_lt (by omega)] at ag;have H:=hid ag;clear ag;go_enter Tryz.func100,Tryz.ntmps100;go_wp2_with (go_at_call 136;refine H.out.mono ?_;rintro e w' ⟨rfl,rfl⟩);go_ret2;exact⟨rfl,rfl⟩
theorem ag6 {α:Type}(a b:α){m n c:Nat}(h:m+c<=n):splice (List.replicate m a++List.replicate (n - m) b) m (List.replicate c a)=List.replicate (m+c) a++List.replicate (n - (m+c)) b:=by
 unfold splice;rw [List.take_left' (by simp),List.drop_append,Aa6,Aa6,List.drop_eq_nil_of_le (by simp),Abf,List.drop_replicate,<-List.replicate_append_replicate,Abh,show n - m - (m+c - m)=n - (m+c) by omega]
theorem abn(z:Value)(n:Nat):madeCells #[z] n=(List.replicate n z).toArray:=by
 apply Array.ext
 . simp [madeCells]
 . intro i h1 h2
   simp [madeCells,Nat.mod_one]
end
section
open Go.RowKit Go.Lib
theorem acA:(Tryz.prog.info? 3).map (fun i=>(i.zero,i.size,i.bytes))=some (some (.int .i64 0),1,8):=by kernel_rfl
theorem aht:(Tryz.prog.info? 3).map (·.size)=some 1:=by kernel_rfl
set_option maxRecDepth 100000 in
theorem ad4(ad:Addr)(c:Nat)(x:Int)(n:Nat)(hn:n<=1048576)(w:World)(hx:w.cell? (ad.add 0)=some (.int .i64 x)) :
 Calls Tryz.prog 128 #[.slice (some ad) 1 c,.int .i64 (n:Int)] w fun e w' =>
  ∃g,e = .returned (.slice (some ⟨g,0,none⟩) n n)∧w.heap.size<=g∧w'.heap[g]?=some (.cells (List.replicate n (Value.int .i64 x)).toArray 3 (0,0))∧Below w.heap.size w w':=by
 have aA:=run_make_row' (P:=Tryz.prog) 26 3 (.int .i64 0) 8 Tryz.underlying26 acA rfl .i64 .i64 n (by omega) (by omega);have Hx:=hid hx;have aK:IntKind.u64.wrap (n:Int)=(n:Int):=by rw [IntKind.wrap_u64];omega
 have aH:decide ((n:Int)<0)=false:=decide_eq_false (by omega);have aI:decide (9223372036854775807<(n:Int))=false:=decide_eq_false (by omega);clear hx;go_enter Tryz.func128,Tryz.ntmps128;have ak:(ad.add 0).block<w.heap.size:=World.block_lt_of_cell? w _ Hx.out
 go_wp2_with (first
  | (go_at_call 100; (with_reducible refine (akO n hn w).mono ?_); rintro e w' ⟨rfl, rfl⟩)
  | (with_reducible refine wpList_copy_splice rfl (.tmp 31) (.tmp 32) 26 26 rfl 3 Tryz.underlying26 aht _ _ n n 1 c rfl rfl w.heap.size 0 (List.replicate n (Value.int .i64 0)) 3 ?_ (List.replicate (min 1 n) (Value.int .i64 x)) ?_ ?_ ?_ ?_ w.heap.size w ?_ (Aad _) ?_
     . rw [heap_alloc_new, abn]
     . simp
     . intro h0
       refine ⟨rfl, ad, rfl, fun j v hj => ?_⟩
       have ai : j = 0 := by
        have := (Aae.1 hj).1
        rw [Aa6] at this
        omega
       subst ai
       rw [List.getElem?_replicate] at hj
       split at hj
       . cases hj
         exact ((Below.alloc (Below.refl w.heap.size w) (Aad _) _).cell ak).trans Hx.out
       . cases hj
     . simp; omega
     . intro v hv; rw [Abz hv]; rfl
     . exact bE
     intro w2 af ae
     have aq : Hid (w2.heap[w.heap.size]? = some (.cells (List.replicate (min 1 n) (Value.int .i64 x) ++ List.replicate (n - min 1 n) (Value.int .i64 0)).toArray 3 (0, 0))) := by
      have h := ag6 (Value.int .i64 x) (Value.int .i64 0) (m := 0) (n := n) (c := min 1 n) (by omega)
      simp only [List.replicate_zero, Abf, Nat.sub_zero, Aab] at h
      have h2 := af.out
      rw [h] at h2
      exact h2
     have an := hid ae
     rw [Aa6]
     clear af ae ak))
 clear aA;go_loopw [8] (fun i wr=>∃m:Nat,m<=n∧min 1 n<=m∧i = .int .i64 (m:Int)∧Hid (wr.heap[w.heap.size]?=some (.cells (List.replicate m (Value.int .i64 x)++List.replicate (n - m) (Value.int .i64 0)).toArray 3 (0,0)))∧Hid (Below w.heap.size w wr)) (fun i _=>n - (intOf i).toNat)
 case atStart=>exact⟨min 1 n,by omega,Aad _,by first | rfl | simp [goInt],aq,an⟩
 case round =>
  obtain⟨m,hm,az,rfl,HG,HB⟩:=hrel
  by_cases hlt:m<n
  . have aE:0<m:=by omega
    have aF:¬n=m:=by omega
    have aG:((n:Int) - (m:Int)).toNat=n - m:=by omega
    obtain⟨d,hd⟩:∃d,d=min m (n - m):=⟨_,rfl⟩
    have aB:0<d:=by omega
    have aC:d<=n - m:=by omega
    have aj:m+d<=n:=by omega
    have aD:d<=m:=by omega
    have Hd:=hid hd;have aJ:IntKind.i64.wrap ((m:Int)+(d:Int))=((m+d:Nat):Int):=by rw [IntWalk.i64_in _ (by omega)];simp
    clear hd;clear az;go_wp2_with fail
    go_region_law
     (refine step_copy_splice (by rfl) (.tmp 41) (.tmp 44) 26 26 (by rfl) 3 Tryz.underlying26 aht (some ⟨w.heap.size, m, none⟩) (some ⟨w.heap.size, 0, none⟩) (n - m) (n - m) m n ?_ ?_ w.heap.size m (List.replicate m (Value.int .i64 x) ++ List.replicate (n - m) (Value.int .i64 0)) 3 HG.out (List.replicate d (Value.int .i64 x)) ?_ ?_ ?_ ?_ w.heap.size w ?_ (Aad _) ?_
      . simp [go_sem]
      . simp [go_sem]
      . rw [Aa6]; exact Hd.out
      . intro _
        refine ⟨rfl, ⟨w.heap.size, 0, none⟩, rfl, fun j v hj => ?_⟩
        have ai : j < d := by
         have := (Aae.1 hj).1
         rwa [Aa6] at this
        rw [List.getElem?_replicate, if_pos ai] at hj
        cases hj
        rw [show (⟨w.heap.size, 0, none⟩ : Addr).add j = ⟨w.heap.size, j, none⟩ by unfold Addr.add; split <;> simp_all]
        refine (aaI (w := _) HG.out).trans ?_
        rw [List.getElem?_toArray, Abi (by rw [Aa6]; omega), List.getElem?_replicate, if_pos (by omega)]
      . simp; omega
      . intro v hv; rw [Abz hv]; rfl
      . exact HB.out.drew
      intro w2 af ae
      have ar : Hid (w2.heap[w.heap.size]? = some (.cells (List.replicate (m + d) (Value.int .i64 x) ++ List.replicate (n - (m + d)) (Value.int .i64 0)).toArray 3 (0, 0))) := by
       have h2 := af.out
       have h3 := ag6 (Value.int .i64 x) (Value.int .i64 0) (m := m) (n := n) (c := d) aj
       rw [h3] at h2
       exact h2
      have ao := hid ae
      rw [Aa6]
      clear af ae)
    all_goals
     go_simp
     (try go_wp2_with fail)
     go_roundw
     case rel=>exact⟨m+d,aj,by omega,by first | rfl | go_num,ar,ao⟩
     case measure=>simp [intOf];omega
  . obtain rfl:m=n:=by omega
    have al:Hid (wr.heap[w.heap.size]?=some (.cells (List.replicate m (Value.int .i64 x)).toArray 3 (0,0))):=by
     have h:=HG.out;rw [Nat.sub_self,List.replicate_zero,Abe] at h;exact h
    go_wp2_with fail;go_ret;exact⟨w.heap.size,rfl,Aad _,al.out,HB.out⟩
end
end Go.Proofs.YtnkfdeiigplhoaaGreatDoor
