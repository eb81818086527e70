/- slices.Repeat of a list of one number. -/
import Derived.Test.YtnkogppgacappaaGreatDoorPPost
namespace Go.Proofs.YtnkogppgacappaaGreatDoor
open Go.RowKit Go.Lib

theorem infoIntR:(Tryz.prog.info? 3).map (fun i=>(i.zero,i.size,i.bytes))=some (some (.int .i64 0),1,8):=by kernel_rfl
theorem infoIntS:(Tryz.prog.info? 3).map (·.size)=some 1:=by kernel_rfl

set_option maxRecDepth 100000 in
set_option maxHeartbeats 1000000 in
theorem repeatInts_any(ad:Addr)(c:Nat)(x:Int)(n:Nat)(hn:n≤1048576)(w:World)(hx:w.cell? (ad.add 0)=some (.int .i64 x)) :
 Calls Tryz.prog 90 #[.slice (some ad) 1 c,.int .i64 (n:Int)] w fun e w' =>
  ∃g,e = .returned (.slice (some ⟨g,0,none⟩) n n)∧w.heap.size≤g∧w'.heap[g]?=some (.cells (List.replicate n (Value.int .i64 x)).toArray 3 (0,0))∧Below w.heap.size w w':=by
 have hmk:=run_make_row' (P:=Tryz.prog) 33 3 (.int .i64 0) 8 Tryz.underlying33 infoIntR rfl .i64 .i64 n (by omega) (by omega);have Hx:=hid hx;have hwu:IntKind.u64.wrap (n:Int)=(n:Int):=by rw [IntKind.wrap_u64];omega
 have hq1:decide ((n:Int)<0)=false:=decide_eq_false (by omega);have hq2:decide (9223372036854775807<(n:Int))=false:=decide_eq_false (by omega);clear hx;go_enter Tryz.func90,Tryz.ntmps90;have hzx:(ad.add 0).block<w.heap.size:=World.block_lt_of_cell? w _ Hx.out
 go_wp2_with (first
  | (go_at_call 100; (with_reducible refine (mulOne_any n hn w).mono ?_); rintro e w' ⟨rfl, rfl⟩)
  | (with_reducible refine wpList_copy_splice rfl (.tmp 31) (.tmp 32) 33 33 rfl 3 Tryz.underlying33 infoIntS _ _ n n 1 c rfl rfl w.heap.size 0 (List.replicate n (Value.int .i64 0)) 3 ?_ (List.replicate (min 1 n) (Value.int .i64 x)) ?_ ?_ ?_ ?_ w.heap.size w ?_ (Nat.le_refl _) ?_
     · rw [heap_alloc_new, madeCells_rep]
     · simp
     · intro h0
       refine ⟨rfl, ad, rfl, fun j v hj => ?_⟩
       have hj1 : j = 0 := by
        have := (List.getElem?_eq_some_iff.1 hj).1
        rw [List.length_replicate] at this
        omega
       subst hj1
       rw [List.getElem?_replicate] at hj
       split at hj
       · cases hj
         exact ((Below.alloc (Below.refl w.heap.size w) (Nat.le_refl _) _).cell hzx).trans Hx.out
       · cases hj
     · simp; omega
     · intro v hv; rw [List.eq_of_mem_replicate hv]; rfl
     · (repeat (first | exact Below.refl _ _ | refine Below.alloc ?_ (by first|omega|(simp<;>omega)) _ | refine Below.setCell ?_ (by first|omega|(simp<;>omega)) _ | refine below_drewN ?_ _ | refine Below.drew ?_))
     intro w2 hg2 hb2
     have Hg2 : Hid (w2.heap[w.heap.size]? = some (.cells (List.replicate (min 1 n) (Value.int .i64 x) ++ List.replicate (n - min 1 n) (Value.int .i64 0)).toArray 3 (0, 0))) := by
      have h := splice_rep (Value.int .i64 x) (Value.int .i64 0) (m := 0) (n := n) (c := min 1 n) (by omega)
      simp only [List.replicate_zero, List.nil_append, Nat.sub_zero, Nat.zero_add] at h
      have h2 := hg2.out
      rw [h] at h2
      exact h2
     have Hb2 := hid hb2
     rw [List.length_replicate]
     clear hg2 hb2 hzx))
 clear hmk;go_loopw [8] (fun i wr=>∃m:Nat,m≤n∧min 1 n≤m∧i = .int .i64 (m:Int)∧Hid (wr.heap[w.heap.size]?=some (.cells (List.replicate m (Value.int .i64 x)++List.replicate (n - m) (Value.int .i64 0)).toArray 3 (0,0)))∧Hid (Below w.heap.size w wr)) (fun i _=>n - (intOf i).toNat)
 case atStart=>exact⟨min 1 n,by omega,Nat.le_refl _,by first | rfl | simp [goInt],Hg2,Hb2⟩
 case round =>
  obtain⟨m,hm,hm1,rfl,HG,HB⟩:=hrel
  by_cases hlt:m<n
  · have hm0:0<m:=by omega
    have hne:¬n=m:=by omega
    have hnm:((n:Int) - (m:Int)).toNat=n - m:=by omega
    obtain⟨d,hd⟩:∃d,d=min m (n - m):=⟨_,rfl⟩
    have hd0:0<d:=by omega
    have hd1:d≤n - m:=by omega
    have hd2:m+d≤n:=by omega
    have hd3:d≤m:=by omega
    have Hd:=hid hd;have hwr:IntKind.i64.wrap ((m:Int)+(d:Int))=((m+d:Nat):Int):=by rw [IntWalk.i64_in _ (by omega)];simp
    clear hd;clear hm1;go_wp2_with fail
    go_region_law
     (refine step_copy_splice (by rfl) (.tmp 41) (.tmp 44) 33 33 (by rfl) 3 Tryz.underlying33 infoIntS (some ⟨w.heap.size, m, none⟩) (some ⟨w.heap.size, 0, none⟩) (n - m) (n - m) m n ?_ ?_ w.heap.size m (List.replicate m (Value.int .i64 x) ++ List.replicate (n - m) (Value.int .i64 0)) 3 HG.out (List.replicate d (Value.int .i64 x)) ?_ ?_ ?_ ?_ w.heap.size w ?_ (Nat.le_refl _) ?_
      · simp [go_sem]
      · simp [go_sem]
      · rw [List.length_replicate]; exact Hd.out
      · intro _
        refine ⟨rfl, ⟨w.heap.size, 0, none⟩, rfl, fun j v hj => ?_⟩
        have hj1 : j < d := by
         have := (List.getElem?_eq_some_iff.1 hj).1
         rwa [List.length_replicate] at this
        rw [List.getElem?_replicate, if_pos hj1] at hj
        cases hj
        rw [show (⟨w.heap.size, 0, none⟩ : Addr).add j = ⟨w.heap.size, j, none⟩ by unfold Addr.add; split <;> simp_all]
        refine (cell_row (w := _) HG.out).trans ?_
        rw [List.getElem?_toArray, List.getElem?_append_left (by rw [List.length_replicate]; omega), List.getElem?_replicate, if_pos (by omega)]
      · simp; omega
      · intro v hv; rw [List.eq_of_mem_replicate hv]; rfl
      · exact HB.out.drew
      intro w2 hg2 hb2
      have Hg3 : Hid (w2.heap[w.heap.size]? = some (.cells (List.replicate (m + d) (Value.int .i64 x) ++ List.replicate (n - (m + d)) (Value.int .i64 0)).toArray 3 (0, 0))) := by
       have h2 := hg2.out
       have h3 := splice_rep (Value.int .i64 x) (Value.int .i64 0) (m := m) (n := n) (c := d) hd2
       rw [h3] at h2
       exact h2
      have Hb3 := hid hb2
      rw [List.length_replicate]
      clear hg2 hb2)
    all_goals
     go_simp
     (try go_wp2_with fail)
     go_roundw
     case rel=>exact⟨m+d,hd2,by omega,by first | rfl | go_num,Hg3,Hb3⟩
     case measure=>simp [intOf];omega
  · obtain rfl:m=n:=by omega
    have HG2:Hid (wr.heap[w.heap.size]?=some (.cells (List.replicate m (Value.int .i64 x)).toArray 3 (0,0))):=by
     have h:=HG.out;rw [Nat.sub_self,List.replicate_zero,List.append_nil] at h;exact h
    go_wp2_with fail;go_ret;exact⟨w.heap.size,rfl,Nat.le_refl _,HG2.out,HB.out⟩

end Go.Proofs.YtnkogppgacappaaGreatDoor
