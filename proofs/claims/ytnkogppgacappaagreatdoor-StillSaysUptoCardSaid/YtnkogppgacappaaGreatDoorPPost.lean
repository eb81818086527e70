/- slices.Repeat of a list of one Boolean; math/bits.Mul of 1 and a small number. Plain loops around loops over a function: the marks that these leave among a frame's deferred calls. A row of Booleans that is written one by one. still.still: which words never change. graph.Post: a visit of a block (the closure that calls itself within a loop over a function). -/
import Derived.Test.YtnkogppgacappaaGreatDoorPRound
import Derived.Shelf.Bits.Mul64
import Derived.Laws.CopyOwn
import Derived.Deep.RegionLaw
import Derived.Test.YtnkogppgacappaaGreatDoorPStillR
import Derived.Test.YtnkogppgacappaaGreatDoorPBack
import Derived.Test.YtnkogppgacappaaGreatDoorPTid0
import Derived.Test.YtnkogppgacappaaGreatDoorPGlobs
import Derived.Maps.OwnIn
namespace Go.Proofs.YtnkogppgacappaaGreatDoor
open Go.RowKit Go.Lib

set_option maxHeartbeats 1000000 in
theorem mul64_any(x y:Nat)(hx:x<18446744073709551616)(hy:y<18446744073709551616)(w:World) :
 Calls Tryz.prog 129 #[.int .u64 x,.int .u64 y] w fun e w'=>e = .returned (.tuple #[.int .u64 ((x * y / 18446744073709551616:Nat):Int),.int .u64 ((x * y % 18446744073709551616:Nat):Int)])∧w=w':=by
 obtain⟨bd,bt,bw,hhi⟩:=Lib.mul64_hi x y hx hy;have ba:=Lib.half_mul_le (a:=x / 4294967296) (b:=y / 4294967296) (by omega) (by omega);have bb:=Lib.half_mul_le (a:=x / 4294967296) (b:=y % 4294967296) (by omega) (by omega);have bc:=Lib.half_mul_le (a:=x % 4294967296) (b:=y / 4294967296) (by omega) (by omega);have ba':x / 4294967296 * (y / 4294967296)<18446744073709551616:=by omega
 have bb':x / 4294967296 * (y % 4294967296)<18446744073709551616:=by omega
 have bc':x % 4294967296 * (y / 4294967296)<18446744073709551616:=by omega
 have bh1:x / 4294967296 * (y / 4294967296)+(x / 4294967296 * (y % 4294967296)+x % 4294967296 * (y % 4294967296) / 4294967296) / 4294967296<18446744073709551616:=by omega
 have bh:x / 4294967296 * (y / 4294967296)+(x / 4294967296 * (y % 4294967296)+x % 4294967296 * (y % 4294967296) / 4294967296) / 4294967296+((x / 4294967296 * (y % 4294967296)+x % 4294967296 * (y % 4294967296) / 4294967296) % 4294967296+x % 4294967296 * (y / 4294967296)) / 4294967296<18446744073709551616:=by omega
 go_enter Tryz.func129,Tryz.ntmps129;go_wp2;simp only [Mul64.maskN x hx,Mul64.maskN y hy,Mul64.divN,Mul64.mulN,Mul64.addN,Mul64.wrapN _ bd,Mul64.wrapN _ bb',Mul64.wrapN _ bt,Mul64.maskN _ bt,Mul64.wrapN _ bc',Mul64.wrapN _ bw,Mul64.wrapN _ ba',Mul64.wrapN _ bh1,Mul64.wrapN _ bh,Mul64.wrapM (x * y)];rw [hhi];go_ret2;exact⟨rfl,rfl⟩
set_option maxHeartbeats 1000000 in
theorem mulOne_any(y:Nat)(hy:y≤1048576)(w:World) :
 Calls Tryz.prog 100 #[.int .u64 1,.int .u64 (y:Int)] w fun e w'=>e = .returned (.tuple #[.int .u64 0,.int .u64 (y:Int)])∧w=w':=by
 have c64:=mul64_any 1 y (by decide) (by omega) w;rw [Nat.one_mul,Nat.div_eq_of_lt (by omega),Nat.mod_eq_of_lt (by omega)] at c64;have H:=hid c64;clear c64;go_enter Tryz.func100,Tryz.ntmps100;go_wp2_with (go_at_call 129;refine H.out.mono ?_;rintro e w' ⟨rfl,rfl⟩);go_ret2;exact⟨rfl,rfl⟩

theorem splice_rep {α:Type}(a b:α){m n c:Nat}(h:m+c≤n):splice (List.replicate m a++List.replicate (n - m) b) m (List.replicate c a)=List.replicate (m+c) a++List.replicate (n - (m+c)) b:=by
 unfold splice;rw [List.take_left' (by simp),List.drop_append,List.length_replicate,List.length_replicate,List.drop_eq_nil_of_le (by simp),List.nil_append,List.drop_replicate,←List.replicate_append_replicate,List.append_assoc,show n - m - (m+c - m)=n - (m+c) by omega]

theorem madeCells_rep(z:Value)(n:Nat):madeCells #[z] n=(List.replicate n z).toArray:=by
 apply Array.ext
 · simp [madeCells]
 · intro i h1 h2
   simp [madeCells,Nat.mod_one]
theorem infoBool1:(Tryz.prog.info? 4).map (·.size)=some 1:=by kernel_rfl

set_option maxRecDepth 100000 in
set_option maxHeartbeats 1000000 in
theorem repeatBools_any(ad:Addr)(c:Nat)(x:Bool)(n:Nat)(hn:n≤1048576)(w:World)(hx:w.cell? (ad.add 0)=some (.bool x)) :
 Calls Tryz.prog 63 #[.slice (some ad) 1 c,.int .i64 (n:Int)] w fun e w' =>
  ∃g,e = .returned (.slice (some ⟨g,0,none⟩) n n)∧w.heap.size≤g∧w'.heap[g]?=some (.cells (List.replicate n (Value.bool x)).toArray 4 (0,0))∧Below w.heap.size w w':=by
 have hmk:=run_make_row' (P:=Tryz.prog) 66 4 (.bool false) 1 Tryz.underlying66 infoBool rfl .i64 .i64 n (by omega) (by omega);have Hx:=hid hx;have hwu:IntKind.u64.wrap (n:Int)=(n:Int):=by rw [IntKind.wrap_u64];omega
 have hq1:decide ((n:Int)<0)=false:=decide_eq_false (by omega);have hq2:decide (9223372036854775807<(n:Int))=false:=decide_eq_false (by omega);clear hx;go_enter Tryz.func63,Tryz.ntmps63;have hzx:(ad.add 0).block<w.heap.size:=World.block_lt_of_cell? w _ Hx.out
 go_wp2_with (first
  | (go_at_call 100; (with_reducible refine (mulOne_any n hn w).mono ?_); rintro e w' ⟨rfl, rfl⟩)
  | (with_reducible refine wpList_copy_splice rfl (.tmp 31) (.tmp 32) 66 66 rfl 4 Tryz.underlying66 infoBool1 _ _ n n 1 c rfl rfl w.heap.size 0 (List.replicate n (Value.bool false)) 4 ?_ (List.replicate (min 1 n) (Value.bool x)) ?_ ?_ ?_ ?_ w.heap.size w ?_ (Nat.le_refl _) ?_
     · rw [heap_alloc_new, madeCells_rep]
     · simp
     · intro h0
       refine ⟨rfl, ad, rfl, fun j v hj => ?_⟩
       have hj1 : j = 0 := by
        have := (List.getElem?_eq_some_iff.1 hj).1
        rw [List.length_replicate] at this
        omega
       subst hj1
       rw [List.getElem?_replicate] at hj
       split at hj
       · cases hj
         exact ((Below.alloc (Below.refl w.heap.size w) (Nat.le_refl _) _).cell hzx).trans Hx.out
       · cases hj
     · simp; omega
     · intro v hv; rw [List.eq_of_mem_replicate hv]; rfl
     · (repeat (first | exact Below.refl _ _ | refine Below.alloc ?_ (by first|omega|(simp<;>omega)) _ | refine Below.setCell ?_ (by first|omega|(simp<;>omega)) _ | refine below_drewN ?_ _ | refine Below.drew ?_))
     intro w2 hg2 hb2
     have Hg2 : Hid (w2.heap[w.heap.size]? = some (.cells (List.replicate (min 1 n) (Value.bool x) ++ List.replicate (n - min 1 n) (Value.bool false)).toArray 4 (0, 0))) := by
      have h := splice_rep (Value.bool x) (Value.bool false) (m := 0) (n := n) (c := min 1 n) (by omega)
      simp only [List.replicate_zero, List.nil_append, Nat.sub_zero, Nat.zero_add] at h
      have h2 := hg2.out
      rw [h] at h2
      exact h2
     have Hb2 := hid hb2
     rw [List.length_replicate]
     clear hg2 hb2 hzx))
 clear hmk;go_loopw [8] (fun i wr=>∃m:Nat,m≤n∧min 1 n≤m∧i = .int .i64 (m:Int)∧Hid (wr.heap[w.heap.size]?=some (.cells (List.replicate m (Value.bool x)++List.replicate (n - m) (Value.bool false)).toArray 4 (0,0)))∧Hid (Below w.heap.size w wr)) (fun i _=>n - (intOf i).toNat)
 case atStart=>exact⟨min 1 n,by omega,Nat.le_refl _,by first | rfl | simp [goInt],Hg2,Hb2⟩
 case round =>
  obtain⟨m,hm,hm1,rfl,HG,HB⟩:=hrel
  by_cases hlt:m<n
  · have hm0:0<m:=by omega
    have hne:¬n=m:=by omega
    have hnm:((n:Int) - (m:Int)).toNat=n - m:=by omega
    obtain⟨d,hd⟩:∃d,d=min m (n - m):=⟨_,rfl⟩
    have hd0:0<d:=by omega
    have hd1:d≤n - m:=by omega
    have hd2:m+d≤n:=by omega
    have hd3:d≤m:=by omega
    have Hd:=hid hd;have hwr:IntKind.i64.wrap ((m:Int)+(d:Int))=((m+d:Nat):Int):=by rw [IntWalk.i64_in _ (by omega)];simp
    clear hd;clear hm1;go_wp2_with fail
    go_region_law
     (refine step_copy_splice (by rfl) (.tmp 41) (.tmp 44) 66 66 (by rfl) 4 Tryz.underlying66 infoBool1 (some ⟨w.heap.size, m, none⟩) (some ⟨w.heap.size, 0, none⟩) (n - m) (n - m) m n ?_ ?_ w.heap.size m (List.replicate m (Value.bool x) ++ List.replicate (n - m) (Value.bool false)) 4 HG.out (List.replicate d (Value.bool x)) ?_ ?_ ?_ ?_ w.heap.size w ?_ (Nat.le_refl _) ?_
      · simp [go_sem]
      · simp [go_sem]
      · rw [List.length_replicate]; exact Hd.out
      · intro _
        refine ⟨rfl, ⟨w.heap.size, 0, none⟩, rfl, fun j v hj => ?_⟩
        have hj1 : j < d := by
         have := (List.getElem?_eq_some_iff.1 hj).1
         rwa [List.length_replicate] at this
        rw [List.getElem?_replicate, if_pos hj1] at hj
        cases hj
        rw [show (⟨w.heap.size, 0, none⟩ : Addr).add j = ⟨w.heap.size, j, none⟩ by unfold Addr.add; split <;> simp_all]
        refine (cell_row (w := _) HG.out).trans ?_
        rw [List.getElem?_toArray, List.getElem?_append_left (by rw [List.length_replicate]; omega), List.getElem?_replicate, if_pos (by omega)]
      · simp; omega
      · intro v hv; rw [List.eq_of_mem_replicate hv]; rfl
      · exact HB.out.drew
      intro w2 hg2 hb2
      have Hg3 : Hid (w2.heap[w.heap.size]? = some (.cells (List.replicate (m + d) (Value.bool x) ++ List.replicate (n - (m + d)) (Value.bool false)).toArray 4 (0, 0))) := by
       have h2 := hg2.out
       have h3 := splice_rep (Value.bool x) (Value.bool false) (m := m) (n := n) (c := d) hd2
       rw [h3] at h2
       exact h2
      have Hb3 := hid hb2
      rw [List.length_replicate]
      clear hg2 hb2)
    all_goals
     go_simp
     (try go_wp2_with fail)
     go_roundw
     case rel=>exact⟨m+d,hd2,by omega,by first | rfl | go_num,Hg3,Hb3⟩
     case measure=>simp [intOf];omega
  · obtain rfl:m=n:=by omega
    have HG2:Hid (wr.heap[w.heap.size]?=some (.cells (List.replicate m (Value.bool x)).toArray 4 (0,0))):=by
     have h:=HG.out;rw [Nat.sub_self,List.replicate_zero,List.append_nil] at h;exact h
    go_wp2_with fail;go_ret;exact⟨w.heap.size,rfl,Nat.le_refl _,HG2.out,HB.out⟩

end Go.Proofs.YtnkogppgacappaaGreatDoor

namespace Go.Proofs.YtnkogppgacappaaGreatDoor
open Go.RowKit Go.Shelf

structure Marks (B C:Nat)(ds:List Deferred)(W:World):Prop where
 at_:∀d∈ds,∃D,d={ target := .collected D,args:=#[] }∧B≤D∧D<C∧W.heap[D]?=some (.deferred (some []))
 apart:ds.Pairwise (fun d e=>d≠e)
theorem Marks.nil(B C:Nat)(W:World):Marks B C [] W:=⟨fun d h=>(by cases h),List.Pairwise.nil⟩
theorem Marks.keep {B C C':Nat}{ds:List Deferred}{W W':World}(h:Marks B C ds W)(hC:C≤C')(hk:∀b,B≤b→b<C→W.heap[b]?=some (.deferred (some []))→W'.heap[b]?=some (.deferred (some []))):Marks B C' ds W' :=
 ⟨fun d hd => by
   obtain ⟨D, e, h1, h2, h3⟩ := h.at_ d hd
   exact ⟨D, e, h1, by omega, hk D h1 h2 h3⟩, h.apart⟩
theorem Marks.cons {B C C' D:Nat}{ds:List Deferred}{W:World}(h:Marks B C ds W)(hD:C≤D)(hB:B≤D)(hC:D<C')(hd:W.heap[D]?=some (.deferred (some []))):Marks B C' ({ target := .collected D,args:=#[] } :: ds) W:=by
 refine⟨fun d hm=>?_,List.Pairwise.cons (fun e he=>?_) h.apart⟩
 · rcases List.mem_cons.1 hm with rfl | hm
   · exact⟨D,rfl,hB,hC,hd⟩
   · obtain⟨D',e,h1,h2,h3⟩:=h.at_ d hm
     exact⟨D',e,h1,by omega,h3⟩
 · obtain⟨D',rfl,h1,h2,h3⟩:=h.at_ e he
   intro hx;injection hx with hx;injection hx with hx;omega

def Shut(B:Nat)(W W':World):Prop:=Below B W W'∧∀(b:Nat) c t f,W.heap[b]?=some (.cells c t f)→W'.heap[b]?=some (.cells c t f)
theorem Shut.refl(B:Nat)(W:World):Shut B W W:=⟨Below.refl _ _,fun _ _ _ _ h=>h⟩
theorem Shut.trans {B:Nat}{W1 W2 W3:World}(h:Shut B W1 W2)(k:Shut B W2 W3):Shut B W1 W3:=⟨h.1.trans k.1,fun b c t f hc=>k.2 b c t f (h.2 b c t f hc)⟩

theorem leaves_marks {F:Fence}{n:Nat}{P:Program}{fn:Func}{tmps:Array Value}{R:Ending→World→Prop}{B C:Nat}:∀(ds:List Deferred) (W:World),B≤W.heap.size→Marks B C ds W →
 (∀W',Shut B W W'→∃v,(results fn tmps).run P W' = .ok v W'∧R (.returned v) W')→LeavesInM F n P fn tmps R ds .returning W:=by
 intro ds
 induction ds with
 | nil=>exact fun W _ _ h=>h W (Shut.refl B W)
 | cons d ds ih =>
   intro W hBW hM h;obtain⟨D,rfl,h1,h2,h3⟩:=hM.at_ _ (List.mem_cons_self ..);have hlt:D<W.heap.size:=(Array.getElem?_eq_some_iff.1 h3).1;have hsh:Shut B W (W.putObj D (.deferred none)):=by
    refine⟨(Below.refl B W).grown (grownBy_putObj' W D _) hBW (fun k e=>by cases e;exact h1),fun b c t f hb=>?_⟩;rw [World.putObj_heap_other (fun e=>by rw [e,h3] at hb;cases hb)];exact hb
   refine⟨by simp,.inl ⟨D,_,rfl,run_takeDeferred h3,ih _ (by simpa using hBW) ⟨fun e he=>?_,(List.pairwise_cons.1 hM.apart).2⟩ (fun W' hW=>h W' (hsh.trans hW))⟩⟩;obtain⟨D',rfl,k1,k2,k3⟩:=hM.at_ e (List.mem_cons_of_mem _ he);have hne:=(List.pairwise_cons.1 hM.apart).1 _ he;have hDD:D'≠D:=fun e=>hne (by rw [e]);exact⟨D',rfl,k1,k2,(World.putObj_heap_other hDD).trans k3⟩

theorem bools_sl {W:World}{g:Nat}{row:List Bool}(h:W.heap[g]?=some (.cells (row.map Value.bool).toArray 4 (0,0)))(S:Nat→Prop)(hS:S g)(hn:row.length≤1048576):SlAt S W 1 rBool (.slice (some ⟨g,0,none⟩) row.length row.length) row:=by
 refine⟨_,row.length,rfl,Nat.le_refl _,by omega,fun _=>⟨g,0,rfl,hS,fun i x hx=>?_⟩⟩;refine⟨[.bool x],rfl,rfl,fun j u hj=>?_⟩
 match j,hj with
 | 0,hj =>
   cases hj;rw [Nat.zero_add,Nat.mul_one,Nat.add_zero,cell_row h,List.getElem?_toArray,List.getElem?_map,hx];rfl
 | j+1,hj=>simp at hj

structure SSt (w W1 W:World)(OB:Nat)(row:List Bool):Prop where
 below:Below w.heap.size w W
 size:W1.heap.size≤W.heap.size
 keep:∀b,b<W1.heap.size→b≠OB→W.heap[b]?=W1.heap[b]?
 row:W.heap[OB]?=some (.cells (row.map Value.bool).toArray 4 (0,0))
section
variable {w W1 W W' : World} {OB : Nat} {l : List Bool}
theorem SSt.cell(h:SSt w W1 W OB l){b o:Nat}{v:Value}(hc:W1.cell? ⟨b,o,none⟩=some v)(hb:b≠OB):W.cell? ⟨b,o,none⟩=some v:=by
 rw [World.cell?_of_block (w:=W1) (a:=⟨b,o,none⟩) (h.keep b (cell_lt hc) hb)];exact hc
theorem SSt.frozen(h:SSt w W1 W OB l){b o:Nat}(hb1:b<W1.heap.size)(hb:b≠OB):W.frozen? ⟨b,o,none⟩=W1.frozen? ⟨b,o,none⟩ :=
 World.frozen?_of_block (w:=W1) (a:=⟨b,o,none⟩) (h.keep b hb1 hb)
theorem SSt.grown(h:SSt w W1 W OB l){row:Option Nat}(hg:W.grownBy W' row)(hO:OB<W1.heap.size)(hw:w.heap.size≤W1.heap.size)(hr:∀r,row=some r→W1.heap.size≤r):SSt w W1 W' OB l:=by
 have hs:=h.size;refine⟨h.below.grown hg (Nat.le_trans hw hs) (fun k e=>Nat.le_trans hw (hr k e)),Nat.le_trans hs hg.size,fun b h1 h2=>?_,?_⟩
 · rw [hg.block b (by omega) (fun e=>by have:=hr b e.symm;omega),h.keep b h1 h2]
 · rw [hg.block OB (by omega) (fun e=>by have:=hr OB e.symm;omega)];exact h.row
theorem SSt.later(h:SSt w W1 W OB l)(hb:Below W.heap.size W W')(hO:OB<W1.heap.size):SSt w W1 W' OB l:=by
 have hs:=h.size;refine⟨h.below.trans (hb.mono h.below.size),Nat.le_trans hs hb.size,fun b h1 h2=>?_,?_⟩
 · rw [hb.block b (by omega),h.keep b h1 h2]
 · rw [hb.block OB (by omega)];exact h.row
theorem SSt.set(h:SSt w W1 W OB l)(hO:w.heap.size≤OB){q:Nat}(_hq:q<l.length)(x:Bool):SSt w W1 (W.setCell ⟨OB,q,none⟩ (.bool x)) OB (l.set q x):=by
 refine⟨h.below.setCell (p:=⟨OB,q,none⟩) hO _,by simpa [World.setCell] using h.size,fun b h1 h2=>?_,?_⟩
 · rw [Below.heap_setCell _ _ _ _ (by dsimp only;exact h2),h.keep b h1 h2]
 · rw [heap_set_row h.row,List.map_set]
   congr 2
   simp
end

end Go.Proofs.YtnkogppgacappaaGreatDoor

namespace Go.Proofs.YtnkogppgacappaaGreatDoor
open Go.RowKit Go.Shelf Go.Sort

attribute [local go_sem] Oper.semAt_some

theorem keepsOthers_below {W W':World}(h:Below W.heap.size W W'):KeepsOthers W W':=⟨h.size,fun k o hk _=>by rw [h.block k (Array.getElem?_eq_some_iff.1 hk).1];exact hk⟩
theorem keepE_below {n₀:Nat}{X:Nat→Prop}{W W':World}(h:Below W.heap.size W W')(hn:n₀≤W.heap.size):KeepE n₀ X W W':=⟨h.size,fun b h1 _=>h.block b (by omega)⟩
theorem keepE_set {n₀:Nat}{X:Nat→Prop}(W:World){b o:Nat}(v:Value)(hX:X b):KeepE n₀ X W (W.setCell ⟨b,o,none⟩ v) :=
 ⟨by simp [World.setCell],fun b' _ h=>Below.heap_setCell _ _ _ _ (fun e=>h (by rw [e];exact hX))⟩
theorem Marks.below {B C:Nat}{ds:List Deferred}{W W':World}(h:Marks B C ds W)(hb:Below W.heap.size W W'):Marks B C ds W' :=
 h.keep (Nat.le_refl _) (fun b _ _ h3=>by rw [hb.block b (Array.getElem?_eq_some_iff.1 h3).1];exact h3)
theorem Marks.set {B C:Nat}{ds:List Deferred}{W:World}(h:Marks B C ds W){b o:Nat}(v:Value)(hb:b<B):Marks B C ds (W.setCell ⟨b,o,none⟩ v) :=
 h.keep (Nat.le_refl _) (fun b' k1 _ h3=>by rw [Below.heap_setCell _ _ _ _ (by dsimp only;omega)];exact h3)
theorem al_new {w:World}{cs:Array Value}{T:TypeId}{b j:Nat}{v:Value}(hb:b=w.heap.size)(h:cs[j]?=some v):(w.alloc (.cells cs T)).cell? ⟨b,j,none⟩=some v:=by
 subst hb;rw [World.cell?_alloc_new];exact h
theorem al_old {w:World}{o:Obj}{b j:Nat}{v:Value}(h:w.cell? ⟨b,j,none⟩=some v):(w.alloc o).cell? ⟨b,j,none⟩=some v :=
 cell_later' h (Below.alloc (Below.refl _ _) (Nat.le_refl _) _)

set_option maxRecDepth 100000 in
set_option maxHeartbeats 4000000 in
theorem still_any {S S' : Nat → Prop} (ga fa : Option Addr) (gn gc fc : Nat) (fs : List DFunc) (ma : Option Addr) (mc n : Nat) (mem : List Int) (w : World) (hf : SlAt S w 4 rFunc (.slice fa fs.length fc) fs) (hS : ∀ b, S b → b < w.heap.size)
 (hm:SlAt S' w 1 rInt (.slice ma n mc) mem) (hml:mem.length=n) (hn:n≤1048576) (hfn:fs.length≤1048576) (hfb:∀f∈fs,f.blocks.length≤1048576∧∀x∈f.blocks,x.list.length≤1048576) :
 Calls Tryz.prog 35 #[.agg #[.slice ga gn gc,.slice fa fs.length fc],.slice ma n mc] w fun e w' =>
  ∃a c,e = .returned (.slice a n c)∧SlAt (fun b=>w.heap.size≤b) w' 1 rBool (.slice a n c) (stillF mem (insU fs))∧Below w.heap.size w w':=by
 have Hf:=hid hf;have HS:=hid hS;have Hm:=hid hm;have Hml:=hid hml;have Hfb:=hid hfb;clear hf hS hm hml hfb;refine (callsIn_wide (n:=6)).1 ?_;refine callsIn_of_wp_marks Tryz.func35 rfl trivial ?_ rfl;simp only [Tryz.ntmps35,List.size_toArray,List.length_cons,List.length_nil,Nat.reduceAdd,Nat.reduceSub,Array.replicate_succ,Array.replicate_zero,List.push_toArray,List.append_toArray,List.nil_append,List.cons_append]
 gi_wp2
 refine⟨trivial,?_⟩;obtain⟨W,hW⟩:∃W,W=((((w.alloc (.cells #[.slice ga gn gc,.slice fa fs.length fc] 25)).alloc (.cells #[.slice ma n mc] 33)).alloc (.cells #[.slice none 0 0] 66)).alloc (.cells #[.bool true] 4)):=⟨_,rfl⟩
 have hbW:Below w.heap.size w W:=by rw [hW];(repeat (first | exact Below.refl _ _ | refine Below.alloc ?_ (by first|omega|(simp<;>omega)) _ | refine Below.setCell ?_ (by first|omega|(simp<;>omega)) _ | refine below_drewN ?_ _ | refine Below.drew ?_))
 have hWs:W.heap.size=w.heap.size+4:=by rw [hW];simp
 have u0:W.cell? ⟨w.heap.size,0,none⟩=some (.slice ga gn gc):=by rw [hW];exact al_old (al_old (al_old (al_new rfl rfl)))
 have u1:W.cell? ⟨w.heap.size,1,none⟩=some (.slice fa fs.length fc):=by rw [hW];exact al_old (al_old (al_old (al_new rfl rfl)))
 have u2:W.cell? ⟨w.heap.size+1,0,none⟩=some (.slice ma n mc):=by rw [hW];exact al_old (al_old (al_new (by simp) rfl))
 have u3:W.cell? ⟨w.heap.size+1+1,0,none⟩=some (.slice none 0 0):=by rw [hW];exact al_old (al_new (by simp) rfl)
 have u4:W.cell? ⟨w.heap.size+1+1+1,0,none⟩=some (.bool true):=by rw [hW];exact al_new (by simp) rfl
 have p3:W.frozen? ⟨w.heap.size+1+1,0,none⟩=false:=by rw [hW,World.frozen?_alloc_old _ _ _ (by simp),World.frozen?_alloc_at _ _ _ _ (by simp)]
 rw [←hW];refine (callsIn_wide.2 (repeatBools_any ⟨w.heap.size+1+1+1,0,none⟩ 1 true n hn W (by rw [show (⟨w.heap.size+1+1+1,0,none⟩:Addr).add 0=⟨w.heap.size+1+1+1,0,none⟩ by unfold Addr.add;split <;> simp_all];exact u4))).mono ?_;rintro e w2 ⟨OB,rfl,hOB,hrow,hb2⟩;have HbW:=hid hbW;have HWs:=hid hWs;have HOB:=hid hOB;have Hrow:=hid hrow;have Hb2:=hid hb2;have v0:=cell_later' u0 hb2;have v1:=cell_later' u1 hb2;have v2:=cell_later' u2 hb2;have v3:=cell_later' u3 hb2;have q3:w2.frozen? ⟨w.heap.size+1+1,0,none⟩=false:=(hb2.frozen (p:=⟨w.heap.size+1+1,0,none⟩) (by dsimp only;omega)).trans p3;have zz:w.heap.size+4≤w2.heap.size:=by have:=hb2.size;omega
 have z0:w.heap.size<w2.heap.size:=by omega
 have z1:w.heap.size+1<w2.heap.size:=by omega
 have z2:w.heap.size+1+1<w2.heap.size:=by omega
 clear hW hbW hWs u0 u1 u2 u3 u4 p3 hOB hrow hb2
 gi_wp2
 obtain⟨W1,hW1⟩:∃W1,W1=w2.alloc (.cells #[.slice (some ⟨OB,0,none⟩) n n] 66):=⟨_,rfl⟩
 have hs1:W1.heap.size=w2.heap.size+1:=by rw [hW1];simp
 have hb21:Below w2.heap.size w2 W1:=by rw [hW1];(repeat (first | exact Below.refl _ _ | refine Below.alloc ?_ (by first|omega|(simp<;>omega)) _ | refine Below.setCell ?_ (by first|omega|(simp<;>omega)) _ | refine below_drewN ?_ _ | refine Below.drew ?_))
 have g0:=cell_later' v0 hb21;have g1:=cell_later' v1 hb21;have g2:=cell_later' v2 hb21;have g3:=cell_later' v3 hb21;have g4:W1.cell? ⟨w2.heap.size,0,none⟩=some (.slice (some ⟨OB,0,none⟩) n n):=by rw [hW1];simp
 have gf:W1.frozen? ⟨w.heap.size+1+1,0,none⟩=false:=(hb21.frozen (p:=⟨w.heap.size+1+1,0,none⟩) z2).trans q3;have hOlt:OB<w2.heap.size:=(Array.getElem?_eq_some_iff.1 Hrow.out).1;have hst:SSt w W1 W1 OB (calmL mem []):=by
  refine⟨HbW.out.trans ((Hb2.out.trans (hb21.mono Hb2.out.size)).mono HbW.out.size),Nat.le_refl _,fun _ _ _=>rfl,?_⟩;rw [hb21.block OB hOlt,Hrow.out,calmL_nil,List.map_replicate,Hml.out]
 have hO1:w.heap.size+4≤OB:=by have:=HOB.out;have:=HWs.out;omega
 rw [←hW1];have Hst:=hid hst;have Hs1:=hid hs1;have G0:=hid g0;have G1:=hid g1;have G2:=hid g2;have G3:=hid g3;have G4:=hid g4;have Gf:=hid gf;clear hW1 hs1 hb21 g0 g1 g2 g3 g4 gf hst v0 v1 v2 v3 q3
 refine wpIn_loop (fun a W => ∃ (k : Nat) (ds : List Deferred) (u6 u16 u17 u18 u19 u20 u21 u22 u77 : Value), a = { tmps := #[(.agg #[.slice ga gn gc, .slice fa fs.length fc]), (.slice ma n mc), (.pointer (some ⟨w.heap.size, 0, none⟩)), (.pointer (some ⟨w.heap.size + 1, 0, none⟩)), (.pointer (some ⟨w.heap.size + 1 + 1, 0, none⟩)), (.pointer (some ⟨w2.heap.size, 0, none⟩)), u6, undef, (.slice (some ⟨w.heap.size + 1 + 1 + 1, 0, none⟩) 1 1), (.slice ma n mc), (.int .i64 (n : Int)), (.slice (some ⟨OB, 0, none⟩) n n), (.pointer (some ⟨w.heap.size, 1, none⟩)), (.slice fa fs.length fc), (.int .i64 (fs.length : Int)), (.int .i64 (k : Int)), u16, u17, u18, u19, u20, u21, u22, undef, undef, undef, undef, undef, undef, undef, undef, undef, undef, undef, undef, undef, undef, undef, undef, undef, undef, undef, undef, undef, undef, undef, undef, undef, undef, undef, undef, undef, undef, undef, undef, undef, undef, undef, undef, undef, undef, undef, undef, undef, undef, undef, undef, undef, undef, undef, undef, undef, undef, undef, undef, undef, undef, u77, undef], defers := ds } ∧ k ≤ fs.length ∧ SSt w W1 W OB (calmL mem (insU (fs.take k))) ∧ (insU (fs.take k)).any wildB = false ∧ Marks W1.heap.size W.heap.size ds W)
  (fun a _=>fs.length - (intOf (a.tmps.getD 15 undef)).toNat) ?h0 ?round
 case h0=>exact⟨0,[],undef,undef,undef,undef,undef,undef,undef,undef,undef,rfl,Nat.zero_le _,Hst.out,rfl,Marks.nil _ _ _⟩
 case round =>
  rintro _ wr ⟨k,ds,u6,u16,u17,u18,u19,u20,u21,u22,u77,rfl,hk,hs,hwild,hmk⟩;have Hs:=hid hs;have Hwild:=hid hwild;have Hmk:=hid hmk;have zw1:w2.heap.size<W1.heap.size:=by have:=Hs1.out;omega
  have g0:=hs.cell G0.out (by omega);have g1:=hs.cell G1.out (by omega);have g4:=hs.cell G4.out (by omega);have zr0:w.heap.size<wr.heap.size:=cell_lt g0;have zr1:W1.heap.size≤wr.heap.size:=hs.size;clear hs hwild hmk
  by_cases hkl:k<fs.length
  · obtain⟨fb,foff,xa,xc,rfl,hcs,hxb,-,-⟩:=func_at Hf.out hkl
    obtain⟨-,-,-,c3⟩:=hcs.get4;have zfb:fb<w.heap.size:=cell_lt c3;have zfr:fb<wr.heap.size:=by omega
    obtain⟨hbl,hll⟩:=Hfb.out _ (List.getElem_mem hkl);have HC3:=hid c3;have Hxb:=hid hxb;have Hll:=hid hll;have Hstp:Hid (insU (fs.take (k+1))=insU (fs.take k)++insF fs[k]):=insU_succ hkl;obtain⟨l0,hl0⟩:∃l0,l0=insU (fs.take k):=⟨_,rfl⟩
    rw [←hl0] at Hs Hwild Hstp;clear hcs c3 hxb hll hl0
    gi_wp2_with (refine⟨trivial,?_⟩;gi_at_call 64;refine (each_in Fence.wide 5 trivial rfl _ _).mono ?_;rintro e w' ⟨rfl,rfl⟩)
    obtain⟨Wk,hWk⟩:∃Wk,Wk=wr.alloc (.cells #[.pointer (some ⟨fb,foff+k * 4,none⟩)] 112):=⟨_,rfl⟩
    have hbk:Below wr.heap.size wr Wk:=by rw [hWk];(repeat (first | exact Below.refl _ _ | refine Below.alloc ?_ (by first|omega|(simp<;>omega)) _ | refine Below.setCell ?_ (by first|omega|(simp<;>omega)) _ | refine below_drewN ?_ _ | refine Below.drew ?_))
    have hsk:Wk.heap.size=wr.heap.size+1:=by rw [hWk];simp
    have hck:Wk.cell? ⟨wr.heap.size,0,none⟩=some (.pointer (some ⟨fb,foff+k * 4,none⟩)):=by rw [hWk];simp
    have Hsk:Hid (SSt w W1 Wk OB (calmL mem l0)):=Hs.out.later hbk (by omega);have Hmkk:Hid (Marks W1.heap.size wr.heap.size ds Wk):=Hmk.out.keep (Nat.le_refl _) (fun b h1 h2 h3=>by rw [hbk.block b h2];exact h3);rw [←hWk];have HbK:=hid hbk;have HsK:=hid hsk;have HcK:=hid hck;clear hWk hbk hsk hck
    refine wpIn_rangeFunc_ownF (α := InsP w) rfl (by decide) (gf := 101) (lb := #[.pointer (some ⟨wr.heap.size, 0, none⟩)]) rfl trivial (enters_of Tryz.func101 (by kernel_rfl) rfl)
     (each_stops Fence.wide (6 - 1) trivial rfl (by decide) wr.heap.size Wk.heap.size fb (foff + k * 4) (fun b => b = OB ∨ b = w.heap.size + 1 + 1) xa xc fs[k].blocks w Wk hbl Hll.out
       (Hxb.out.mono rBlock_mono (fun b hb => by have := HS.out b hb; have := HsK.out; exact ⟨by omega, by omega⟩) (Stays.refl _ _)) HC3.out (by have := HsK.out; exact ⟨by omega, by omega⟩) (by have := HsK.out; exact ⟨by omega, by omega⟩) Hsk.out.below HcK.out)
     (fun h k=>keepE_t h k) (keepE_b (Nat.le_refl _)) (Below.refl _ _) (fun _=>rfl)
     (fun pre W=>(SSt w W1 W OB (calmL mem (l0++pre.map insOf))∧Marks W1.heap.size wr.heap.size ds W)∧(l0++pre.map insOf).any wildB=false∧Wk.heap.size≤W.heap.size)
     (fun c pre W=>(c = .ret∧(l0++pre.map insOf).any wildB=true)∧(Below w.heap.size w W∧Marks W1.heap.size wr.heap.size ds W∧∃g,w.heap.size≤g∧W.cell? ⟨w.heap.size+1+1,0,none⟩=some (.slice (some ⟨g,0,none⟩) n n)∧W.heap[g]?=some (.cells ((List.replicate n false).map Value.bool).toArray 4 (0,0))))
     ?hI ?hIx ?h0 (fun x=>{ tmps:=#[(.agg #[.slice ga gn gc,.slice (some ⟨fb,foff,none⟩) fs.length fc]),(.slice ma n mc),(.pointer (some ⟨w.heap.size,0,none⟩)),(.pointer (some ⟨w.heap.size+1,0,none⟩)),(.pointer (some ⟨w.heap.size+1+1,0,none⟩)),(.pointer (some ⟨w2.heap.size,0,none⟩)),(.int .i64 (k:Int)),(.pointer (some ⟨x.1.1,x.1.2.1,none⟩)),(.slice (some ⟨w.heap.size+1+1+1,0,none⟩) 1 1),(.slice ma n mc),(.int .i64 (n:Int)),(.slice (some ⟨OB,0,none⟩) n n),(.pointer (some ⟨w.heap.size,1,none⟩)),(.slice (some ⟨fb,foff,none⟩) fs.length fc),(.int .i64 (fs.length:Int)),(.int .i64 (k:Int)),(.bool true),(.int .i64 (k:Int)),(.pointer (some ⟨w.heap.size,1,none⟩)),(.slice (some ⟨fb,foff,none⟩) fs.length fc),(.int .i64 (k:Int)),(.pointer (some ⟨fb,foff+k * 4,none⟩)),(.func (.func 101) #[] #[.pointer (some ⟨wr.heap.size,0,none⟩)]),(.pointer (some ⟨x.1.1,x.1.2.1,none⟩)),undef,undef,undef,undef,undef,undef,undef,undef,undef,undef,undef,undef,undef,undef,undef,undef,undef,undef,undef,undef,undef,undef,undef,undef,undef,undef,undef,undef,undef,undef,undef,undef,undef,undef,undef,undef,undef,undef,undef,undef,undef,undef,undef,undef,undef,undef,undef,undef,undef,undef,undef,undef,undef,u77,undef],defers:=[] }) ?assign ?body ?done ?stop
    case hI =>
     rintro pr A B row ⟨⟨h1,h2⟩,h3,h4⟩ hg hr;have hr':∀r,row=some r→Wk.heap.size≤r:=fun r e=>(hr r e).1;have:=HsK.out;refine⟨⟨h1.grown hg (by omega) (by omega) (fun r e=>by have:=hr' r e;omega),h2.keep (Nat.le_refl _) (fun b k1 k2 k3=>?_)⟩,h3,Nat.le_trans h4 hg.size⟩;rw [hg.block b (Array.getElem?_eq_some_iff.1 k3).1 (fun e=>by have:=hr' b e.symm;omega)];exact k3
    case hIx =>
     rintro c pr A B row ⟨hp,hb,hm,g,hg1,hg2,hg3⟩ hg hr;have hr':∀r,row=some r→Wk.heap.size≤r:=fun r e=>(hr r e).1;have:=HsK.out;refine⟨hp,hb.grown hg hb.size (fun r e=>by have:=hr' r e;omega),hm.keep (Nat.le_refl _) (fun b k1 k2 k3=>?_),g,hg1,cell_kept hg2 hg (fun r e=>(hr r e).2),?_⟩
     · rw [hg.block b (Array.getElem?_eq_some_iff.1 k3).1 (fun e=>by have:=hr' b e.symm;omega)]
       exact k3
     · rw [hg.block g (Array.getElem?_eq_some_iff.1 hg3).1 (fun e => by
        obtain ⟨-, o, ho, hc⟩ := hr g e.symm
        rw [hg3] at ho
        cases ho
        cases hc)]
       exact hg3
    case h0=>exact⟨⟨by simpa using Hsk.out,Hmkk.out⟩,by simpa using Hwild.out,Nat.le_refl _⟩
    case assign =>
     intro l x W K hK;unfold encI
     gi_wp2
     exact hK
    case body =>
     rintro l pre x W ⟨⟨hs,hm⟩,hw,hsz⟩ _;have Hs2:=hid hs;have Hm2:=hid hm;have Hw2:=hid hw;obtain⟨av,hcx⟩:=x.2;obtain⟨e0,-,e2,e3,e4,e5,-,-⟩:=(hcx.later hs.below).get8;obtain⟨y,hy⟩:∃y,y=insOf x:=⟨_,rfl⟩
     obtain⟨b,hb⟩:∃b,b=x.1.1:=⟨_,rfl⟩
     obtain⟨off,hoff⟩:∃off,off=x.1.2.1:=⟨_,rfl⟩
     have e0:W.cell? ⟨b,off,none⟩=some (.int .i64 y.op):=by rw [hy,hb,hoff];exact e0
     have e2:W.cell? ⟨b,off+2,none⟩=some (.bool y.a.reg):=by rw [hy,hb,hoff];exact e2
     have e3:W.cell? ⟨b,off+3,none⟩=some (.int .i64 y.a.n):=by rw [hy,hb,hoff];exact e3
     have e4:W.cell? ⟨b,off+4,none⟩=some (.bool y.b.reg):=by rw [hy,hb,hoff];exact e4
     have e5:W.cell? ⟨b,off+5,none⟩=some (.int .i64 y.b.n):=by rw [hy,hb,hoff];exact e5
     rw [←hb,←hoff];have zb:b<W.heap.size:=cell_lt e0;obtain⟨L,hL⟩:∃L,L=l0++pre.map insOf:=⟨_,rfl⟩
     have HL:Hid (l0++(pre++[x]).map insOf=L++[y]):=by show _=_;rw [hL,hy,List.map_append,List.append_assoc];rfl
     rw [←hL] at Hs2 Hw2;obtain⟨op,hop⟩:∃op,y.op=op:=⟨_,rfl⟩
     obtain⟨ar,har⟩:∃ar,y.a.reg=ar:=⟨_,rfl⟩
     obtain⟨an,han⟩:∃an,y.a.n=an:=⟨_,rfl⟩
     obtain⟨br,hbr⟩:∃br,y.b.reg=br:=⟨_,rfl⟩
     obtain⟨bn,hbn⟩:∃bn,y.b.n=bn:=⟨_,rfl⟩
     have Hwy:Hid (wildB y=(decide (op=19)&&ar)):=by show _=_;unfold wildB;rw [hop,har]
     have Hhy:Hid (∀p,hurtB mem p y=(decide (op=19)&&(!ar&&(decide (an=(p:Int))&&(br||decide (bn≠mem.getD p 0)))))):=fun p=>by unfold hurtB;rw [hop,har,han,hbr,hbn]
     have Hy5:Hid (y.op=op∧y.a.reg=ar∧y.a.n=an∧y.b.reg=br∧y.b.n=bn):=⟨hop,har,han,hbr,hbn⟩
     rw [hop] at e0;rw [har] at e2;rw [han] at e3;rw [hbr] at e4;rw [hbn] at e5;have Hw3:Hid (wildB y=false→(L++[y]).any wildB=false):=fun h=>by rw [List.any_append,Hw2.out];simp [h]
     have Hsame:Hid ((∀p,p<mem.length→hurtB mem p y=false)→calmL mem (L++[y])=calmL mem L):=fun h=>calm_same h;have g2:=hs.cell G2.out (by omega);have g3:=hs.cell G3.out (by omega);have g4:=hs.cell G4.out (by omega);have gf:W.frozen? ⟨w.heap.size+1+1,0,none⟩=false:=(hs.frozen (by omega) (by omega)).trans Gf.out;have zW1:W1.heap.size≤W.heap.size:=hs.size;have zW2:w2.heap.size<W.heap.size:=by omega
     have zW3:w.heap.size+1<W.heap.size:=by omega
     have zW4:w.heap.size+1+1<W.heap.size:=by omega
     clear hs hm hw hcx hy hb hoff hL hop har han hbr hbn av
     by_cases ho:op=19
     · have q0:(decide (op<19)||decide (19<op))=false:=ne_no ho
       cases ar with
       | true =>
         have hmk:=run_make_row' (P:=Tryz.prog) 66 4 (.bool false) 1 Tryz.underlying66 infoBool rfl .i64 .i64 n (by omega) (by omega);have Hwi:Hid ((L++[y]).any wildB=true):=by show _=_;rw [List.any_append];simp [Hwy.out,ho]
         clear ho
         gi_wp2
         have hse:(W.setCell ⟨w.heap.size+1+1,0,none⟩ (.slice (some ⟨W.heap.size,0,none⟩) n n)).heap.size=W.heap.size:=by simp [World.setCell]
         refine⟨(KeepsOthers.setCell _ _ _).trans (KeepsOthers.alloc _ _),⟨rfl,by rw [HL.out];exact Hwi.out⟩,?_,?_,W.heap.size,by omega,?_,?_⟩
         · exact (Hs2.out.below.setCell (p:=⟨w.heap.size+1+1,0,none⟩) (by dsimp only;omega) _).alloc (by rw [hse];omega) _
         · refine Hm2.out.keep (Nat.le_refl _) (fun b k1 k2 k3=>?_)
           have hbl:=(Array.getElem?_eq_some_iff.1 k3).1;rw [Below.heap_alloc _ _ _ (by rw [hse];exact hbl),Below.heap_setCell _ _ _ _ (by dsimp only;omega)];exact k3
         · exact al_old (by rw [cell_set g3,if_pos rfl])
         · have h:=heap_alloc_new (W.setCell ⟨w.heap.size+1+1,0,none⟩ (.slice (some ⟨W.heap.size,0,none⟩) n n)) (.cells (madeCells #[Value.bool false] n) 4)
           rw [hse] at h;rw [List.map_replicate,←madeCells_rep];exact h
       | false =>
         have Hwi:Hid ((L++[y]).any wildB=false):=Hw3.out (by rw [Hwy.out];simp);have hmx:Tryz.prog.follows .mixedOrders=true:=by kernel_rfl
         have k2:=cell_regrown g2;have kr:=cell_regrown e2;have kn:=cell_regrown e3;have kbr:=cell_regrown e4;have kbn:=cell_regrown e5
         by_cases hin:inB false an (n:Int)=true
         · obtain⟨q,hq⟩:∃q:Nat,an=(q:Int):=Int.eq_ofNat_of_zero_le (by unfold inB at hin;simp at hin;omega)
           have hqn:q<n:=by unfold inB at hin;simp at hin;omega
           subst hq;have cW:∀m d os,CallsIn Fence.wide m Tryz.prog 39 #[.agg #[.bool false,.int .i64 (q:Int)],.int .i64 (n:Int)] (grow (redrawn W d) os) fun e w''=>e = .returned (.bool true)∧∃p:Regrown,w''=grow (redrawn W p.d) p.os:=fun m d os=>by
            have h:=callsIn_wide (n:=m).2 (swithin_any false (q:Int) (n:Int) (grow (redrawn W d) os));rw [hin] at h;exact CallsIn.regrown_of h
           have hqm:q<mem.length:=by rw [Hml.out];exact hqn
           obtain⟨mb,moff,hma,mq⟩:=int_at (Hm.out.later rInt_mono Hs2.out.below) hqm;subst hma;have hcl:(calmL mem L).length=n:=by rw [calmL_len,Hml.out]
           have Hcl:=hid hcl;have zmb:mb<W.heap.size:=cell_lt mq;have Hset:Hid ((br=true∨bn≠mem.getD q 0)→calmL mem (L++[y])=(calmL mem L).set q false):=fun h=>calm_set (by rw [Hy5.out.1,ho]) Hy5.out.2.1 Hy5.out.2.2.1 (by rw [Hy5.out.2.2.2.1,Hy5.out.2.2.2.2];exact h)
           have Hno : Hid (br = false → bn = mem.getD q 0 → calmL mem (L ++ [y]) = calmL mem L) := fun h1 h2 => Hsame.out (fun p _ => by
            rw [Hhy.out, h1]
            by_cases hpq : p = q
            · subst hpq; simp [h2]
            · rw [show decide (((q : Nat) : Int) = (p : Int)) = false by simp; omega]; simp)
           obtain⟨mv,hmv⟩:∃mv,mem[q]'hqm=mv:=⟨_,rfl⟩
           have hgd:mem.getD q 0=mv:=by rw [List.getD_eq_getElem?_getD,List.getElem?_eq_getElem hqm,←hmv];rfl
           rw [hgd] at Hset Hno;rw [hmv] at mq;have kmq:=cell_regrown mq;clear hmv hgd ho hcl hin;cases br with
           | true =>
             have Hse:Hid (calmL mem (L++[y])=(calmL mem L).set q false):=Hset.out (.inl rfl)
             gi_wp2
             refine wpIn_region_quiet_round rfl (by kernel_rfl) (by kernel_rfl) (by kernel_rfl) ?_
             repeat (gi_big_quiet_step (fail))
             refine wpQuietIn_step (fun _ _ _ _=>trivial) (fun K hK=>?_);go_simp;refine⟨_,fun _=>cW _ _ _,hK _ ?_⟩;clear hK K
             repeat (gi_big_quiet_step (fail))
             refine wpQuietIn_nil ?_;intro W' hw';obtain⟨rg,hrg⟩:=hw';have hbg:Below W.heap.size W W':=by rw [hrg];exact below_regrown _ _ _
             clear hrg
             gi_wp2
             have m4:=cell_later' g4 hbg;have f3:=cell_later' e3 hbg;have hsL:SSt w W1 W' OB (calmL mem L):=Hs2.out.later hbg (by omega);have hOv:W'.cell? ⟨OB,q,none⟩=some (.bool ((calmL mem L)[q]'(by rw [Hcl.out];exact hqn))):=by
              rw [cell_row hsL.row];simp
             have hOf:W'.frozen? ⟨OB,q,none⟩=false:=by simp [World.frozen?,hsL.row]
             have HsL:=hid hsL;have z1:(q:Int)<(n:Int):=by omega
             have z2:(0:Int)≤(q:Int):=by omega
             clear hsL;have hbd:Below W.heap.size W W'.drew:=hbg.drew;have hsd:SSt w W1 W'.drew OB (calmL mem L):=HsL.out.later (Below.refl _ _).drew (by omega);have Hbd:=hid hbd;have Hsd:=hid hsd;clear hbd hsd
             gi_region_with_o (fail)
             all_goals gi_wp2
             all_goals exact⟨(keepsOthers_below Hbd.out).trans (KeepsOthers.setCell _ _ _),keepE_t (keepE_below Hbd.out (by omega)) (keepE_set _ _ (.inl rfl)),⟨by rw [HL.out,Hse.out];exact Hsd.out.set (by omega) (by rw [Hcl.out];exact hqn) false,(Hm2.out.below Hbd.out).set _ (by omega)⟩,by rw [HL.out];exact Hwi.out,by have:=Hbd.out.size;simpa [World.setCell] using Nat.le_trans hsz this⟩
           | false =>
             by_cases hbm:bn=mv
             · have q5:(decide (bn<mv)||decide (mv<bn))=false:=ne_no hbm
               have Hsm:Hid (calmL mem (L++[y])=calmL mem L):=Hno.out rfl hbm;clear hbm
               gi_wp2
               refine wpIn_region_quiet_round rfl (by kernel_rfl) (by kernel_rfl) (by kernel_rfl) ?_
               repeat (gi_big_quiet_step (fail))
               refine wpQuietIn_step (fun _ _ _ _=>trivial) (fun K hK=>?_);go_simp;refine⟨_,fun _=>cW _ _ _,hK _ ?_⟩;clear hK K
               repeat (gi_big_quiet_step (fail))
               refine wpQuietIn_nil ?_;intro W' hw';obtain⟨rg,hrg⟩:=hw';have hbg:Below W.heap.size W W':=by rw [hrg];exact below_regrown _ _ _
               clear hrg
               gi_wp2
               exact⟨keepsOthers_below hbg,keepE_below hbg (by omega),⟨by rw [HL.out,Hsm.out];exact Hs2.out.later hbg (by omega),Hm2.out.below hbg⟩,by rw [HL.out];exact Hwi.out,Nat.le_trans hsz hbg.size⟩
             · have q5:(decide (bn<mv)||decide (mv<bn))=true:=ne_yes hbm
               have Hse:Hid (calmL mem (L++[y])=(calmL mem L).set q false):=Hset.out (.inr hbm);clear hbm
               gi_wp2
               refine wpIn_region_quiet_round rfl (by kernel_rfl) (by kernel_rfl) (by kernel_rfl) ?_
               repeat (gi_big_quiet_step (fail))
               refine wpQuietIn_step (fun _ _ _ _=>trivial) (fun K hK=>?_);go_simp;refine⟨_,fun _=>cW _ _ _,hK _ ?_⟩;clear hK K
               repeat (gi_big_quiet_step (fail))
               refine wpQuietIn_nil ?_;intro W' hw';obtain⟨rg,hrg⟩:=hw';have hbg:Below W.heap.size W W':=by rw [hrg];exact below_regrown _ _ _
               clear hrg
               gi_wp2
               have m4:=cell_later' g4 hbg;have f3:=cell_later' e3 hbg;have hsL:SSt w W1 W' OB (calmL mem L):=Hs2.out.later hbg (by omega);have hOv:W'.cell? ⟨OB,q,none⟩=some (.bool ((calmL mem L)[q]'(by rw [Hcl.out];exact hqn))):=by
                rw [cell_row hsL.row];simp
               have hOf:W'.frozen? ⟨OB,q,none⟩=false:=by simp [World.frozen?,hsL.row]
               have HsL:=hid hsL;have z1:(q:Int)<(n:Int):=by omega
               have z2:(0:Int)≤(q:Int):=by omega
               clear hsL;have hbd:Below W.heap.size W W'.drew:=hbg.drew;have hsd:SSt w W1 W'.drew OB (calmL mem L):=HsL.out.later (Below.refl _ _).drew (by omega);have Hbd:=hid hbd;have Hsd:=hid hsd;clear hbd hsd
               gi_region_with_o (fail)
               all_goals gi_wp2
               all_goals exact⟨(keepsOthers_below Hbd.out).trans (KeepsOthers.setCell _ _ _),keepE_t (keepE_below Hbd.out (by omega)) (keepE_set _ _ (.inl rfl)),⟨by rw [HL.out,Hse.out];exact Hsd.out.set (by omega) (by rw [Hcl.out];exact hqn) false,(Hm2.out.below Hbd.out).set _ (by omega)⟩,by rw [HL.out];exact Hwi.out,by have:=Hbd.out.size;simpa [World.setCell] using Nat.le_trans hsz this⟩
         · have hin:inB false an (n:Int)=false:=by simpa using hin
           have Hsm : Hid (calmL mem (L ++ [y]) = calmL mem L) := Hsame.out (fun p hp => by
            rw [Hhy.out]
            rw [show decide (an = (p : Int)) = false by
             have hpn : p < n := by rw [← Hml.out]; exact hp
             refine decide_eq_false (fun e => ?_)
             subst e
             unfold inB at hin
             simp at hin
             omega]
            simp)
           have cW:∀m d os,CallsIn Fence.wide m Tryz.prog 39 #[.agg #[.bool false,.int .i64 an],.int .i64 (n:Int)] (grow (redrawn W d) os) fun e w''=>e = .returned (.bool false)∧∃p:Regrown,w''=grow (redrawn W p.d) p.os:=fun m d os=>by
            have h:=callsIn_wide (n:=m).2 (swithin_any false an (n:Int) (grow (redrawn W d) os));rw [hin] at h;exact CallsIn.regrown_of h
           clear ho hin
           gi_wp2
           refine wpIn_region_quiet_round rfl (by kernel_rfl) (by kernel_rfl) (by kernel_rfl) ?_
           repeat (gi_big_quiet_step (fail))
           refine wpQuietIn_step (fun _ _ _ _=>trivial) (fun K hK=>?_);go_simp;refine⟨_,fun _=>cW _ _ _,hK _ ?_⟩;clear hK K
           repeat (gi_big_quiet_step (fail))
           refine wpQuietIn_nil ?_;intro W' hw';obtain⟨rg,hrg⟩:=hw';have hbg:Below W.heap.size W W':=by rw [hrg];exact below_regrown _ _ _
           clear hrg
           gi_wp2
           exact⟨keepsOthers_below hbg,keepE_below hbg (by omega),⟨by rw [HL.out,Hsm.out];exact Hs2.out.later hbg (by omega),Hm2.out.below hbg⟩,by rw [HL.out];exact Hwi.out,Nat.le_trans hsz hbg.size⟩
     · have q0:(decide (op<19)||decide (19<op))=true:=ne_yes ho
       have Hwi:Hid ((L++[y]).any wildB=false):=Hw3.out (by rw [Hwy.out];simp [ho]);have Hsm:Hid (calmL mem (L++[y])=calmL mem L):=Hsame.out (fun p _=>by rw [Hhy.out];simp [ho]);clear ho
       gi_wp2
       exact⟨KeepsOthers.refl _,KeepE.refl _ _ _,⟨by rw [HL.out,Hsm.out];exact Hs2.out,Hm2.out⟩,by rw [HL.out];exact Hwi.out,hsz⟩
    case done =>
     rintro D xs W hD hxs ⟨⟨hs,hm⟩,hw,hsz⟩ hd;have hIns:l0++xs.map insOf=insU (fs.take (k+1)):=by rw [Hstp.out,hxs];rfl
     rw [hIns] at hs hw;have hDl:D<W.heap.size:=(Array.getElem?_eq_some_iff.1 hd).1;have hm2:Marks W1.heap.size W.heap.size ({ target := .collected D,args:=#[] } :: ds) W:=hm.cons (by have:=HsK.out;omega) (by have:=HsK.out;omega) hDl hd;have Hs3:=hid hs;have Hm3:=hid hm2;have Hw3:=hid hw;clear hs hw hm2 hm hd hxs hIns
     gi_wp2
     refine⟨⟨k+1,{ target := .collected D,args:=#[] } :: ds,.int .i64 (k:Int),.bool true,.int .i64 (k:Int),.pointer (some ⟨w.heap.size,1,none⟩),.slice (some ⟨fb,foff,none⟩) fs.length fc,.int .i64 (k:Int),.pointer (some ⟨fb,foff+k * 4,none⟩),.func (.func 101) #[] #[.pointer (some ⟨wr.heap.size,0,none⟩)],.int .i64 ((k:Int)+1),rfl,by omega,Hs3.out,Hw3.out,Hm3.out⟩,?_⟩;show fs.length - (k+1)<fs.length - k;omega
    case stop =>
     rintro D c pre W hD hpre ⟨⟨rfl,hw⟩,hb,hm,g,hg1,hg2,hg3⟩ hd;have hDl:D<W.heap.size:=(Array.getElem?_eq_some_iff.1 hd).1;have hm2:Marks W1.heap.size W.heap.size ({ target := .collected D,args:=#[] } :: ds) W:=hm.cons (by have:=HsK.out;omega) (by have:=HsK.out;omega) hDl hd;have hall:(insU fs).any wildB=true:=by
      obtain⟨r,hr⟩:=hpre;have h2:insU fs=insU (fs.take (k+1))++insU (fs.drop (k+1)):=by
       unfold insU;rw [←List.flatMap_append,List.take_append_drop]
      rw [h2,Hstp.out,show insF fs[k]=pre.map insOf++r from hr.symm,←List.append_assoc,List.append_assoc _ r,List.any_append,hw];rfl
     gi_wp2
     refine leaves_marks (B:=W1.heap.size) (C:=W.heap.size) _ _ (by have:=HsK.out;omega) hm2 (fun W' hW=>?_);have hrb:W'.cell? ⟨w.heap.size+1+1,0,none⟩=some (.slice (some ⟨g,0,none⟩) n n):=by
      have h:=hW.1.block (w.heap.size+1+1) (by omega);rw [World.cell?_of_block (w:=W) (a:=⟨w.heap.size+1+1,0,none⟩) h,hg2]
     have hro:=hW.2 _ _ _ _ hg3;have hst:stillF mem (insU fs)=List.replicate n false:=by
      unfold stillF;rw [hall,if_pos rfl,Hml.out]
     have hbf:Below w.heap.size w W':=hb.trans (hW.1.mono (by omega));have hsl:=bools_sl hro (fun b=>w.heap.size≤b) hg1 (by simpa using hn);rw [List.length_replicate] at hsl;refine⟨.slice (some ⟨g,0,none⟩) n n,?_,_,_,rfl,by rw [hst];exact hsl,hbf⟩;have hres:Tryz.f35.results=#[.cell 4 66]:=rfl;unfold results;rw [hres];simp [go_sem,hrb]
  · obtain rfl:k=fs.length:=by omega
    have g3:=Hs.out.cell G3.out (by omega);have gf:wr.frozen? ⟨w.heap.size+1+1,0,none⟩=false:=(Hs.out.frozen (by omega) (by omega)).trans Gf.out;have hse:(wr.setCell ⟨w.heap.size+1+1,0,none⟩ (.slice (some ⟨OB,0,none⟩) n n)).heap.size=wr.heap.size:=by simp [World.setCell]
    have Hse:=hid hse;clear hse
    gi_wp2
    refine leaves_marks (B:=W1.heap.size) (C:=wr.heap.size) ds _ (by rw [Hse.out];omega) (Hmk.out.set _ (by omega)) (fun W' hW=>?_);have hrb:W'.cell? ⟨w.heap.size+1+1,0,none⟩=some (.slice (some ⟨OB,0,none⟩) n n):=by
     have h:=hW.1.block (w.heap.size+1+1) (by omega);rw [World.cell?_of_block (w:=wr.setCell ⟨w.heap.size+1+1,0,none⟩ (.slice (some ⟨OB,0,none⟩) n n)) (a:=⟨w.heap.size+1+1,0,none⟩) h,cell_set g3,if_pos rfl]
    have hro:W'.heap[OB]?=some (.cells ((calmL mem (insU fs)).map Value.bool).toArray 4 (0,0)):=by
     refine hW.2 _ _ _ _ ?_;rw [Below.heap_setCell _ _ _ _ (by dsimp only;omega),Hs.out.row,List.take_length]
    have hcl:(calmL mem (insU fs)).length=n:=by rw [calmL_len,Hml.out]
    have hst:stillF mem (insU fs)=calmL mem (insU fs):=by
     have:=Hwild.out;rw [List.take_length] at this;unfold stillF;rw [this];rfl
    have hbf:Below w.heap.size w W':=(Hs.out.below.setCell (p:=⟨w.heap.size+1+1,0,none⟩) (by dsimp only;omega) _).trans (hW.1.mono (by omega));have hsl:=bools_sl hro (fun b=>w.heap.size≤b) (by omega) (by omega);rw [hcl] at hsl;refine⟨.slice (some ⟨OB,0,none⟩) n n,?_,_,_,rfl,by rw [hst];exact hsl,hbf⟩;have hres:Tryz.f35.results=#[.cell 4 66]:=rfl;unfold results;rw [hres];simp [go_sem,hrb]

end Go.Proofs.YtnkogppgacappaaGreatDoor

namespace Go.Proofs.YtnkogppgacappaaGreatDoor
open Go.RowKit Go.Shelf

attribute [local go_sem] Oper.semAt_some

structure PoSt (w0:World)(OB LC base:Nat)(W:World)(s:List Bool×List Int)(v:Value):Prop where
 size:base≤W.heap.size
 keep:∀b,b<base→b≠OB→b≠LC→W.heap[b]?=w0.heap[b]?
 env:W.os=w0.os∧W.tape=w0.tape∧W.output=w0.output
 row:W.heap[OB]?=some (.cells (s.1.map Value.bool).toArray 4 (0,0))
 cell:W.heap[LC]?=some (.cells #[v] 33 (0,0))
 own:OwnInts base W v s.2
structure VisW (OB LC:Nat)(W W':World)(v v':Value):Prop where
 size:W.heap.size≤W'.heap.size
 keep:∀b,b<W.heap.size→b≠OB→b≠LC→v.ownBlock≠some b→W'.heap[b]?=W.heap[b]?
 row:∀g,v'.ownBlock=some g→v.ownBlock=some g∨W.heap.size≤g
theorem VisW.refl(OB LC:Nat)(W:World)(v:Value):VisW OB LC W W v v:=⟨Nat.le_refl _,fun _ _ _ _ _=>rfl,fun _ h => .inl h⟩
theorem VisW.trans {OB LC:Nat}{A B C:World}{u v x:Value}(h:VisW OB LC A B u v)(k:VisW OB LC B C v x):VisW OB LC A C u x:=by
 refine⟨Nat.le_trans h.size k.size,fun b h1 h2 h3 h4=>?_,fun g hg=>?_⟩
 · rw [k.keep b (Nat.lt_of_lt_of_le h1 h.size) h2 h3 (fun e => by
    rcases h.row b e with h5 | h5
    · exact h4 h5
    · omega), h.keep b h1 h2 h3 h4]
 · rcases k.row g hg with h1 | h1
   · exact h.row g h1
   · exact .inr (Nat.le_trans h.size h1)

theorem own_ge {base:Nat}{w:World}{v:Value}{l:List Int}(h:OwnInts base w v l){g:Nat}(hg:v.ownBlock=some g):base≤g∧g<w.heap.size:=by
 rcases h.1.2 with⟨rfl,-⟩ | ⟨g',cap,cur,rfl,h1,h2,-⟩
 · cases hg
 · cases hg;exact⟨h1,(Array.getElem?_eq_some_iff.1 h2).1⟩
theorem PoSt.cellOf {w0:World}{OB LC base:Nat}{W:World}{s:List Bool×List Int}{v:Value}(h:PoSt w0 OB LC base W s v){b o:Nat}{u:Value}(hc:w0.cell? ⟨b,o,none⟩=some u)(h1:b<base)(h2:b≠OB)(h3:b≠LC):W.cell? ⟨b,o,none⟩=some u:=by
 rw [World.cell?_of_block (w:=w0) (a:=⟨b,o,none⟩) (h.keep b h1 h2 h3)];exact hc
theorem PoSt.left {w0:World}{OB LC base:Nat}{W:World}{s:List Bool×List Int}{v:Value}(h:PoSt w0 OB LC base W s v):W.cell? ⟨LC,0,none⟩=some v:=by simp [World.cell?,h.cell]
theorem PoSt.seen {w0:World}{OB LC base:Nat}{W:World}{s:List Bool×List Int}{v:Value}(h:PoSt w0 OB LC base W s v){i:Nat}(hi:i<s.1.length):W.cell? ⟨OB,i,none⟩=some (.bool s.1[i]):=by
 rw [cell_row h.row];simp [hi]

set_option maxRecDepth 100000 in
set_option maxHeartbeats 4000000 in
theorem visit_any (w0 : World) (OB LC base SC FC VC n : Nat) (ba : Option Addr) (bc : Nat) (bs : List DBlock) (hb : SlAt (fun b => b < base ∧ b ≠ OB ∧ b ≠ LC) w0 6 rBlock (.slice ba n bc) bs) (hn : bs.length = n) (hn2 : n ≤ 1048576)
 (hto:∀(k:Nat) (x:DBlock),bs[k]?=some x→x.fin.to.length≤2∧∀t∈x.fin.to,0≤t∧t<(n:Int))
 (hO:OB<base) (hL:LC<base) (hOL:OB≠LC) (hS:SC<base∧SC≠OB∧SC≠LC) (hF:FC<base∧FC≠OB∧FC≠LC) (hV:VC<base∧VC≠OB∧VC≠LC)
 (cS:w0.cell? ⟨SC,0,none⟩=some (.slice (some ⟨OB,0,none⟩) n n)) (cF:w0.cell? ⟨FC,3,none⟩=some (.slice ba n bc))
 (cV:w0.cell? ⟨VC,0,none⟩=some (.func (.func 133) #[] #[.pointer (some ⟨SC,0,none⟩),.pointer (some ⟨FC,0,none⟩),.pointer (some ⟨VC,0,none⟩),.pointer (some ⟨LC,0,none⟩)])) :
 ∀(f b:Nat) (s:List Bool×List Int) (v:Value) (W:World),PoSt w0 OB LC base W s v→s.1.length=n→s.1[b]?=some false→s.1.count false≤f→s.2.length+s.1.count false≤n →
   Calls Tryz.prog 133 #[.int .i64 (b:Int),.pointer (some ⟨SC,0,none⟩),.pointer (some ⟨FC,0,none⟩),.pointer (some ⟨VC,0,none⟩),.pointer (some ⟨LC,0,none⟩)] W fun e W' =>
    (∃u,e = .returned u)∧∃v',PoSt w0 OB LC base W' (visitF bs f b s) v'∧VisW OB LC W W' v v':=by
 have Hb:=hid hb;have Hto:=hid hto;have Hn:=hid hn;clear hb hto hn;intro f
 induction f with
 | zero =>
   intro b s v W _ _ hsb hc _;have:=unseen_set s.1 b hsb;omega
 | succ f ih =>
   intro b s v W hst hln hsb hc hsum;have Ih:=hid ih;have Hst:=hid hst;have hbn:b<n:=by rw [←hln];exact (List.getElem?_eq_some_iff.1 hsb).1
   have hu:=unseen_set s.1 b hsb;have d0:=hst.cellOf cS hS.1 hS.2.1 hS.2.2;have d1:=hst.cellOf cF hF.1 hF.2.1 hF.2.2;have d2:=hst.seen (i:=b) (by rw [hln];exact hbn);have d3:W.frozen? ⟨OB,b,none⟩=false:=by simp [World.frozen?,hst.row]
   have hbl:b<bs.length:=by rw [Hn.out];exact hbn
   obtain⟨xb,xoff,cs,hxa,hxS,hx,-,hcs⟩:=Hb.out.get hbl;subst hxa;obtain⟨pa,pc,la,lc,ta,tc,rfl,-,-,hts,-,-,htm,-,-⟩:=hx.opens;obtain⟨-,-,-,-,-,c5⟩:=hcs.get6;have d5:=hst.cellOf c5 hxS.1 hxS.2.1 hxS.2.2;have HbS:=hid hxS;have Hts:=hid hts;clear ih hst hcs hx hts c5;refine (callsIn_wide (n:=6)).1 ?_;refine callsIn_of_wp_marks Tryz.func133 rfl trivial ?_ rfl;simp only [Tryz.ntmps133,List.size_toArray,List.length_cons,List.length_nil,Nat.reduceAdd,Nat.reduceSub,Array.replicate_succ,Array.replicate_zero,List.push_toArray,List.append_toArray,List.nil_append,List.cons_append]
   gi_wp2_with (refine⟨trivial,?_⟩;gi_at_call 134;refine (back_in Fence.wide 5 trivial rfl _ _ _ _).mono ?_;rintro e w' ⟨rfl,rfl⟩)
   have hs1:(W.setCell ⟨OB,b,none⟩ (.bool true)).heap.size=W.heap.size:=by simp [World.setCell]
   obtain⟨W1,hW1⟩:∃W1,W1=W.setCell ⟨OB,b,none⟩ (.bool true):=⟨_,rfl⟩
   rw [←hW1] at hs1;rw [←hW1];obtain⟨Wk,hWk⟩:∃Wk,Wk=W1.alloc (.cells #[.slice ta bs[b].fin.to.length tc] 33):=⟨_,rfl⟩
   have hsk:Wk.heap.size=W.heap.size+1:=by rw [hWk];simp [hs1]
   have hkk:∀k,k<W.heap.size→k≠OB→Wk.heap[k]?=W.heap[k]?:=fun k h1 h2=>by
    rw [hWk,Below.heap_alloc _ _ _ (by rw [hs1];exact h1),hW1,Below.heap_setCell _ _ _ _ (by dsimp only;exact h2)]
   have hso:=Hst.out.size;have hvk:VisW OB LC W Wk v v:=⟨by omega,fun k h1 h2 _ _=>hkk k h1 h2,fun _ h => .inl h⟩
   have hst1:PoSt w0 OB LC base Wk (s.1.set b true,s.2) v:=by
    refine⟨by omega,fun k h1 h2 h3=>?_,?_,?_,?_,?_⟩
    · rw [hkk k (by omega) h2];exact Hst.out.keep k h1 h2 h3
    · rw [hWk,hW1];exact Hst.out.env
    · rw [hWk,Below.heap_alloc _ _ _ (by rw [hs1];omega),hW1,heap_set_row Hst.out.row,List.map_set]
      congr 2
      simp
    · rw [hkk LC (by omega) (Ne.symm hOL)];exact Hst.out.cell
    · have h:=Hst.out.own
      have hg:W.grownBy Wk (some OB):=⟨by rw [hWk,hW1];rfl,by rw [hWk,hW1];rfl,by rw [hWk,hW1];rfl,by omega,fun k h1 h2=>hkk k h1 (fun e=>h2 (by rw [e]))⟩
      exact ⟨h.1.kept hg (by
       cases hv : v.ownBlock with
       | none => exact .inl rfl
       | some g => exact .inr (fun e => by
          have := (own_ge h hv).1
          injection e with e
          omega)), h.2⟩
   have hLl:=(Hto.out b _ (List.getElem?_eq_getElem hbl)).1
   have hnx : ∀ k, k < base → k ≠ OB → k ≠ LC → k < Wk.heap.size ∧ ¬ (k = OB ∨ k = LC ∨ v.ownBlock = some k) := fun k h1 h2 h3 => ⟨by omega, fun h => by
    rcases h with h | h | h
    · exact h2 h
    · exact h3 h
    · have := (own_ge Hst.out.own h).1; omega⟩
   have hbx:SlAt (fun k=>k<Wk.heap.size∧¬(k=OB∨k=LC∨v.ownBlock=some k)) Wk 1 rInt (.slice ta bs[b].fin.to.length tc) bs[b].fin.to :=
    Hts.out.mono rInt_mono (fun k hk=>hnx k hk.1 hk.2.1 hk.2.2) (stays_at fun k hk _=>hst1.keep k hk.1 hk.2.1 hk.2.2)
   have hBs:Wk.cell? ⟨W.heap.size,0,none⟩=some (.slice ta bs[b].fin.to.length tc):=by rw [hWk,←hs1];simp
   have Hst1:=hid hst1;have Hvk:=hid hvk;rw [←hWk];clear hWk hW1 hkk hst1 hvk hs1 d0 d1 d2 d3 d5
   refine wpIn_rangeFunc_ownF (α := BackP bs[b].fin.to) rfl (by decide) (gf := 152) (lb := #[.pointer (some ⟨W.heap.size, 0, none⟩)]) rfl trivial (enters_of Tryz.func152 (by kernel_rfl) rfl)
    (back_stops Fence.wide (6 - 1) trivial rfl (by decide) W.heap.size Wk.heap.size (fun k => k = OB ∨ k = LC ∨ v.ownBlock = some k) ta tc bs[b].fin.to Wk Wk (by omega) hbx
      ⟨by omega, fun h => by
        rcases h with h | h | h
        · omega
        · omega
        · have := (own_ge Hst.out.own h).2; omega⟩ (Below.refl _ _) hBs)
    (fun h k=>keepE_t h k) (keepE_b (Nat.le_refl _)) (Below.refl _ _) (fun _=>rfl)
    (fun pre V=>∃v',PoSt w0 OB LC base V (walkF bs f (pre.map numOf) (s.1.set b true,s.2)) v'∧VisW OB LC Wk V v v')
    (fun _ _ _=>False)
    ?hI ?hIx ?h0 (fun x=>{ tmps:=#[(.int .i64 (b:Int)),(.pointer (some ⟨SC,0,none⟩)),(.pointer (some ⟨FC,0,none⟩)),(.pointer (some ⟨VC,0,none⟩)),(.pointer (some ⟨LC,0,none⟩)),undef,undef,(.int .i64 x.1.2),(.slice (some ⟨OB,0,none⟩) n n),(.int .i64 (b:Int)),(.pointer (some ⟨OB,b,none⟩)),(.pointer (some ⟨FC,3,none⟩)),(.slice (some ⟨xb,xoff,none⟩) n bc),(.int .i64 (b:Int)),(.pointer (some ⟨xb,xoff+b * 6,none⟩)),(.pointer (some ⟨xb,xoff+b * 6+2,none⟩)),(.pointer (some ⟨xb,xoff+b * 6+2+3,none⟩)),(.slice ta bs[b].fin.to.length tc),(.func (.func 152) #[] #[.pointer (some ⟨W.heap.size,0,none⟩)]),(.int .i64 (x.1.1:Int)),(.int .i64 x.1.2),undef,undef,undef,undef,undef,undef,undef,undef,undef,undef,undef,undef],defers:=[] }) ?assign ?body ?done ?stop
   case hI =>
    rintro pr A B row ⟨v',hst,hvw⟩ hg hr;have hrw:∀r,row=some r→Wk.heap.size≤r:=fun r e=>(hr r e).1;have hAs:=hst.size;refine⟨v',⟨Nat.le_trans hst.size hg.size,fun k h1 h2 h3=>?_,⟨hg.os.trans hst.env.1,hg.tape.trans hst.env.2.1,hg.output.trans hst.env.2.2⟩,?_,?_,?_⟩,⟨Nat.le_trans hvw.size hg.size,fun k h1 h2 h3 h4=>?_,hvw.row⟩⟩
    · rw [hg.block k (by omega) (fun e=>by have:=hrw k e.symm;omega)];exact hst.keep k h1 h2 h3
    · rw [hg.block OB (by omega) (fun e=>by have:=hrw OB e.symm;omega)];exact hst.row
    · rw [hg.block LC (by omega) (fun e=>by have:=hrw LC e.symm;omega)];exact hst.cell
    · refine⟨hst.own.1.kept hg ?_,hst.own.2⟩
      rcases hst.own.1.2 with⟨rfl,-⟩ | ⟨g',cap,cur,rfl,-,h2,-⟩
      · exact .inl rfl
      · refine .inr (fun e=>?_)
        obtain⟨-,o,ho,hc⟩:=hr g' e.symm;rw [h2] at ho;cases ho;cases hc
    · rw [hg.block k (Nat.lt_of_lt_of_le h1 hvw.size) (fun e=>by have:=hrw k e.symm;omega)];exact hvw.keep k h1 h2 h3 h4
   case hIx=>exact fun _ _ _ _ _ h _ _=>h
   case h0=>exact⟨v,Hst1.out,VisW.refl _ _ _ _⟩
   case assign =>
    intro l x V K hK;unfold encB
    gi_wp2
    exact hK
   case body =>
    rintro l pre x V ⟨v',hst,hvw⟩ _;obtain⟨k1,k2,k3⟩:=walk_sum bs f (visit_sum bs f) (pre.map numOf) (s.1.set b true,s.2) (by dsimp only;omega);obtain⟨s',hs'⟩:∃s',s'=walkF bs f (pre.map numOf) (s.1.set b true,s.2):=⟨_,rfl⟩
    have Hsn:Hid (walkF bs f ((pre++[x]).map numOf) (s.1.set b true,s.2)=if s'.1.getD (numOf x).toNat true=true then s' else visitF bs f (numOf x).toNat s'):=by
     show _=_;rw [List.map_append,hs'];exact walkF_snoc bs f (pre.map numOf) (numOf x) _
    rw [←hs'] at hst k1 k2 k3;dsimp only at k1 k2 k3;rw [List.length_set,hln] at k3;have htt:=(Hto.out b _ (List.getElem?_eq_getElem hbl)).2 _ (numOf_mem x);obtain⟨xv,hxv⟩:∃xv,xv=x.1.2:=⟨_,rfl⟩
    have hnum:numOf x=xv:=hxv.symm;rw [hnum] at htt Hsn;rw [←hxv];obtain⟨t,rfl⟩:=Int.eq_ofNat_of_zero_le htt.1;rw [Int.toNat_natCast] at Hsn;have htn:t<n:=by omega
    have c0:=hst.cellOf cS hS.1 hS.2.1 hS.2.2;have c1:=hst.cellOf cV hV.1 hV.2.1 hV.2.2;have c2:=hst.seen (i:=t) (by rw [k3];exact htn);have Hst2:=hid hst;have Hvw:=hid hvw;have hgd:s'.1.getD t true=s'.1[t]'(by rw [k3];exact htn):=by rw [List.getD_eq_getElem?_getD,List.getElem?_eq_getElem (by rw [k3];exact htn)];rfl
    obtain⟨q,hq⟩:∃q,s'.1[t]'(by rw [k3];exact htn)=q:=⟨_,rfl⟩
    rw [hq] at c2 hgd;rw [hgd] at Hsn;have hq':s'.1[t]?=some q:=by rw [List.getElem?_eq_getElem (by rw [k3];exact htn),hq]
    have Hk1:=hid k1;have Hk2:=hid k2;have Hk3:=hid k3;have Hq:=hid hq';clear hst hvw hs' hxv hnum hgd hq hq' k1 k2 k3 htt;cases q with
    | true =>
      gi_wp2
      exact⟨KeepsOthers.refl _,KeepE.refl _ _ _,v',by rw [Hsn.out,if_pos trivial];exact Hst2.out,Hvw.out⟩
    | false =>
      gi_wp2_with (refine⟨trivial,?_⟩;gi_at_call 133;refine (CallsIn.inRound l (callsIn_wide.2 (Ih.out t s' v' V Hst2.out Hk3.out Hq.out (by have:=Hk2.out;omega) (by have:=Hk1.out;omega)))).mono ?_;rintro e V' ⟨⟨u,rfl⟩,v'',hst3,hvw3⟩)
      have hko : KeepsOthers V V' := ⟨hvw3.size, fun k o hk hc => by
       have hkl : k < V.heap.size := (Array.getElem?_eq_some_iff.1 hk).1
       rw [hvw3.keep k hkl (fun e => by rw [e, Hst2.out.row] at hk; cases hk; cases hc) (fun e => by rw [e, Hst2.out.cell] at hk; cases hk; cases hc) (fun e => by
        rcases Hst2.out.own.1.2 with ⟨rfl, -⟩ | ⟨g', cap, cur, rfl, -, h2, -⟩
        · cases e
        · cases e; rw [h2] at hk; cases hk; cases hc)]
       exact hk⟩
      have hke : KeepE Wk.heap.size (fun k => k = OB ∨ k = LC ∨ v.ownBlock = some k) V V' := ⟨hvw3.size, fun k h1 h2 => hvw3.keep k (Nat.lt_of_lt_of_le h1 Hvw.out.size) (fun e => h2 (.inl e)) (fun e => h2 (.inr (.inl e))) (fun e => by
       rcases Hvw.out.row k e with h3 | h3
       · exact h2 (.inr (.inr h3))
       · omega)⟩
      have Hko:=hid hko;have Hke:=hid hke;have Hst3:=hid hst3;have Hvw3:=hid hvw3;clear hko hke hst3 hvw3
      gi_wp2
      exact⟨Hko.out,Hke.out,v'',by rw [Hsn.out,if_neg (by simp)];exact Hst3.out,Hvw.out.trans Hvw3.out⟩
   case done =>
    rintro D xs V hD hxs ⟨v',hst,hvw⟩ hd;obtain⟨j1,j2,j3⟩:=walk_sum bs f (visit_sum bs f) (xs.map numOf) (s.1.set b true,s.2) (by dsimp only;omega);have Hvf:Hid (visitF bs (f+1) b s=((walkF bs f (xs.map numOf) (s.1.set b true,s.2)).1,(walkF bs f (xs.map numOf) (s.1.set b true,s.2)).2++[(b:Int)])):=by
     show _=_;rw [visitF_succ,hxs];have e:tosOf bs b=bs[b].fin.to:=by unfold tosOf;rw [List.getElem?_eq_getElem hbl]
     rw [e]
    obtain⟨s',hs'⟩:∃s',s'=walkF bs f (xs.map numOf) (s.1.set b true,s.2):=⟨_,rfl⟩
    rw [←hs'] at hst j1 j2 j3 Hvf;dsimp only at j1;have hlen:s'.2.length+1≤n:=by omega
    obtain⟨i0,hi,hz0,hz1,hz2⟩:=info_parts infoInt';obtain⟨la',lc',hv'⟩:=hst.own.shape;subst hv';have hlv:=hst.left;have hfz:V.frozen? ⟨LC,0,none⟩=false:=by simp [World.frozen?,hst.cell]
    have zV:base≤V.heap.size:=hst.size;have zL:LC<V.heap.size:=by omega
    have Hst5:=hid hst;have Hvw5:=hid hvw;have Hown:Hid ((V.alloc (.cells #[.int .i64 (b:Int)] 3)).ownsRow base 3 1 (.slice la' s'.2.length lc') s'.2.length (s'.2.map fun x=>Value.int .i64 x)):=hst.own.1.alloc _;have Hd:=hid hd;clear hst hvw hs' j2 j3 hxs hd
    gi_wp2_with (gi_at_builtin;refine wpListIn_append_own_at _ rfl _ _ 33 rfl base 3 i0 (.int .i64 0) 1 8 Tryz.underlying33 hi hz0 hz1 hz2 rfl (by decide) _ _ _ rfl Hown.out ⟨V.heap.size,0,none⟩ 1 1 [.int .i64 (b:Int)] rfl rfl (cell_one_new _ _ _) ?_ ?_ ?_ ?_ ?_)
    · intro u hu;simp at hu;subst hu;rfl
    · unfold maxLen;omega
    · omega
    · simp;omega
    · intro v9 w9 hown9 hgrow hnil hat
      obtain⟨g,cap,rfl,hgb,hgl⟩:=own_shape hown9;have hrow:∀r,(Value.slice la' s'.2.length lc').ownBlock=some r→base≤r∧∃o:Obj,V.heap[r]?=some o∧o.isCells=true:=fun r e=>by
       rcases Hst5.out.own.1.2 with⟨h1,-⟩ | ⟨g',cap',cur,h1,h2,h3,-⟩
       · rw [h1] at e;cases e
       · rw [h1] at e;cases e;exact⟨h2,_,h3,rfl⟩
      have hk9:∀k,k<V.heap.size→(Value.slice la' s'.2.length lc').ownBlock≠some k→w9.heap[k]?=V.heap[k]?:=fun k h1 h2=>by
       rw [hgrow.block k (by simp;omega) (fun e=>h2 e.symm),Below.heap_alloc _ _ _ h1]
      have hL9:w9.heap[LC]?=some (.cells #[.slice la' s'.2.length lc'] 33 (0,0)):=by
       rw [hk9 LC zL (fun e=>by have:=(hrow LC e).1;omega)];exact Hst5.out.cell
      have c9:w9.cell? ⟨LC,0,none⟩=some (.slice la' s'.2.length lc'):=by simp [World.cell?,hL9]
      have f9:w9.frozen? ⟨LC,0,none⟩=false:=by simp [World.frozen?,hL9]
      have Hown9:=hid hown9;have Hgrow:=hid hgrow;have Hat:=hid hat;have Hk9:=hid hk9;have HL9:=hid hL9;have Hrow:=hid hrow;clear hown9 hgrow hnil hat hk9 hL9 hrow hlv hfz
      gi_wp2
      obtain⟨W9,hW9⟩:∃W9,W9=w9.setCell ⟨LC,0,none⟩ (.slice (some ⟨g,0,none⟩) (s'.2.length+1) cap):=⟨_,rfl⟩
      rw [←hW9];have hs9:W9.heap.size=w9.heap.size:=by rw [hW9];simp [World.setCell]
      have hw9s:V.heap.size+1≤w9.heap.size:=by have:=Hgrow.out.size;simpa using this
      have hk10:∀k,k<V.heap.size→k≠LC→(Value.slice la' s'.2.length lc').ownBlock≠some k→W9.heap[k]?=V.heap[k]?:=fun k h1 h2 h3=>by
       rw [hW9,Below.heap_setCell _ _ _ _ (by dsimp only;exact h2)];exact Hk9.out k h1 h3
      have hrb:∀k,k<base→(Value.slice la' s'.2.length lc').ownBlock≠some k:=fun k h1 e=>by have:=(Hrow.out k e).1;omega
      have hDV:D<V.heap.size:=(Array.getElem?_eq_some_iff.1 Hd.out).1;have hD9:W9.heap[D]?=some (.deferred (some [])):=by
       rw [hk10 D hDV (by omega) (fun e => by
        obtain ⟨-, o, ho, hc⟩ := Hrow.out D e
        rw [Hd.out] at ho
        cases ho
        cases hc)]
       exact Hd.out
      have hvs:=Hvw5.out.size;refine leaves_marks (B:=Wk.heap.size) (C:=D+1) _ _ (by omega) ((Marks.nil Wk.heap.size D W9).cons (Nat.le_refl _) hD (by omega) hD9) (fun W' hW=>?_);have hws:=hW.1.size;refine⟨.tuple #[],results_none rfl _ _ _,⟨_,rfl⟩,.slice (some ⟨g,0,none⟩) (s'.2.length+1) cap,?_,?_⟩
      · rw [Hvf.out]
        refine⟨by omega,fun k h1 h2 h3=>?_,⟨?_,?_,?_⟩,?_,?_,?_⟩
        · rw [hW.1.block k (by omega),hk10 k (by omega) h3 (hrb k h1)];exact Hst5.out.keep k h1 h2 h3
        · rw [hW.1.os,hW9];exact Hgrow.out.os.trans Hst5.out.env.1
        · rw [hW.1.tape,hW9];exact Hgrow.out.tape.trans Hst5.out.env.2.1
        · rw [hW.1.output,hW9];exact Hgrow.out.output.trans Hst5.out.env.2.2
        · rw [hW.1.block OB (by omega),hk10 OB (by omega) hOL (hrb OB hO)];exact Hst5.out.row
        · rw [hW.1.block LC (by omega),hW9,heap_set_row HL9.out];rfl
        · obtain⟨q1,q2⟩:=Hown9.out
          rcases q2 with⟨h,-⟩ | ⟨g',cap',cur,e,q3,q4,q5,q6,q7,q8⟩
          · cases h
          · cases e
            refine⟨⟨by simp,.inr ⟨g,cap,cur,by simp,q3,hW.2 _ _ _ _ (by rw [hW9,Below.heap_setCell _ _ _ _ (by dsimp only;omega)];exact q4),by simpa using q5,q6,q7,?_⟩⟩,fun x hx=>?_⟩
            · rw [List.length_append,List.length_singleton,q8,List.map_append];rfl
            · rcases List.mem_append.1 hx with hx | hx
              · exact Hst5.out.own.2 x hx
              · rw [List.mem_singleton] at hx
                subst hx;unfold I64;omega
      · refine⟨by omega,fun k h1 h2 h3 h4=>?_,fun r hr=>?_⟩
        · have hne:(Value.slice la' s'.2.length lc').ownBlock≠some k:=fun e=>by
           rcases Hvw5.out.row k e with h | h
           · exact h4 h
           · omega
          rw [hW.1.block k (by omega),hk10 k (by omega) h3 hne,Hvw5.out.keep k (by omega) h2 h3 h4];exact Hvk.out.keep k h1 h2 h3 h4
        · rcases Hat.out with h | h
          · rcases Hvw5.out.row r (h.symm.trans hr) with h5 | h5
            · exact .inl h5
            · exact .inr (by omega)
          · rw [h] at hr
            cases hr;exact .inr (by first | omega | (simp;omega) | (rw [World.size_alloc];omega))
   case stop=>exact fun _ _ _ _ _ _ h _=>h.elim

end Go.Proofs.YtnkogppgacappaaGreatDoor
