/- The kit's contract of slices.SortFunc at []tidy.from, laid over the seat's program. slices.SortFunc of what a phi takes, by the new number of the block that it comes from. -/
import Derived.Shelf.SlSortCmp.WholeK
import Derived.Shelf.SlSortCmp.NoneTotal
import Derived.Test.YtnkogppgacappaaDoorProg
import Derived.Test.YtnkogppgacappaaDoorPKeep1
namespace Go.Proofs.YtnkogppgacappaaDoor
open Go.RowKit Go.Shelf

def laysFrom_ren:Go.Shelf.Ren:=⟨fun | 6=>76 | 15=>60 | 14=>106 | 28=>91 | 29=>92 | 20=>119 | 21=>120 | 22=>121 | 23=>122 | 24=>123 | 25=>124 | 26=>125 | 27=>126 | 46=>130 | 47=>111 | 48=>112 | 49=>131 | 50=>132 | 57=>134 | n=>n,fun | 22=>131 | 24=>133 | 25=>135 | 3=>3 | 39=>110 | 0=>0 | 53=>146 | 55=>148 | 4=>4 | 46=>139 | 45=>138 | 50=>143 | 5=>5 | 9=>9 | 66=>168 | 70=>172 | 76=>183 | 77=>184 | n=>n,fun | n=>n⟩
theorem laysFrom : Go.Proofs.SlLaysF0.n6 Tryd.prog laysFrom_ren := {
 mixed := by kernel_rfl,
 f6 := ⟨ "slices.SortFunc[[]turnery/tidy.from,turnery/tidy.from]", by decide, Tryd.func76.trans (congrArg some (by kernel_rfl))⟩,
 f14 := ⟨ "slices.pdqsortCmpFunc[turnery/tidy.from]", by decide, Tryd.func106.trans (congrArg some (by kernel_rfl))⟩,
 f15 := Tryd.func60.trans (congrArg some (by kernel_rfl)),
 f20 := ⟨ "slices.insertionSortCmpFunc[turnery/tidy.from]", by decide, Tryd.func119.trans (congrArg some (by kernel_rfl))⟩,
 f21 := ⟨ "slices.heapSortCmpFunc[turnery/tidy.from]", by decide, Tryd.func120.trans (congrArg some (by kernel_rfl))⟩,
 f22 := ⟨ "slices.breakPatternsCmpFunc[turnery/tidy.from]", by decide, Tryd.func121.trans (congrArg some (by kernel_rfl))⟩,
 f23 := ⟨ "slices.choosePivotCmpFunc[turnery/tidy.from]", by decide, Tryd.func122.trans (congrArg some (by kernel_rfl))⟩,
 f24 := ⟨ "slices.reverseRangeCmpFunc[turnery/tidy.from]", by decide, Tryd.func123.trans (congrArg some (by kernel_rfl))⟩,
 f25 := ⟨ "slices.partialInsertionSortCmpFunc[turnery/tidy.from]", by decide, Tryd.func124.trans (congrArg some (by kernel_rfl))⟩,
 f26 := ⟨ "slices.partitionEqualCmpFunc[turnery/tidy.from]", by decide, Tryd.func125.trans (congrArg some (by kernel_rfl))⟩,
 f27 := ⟨ "slices.partitionCmpFunc[turnery/tidy.from]", by decide, Tryd.func126.trans (congrArg some (by kernel_rfl))⟩,
 f28 := Tryd.func91.trans (congrArg some (by kernel_rfl)),
 f29 := Tryd.func92.trans (congrArg some (by kernel_rfl)),
 f46 := ⟨ "slices.siftDownCmpFunc[turnery/tidy.from]", by decide, Tryd.func130.trans (congrArg some (by kernel_rfl))⟩,
 f47 := Tryd.func111.trans (congrArg some (by kernel_rfl)),
 f48 := Tryd.func112.trans (congrArg some (by kernel_rfl)),
 f49 := ⟨ "slices.medianAdjacentCmpFunc[turnery/tidy.from]", by decide, Tryd.func131.trans (congrArg some (by kernel_rfl))⟩,
 f50 := ⟨ "slices.medianCmpFunc[turnery/tidy.from]", by decide, Tryd.func132.trans (congrArg some (by kernel_rfl))⟩,
 f57 := ⟨ "slices.order2CmpFunc[turnery/tidy.from]", by decide, Tryd.func134.trans (congrArg some (by kernel_rfl))⟩,
 t0 := Tryd.underlying0,
 a0 := Tryd.isAgg0,
 z0 := Tryd.sizeOf0,
 v0 := Tryd.zeroValue0,
 t3 := Tryd.underlying3,
 a3 := Tryd.isAgg3,
 z3 := Tryd.sizeOf3,
 v3 := Tryd.zeroValue3,
 t4 := Tryd.underlying4,
 a4 := Tryd.isAgg4,
 z4 := Tryd.sizeOf4,
 v4 := Tryd.zeroValue4,
 t5 := Tryd.underlying5,
 a5 := Tryd.isAgg5,
 z5 := Tryd.sizeOf5,
 v5 := Tryd.zeroValue5,
 t9 := Tryd.underlying9,
 a9 := Tryd.isAgg9,
 z9 := Tryd.sizeOf9,
 v9 := Tryd.zeroValue9,
 t22 := Tryd.underlying131,
 a22 := Tryd.isAgg131,
 z22 := Tryd.sizeOf131,
 v22 := Tryd.zeroValue131,
 t25 := Tryd.underlying135,
 a25 := Tryd.isAgg135,
 z25 := Tryd.sizeOf135,
 v25 := Tryd.zeroValue135,
 t39 := Tryd.underlying110,
 a39 := Tryd.isAgg110,
 z39 := Tryd.sizeOf110,
 v39 := Tryd.zeroValue110,
 t45 := Tryd.underlying138,
 a45 := Tryd.isAgg138,
 z45 := Tryd.sizeOf138,
 v45 := Tryd.zeroValue138,
 t46 := Tryd.underlying139,
 a46 := Tryd.isAgg139,
 z46 := Tryd.sizeOf139,
 v46 := Tryd.zeroValue139,
 t50 := Tryd.underlying143,
 a50 := Tryd.isAgg143,
 z50 := Tryd.sizeOf143,
 v50 := Tryd.zeroValue143,
 t53 := Tryd.underlying146,
 a53 := Tryd.isAgg146,
 z53 := Tryd.sizeOf146,
 v53 := Tryd.zeroValue146,
 t55 := Tryd.underlying148,
 a55 := Tryd.isAgg148,
 z55 := Tryd.sizeOf148,
 v55 := Tryd.zeroValue148,
 t66 := Tryd.underlying168,
 a66 := Tryd.isAgg168,
 z66 := Tryd.sizeOf168,
 v66 := Tryd.zeroValue168,
 t70 := Tryd.underlying172,
 a70 := Tryd.isAgg172,
 z70 := Tryd.sizeOf172,
 v70 := Tryd.zeroValue172,
 t76 := Tryd.underlying183,
 a76 := Tryd.isAgg183,
 z76 := Tryd.sizeOf183,
 v76 := Tryd.zeroValue183,
 t77 := Tryd.underlying184,
 a77 := Tryd.isAgg184,
 z77 := Tryd.sizeOf184,
 v77 := Tryd.zeroValue184 }

end Go.Proofs.YtnkogppgacappaaDoor

namespace Go.Proofs.YtnkogppgacappaaDoor
open Go.RowKit Go.Shelf Go.Lib Go.Sort

theorem holdsV {w:World}{g:Nat}{cur:Array Value}{e:TypeId}{vs:List Value}(hb:w.heap[g]?=some (.cells cur e (0,0)))(ht:cur.toList.take vs.length=vs):Holds id w g 0 vs.toArray:=by
 intro j hj;have hj':j<vs.length:=by simpa using hj
 refine⟨?_,by simp [World.frozen?,hb]⟩;have h1:(cur.toList.take vs.length)[j]?=vs[j]?:=by rw [ht]
 rw [List.getElem?_take_of_lt hj'] at h1;simp only [World.cell?,hb,Nat.zero_add];simp only [Option.isSome_none,Bool.false_eq_true,if_false];rw [←Array.getElem?_toList,h1];simp [hj']
theorem heap_putV {w:World}{g n:Nat}{os:Array Obj}{cur:Array Value}{e:TypeId}{fr:Nat×Nat}(d:Array Value)(hb:w.heap[g]?=some (.cells cur e fr)) :
 (grow (putRow id (Sort.ahead w n) g 0 d) os).heap[g]?=some (.cells (putCells id 0 d cur) e fr):=by
 have hg:g<w.heap.size:=(Array.getElem?_eq_some_iff.1 hb).1;rw [heap_grow_old _ _ (by simpa using hg)];simp [putRow,mapBlock,Sort.ahead,Array.getElem?_modify,hb,onCells]
theorem grownBy_putV {w:World}{g n:Nat}{os:Array Obj}(d:Array Value):w.grownBy (grow (putRow id (Sort.ahead w n) g 0 d) os) (some g):=by
 refine⟨rfl,rfl,rfl,by simp,fun k hk hne=>?_⟩;rw [heap_grow_old _ _ (by simpa using hk)];have:g≠k:=fun e=>hne (by rw [e]);simp [putRow,mapBlock,Sort.ahead,Array.getElem?_modify,this]
theorem take_putV(cur:Array Value)(ts:List Value)(h:ts.length≤cur.size):(putCells id 0 ts.toArray cur).toList.take ts.length=ts:=by
 apply List.ext_getElem?;intro j
 by_cases hj:j<ts.length
 · rw [List.getElem?_take_of_lt hj,Array.getElem?_toList]
   simp [putCells,hj,show j<cur.size by omega]
 · rw [List.getElem?_take_eq_none (by omega),List.getElem?_eq_none (by omega)]
theorem ownsRow_putV {w : World} {base g cap n k m : Nat} {e : TypeId} {os : Array Obj} {cur : Array Value} {ts : List Value} (hl : ts.length = m * k) (hbase : base ≤ g) (hb : w.heap[g]? = some (.cells cur e (0, 0)))
 (h1:m≤cap) (h2:cap≤maxLen) (h3:cur.size=cap * k):(grow (putRow id (Sort.ahead w n) g 0 ts.toArray) os).ownsRow base e k (.slice (some ⟨g,0,none⟩) m cap) m ts:=by
 have hle:ts.length≤cur.size:=by rw [hl,h3];exact Nat.mul_le_mul_right _ h1
 exact⟨hl,.inr ⟨g,cap,_,rfl,hbase,heap_putV _ hb,h1,h2,by simp [putCells,h3],by rw [←hl];exact take_putV cur ts hle⟩⟩
theorem flatK_list {α:Type}[Inhabited α](enc:α→List Value)(k:Nat)(hk:∀x,(enc x).length=k)(l:List α):flatK enc k l.toArray=((l.map enc).flatten).toArray:=by
 have hw:∀(i:Nat) cs,(l.map enc)[i]?=some cs→cs.length=k:=fun i cs h=>by
  obtain⟨x,_,rfl⟩:=List.mem_map.1 (List.mem_of_getElem? h);exact hk x
 have hlen:=flat_len (l.map enc) hw;rw [List.length_map] at hlen;apply Array.ext (by simp [hlen]);intro t h1 h2;have ht:t<l.length * k:=by simpa using h1
 have k0 : 0 < k := by rcases Nat.eq_zero_or_pos k with h | h; · subst h; simp at ht
                       · exact h
 have hi:t / k<l.length:=(Nat.div_lt_iff_lt_mul k0).2 ht;have hf:=flat_at (l.map enc) hw (t / k) (t % k) (enc l[t / k]) (by rw [List.getElem?_map,List.getElem?_eq_getElem hi];rfl) (Nat.mod_lt _ k0);rw [Nat.div_add_mod' t k] at hf;have h3:t % k<(enc l[t / k]).length:=by rw [hk];exact Nat.mod_lt _ k0
 rw [List.getElem?_eq_getElem h3,List.getElem?_eq_getElem (by rw [hlen];exact ht)] at hf;have e:=get_flatK enc k l.toArray t (by simpa using ht);rw [getElem!_pos _ t (by simpa using ht)] at e;rw [e];have e2:l.toArray[t / k]! = l[t / k]:=by simp [hi]
 rw [e2,getElem!_pos _ (t % k) h3];simpa using (Option.some.inj hf).symm

structure FromT where
 v:Int×DVal
 ok:0≤v.1∧v.1≤1048576
instance:Inhabited FromT:=⟨⟨(0,⟨false,0⟩),by decide⟩⟩
def encF(x:FromT):List Value:=cellsF x.v
def cfF(x y:FromT):Int:=x.v.1 - y.v.1
theorem from_list : ∀ l : List (Int × DVal), (∀ x ∈ l, 0 ≤ x.1 ∧ x.1 ≤ 1048576) → ∃ d : List FromT, d.map FromT.v = l
 | [],_=>⟨[],rfl⟩
 | x :: l,h=>by
   obtain⟨d,hd⟩:=from_list l fun y hy=>h y (List.mem_cons_of_mem _ hy);exact⟨⟨x,h x (List.mem_cons_self ..)⟩ :: d,by rw [List.map_cons,hd]⟩
theorem ltF(x y:FromT):ltOf cfF x y=decide (x.v.1<y.v.1):=by
 unfold ltOf cfF;rw [Bool.eq_iff_iff];simp;omega
theorem swoF:SWO (ltOf cfF) where
 irrefl x:=by rw [ltF];simp
 trans x y z h1 h2:=by rw [ltF] at *;simp at *;omega
 ntrans x y z h1 h2:=by rw [ltF] at *;simp at *;omega

set_option maxHeartbeats 1000000 in
theorem keepCmp(x y:FromT)(W:World):Calls Tryd.prog 77 #[.agg (encF x).toArray,.agg (encF y).toArray] W fun e w'=>e = .returned (.int .i64 (cfF x y))∧∃q os',w'=grow (W.drewN q) os':=by
 obtain⟨⟨a,⟨ar,an⟩⟩,ha⟩:=x;obtain⟨⟨b,⟨br,bn⟩⟩,hb⟩:=y;show Calls Tryd.prog 77 #[.agg #[.int .i64 a,.bool ar,.int .i64 an],.agg #[.int .i64 b,.bool br,.int .i64 bn]] W fun e w'=>e = .returned (.int .i64 (a - b))∧∃q os',w'=grow (W.drewN q) os';simp only at ha hb;go_enter Tryd.func77,Tryd.ntmps77;go_wp2;go_ret;exact⟨rfl,0,_,by rw [alloc_eq_grow,alloc_eq_grow,grow_grow];rfl⟩
theorem cmpLaysF(blk off size:Nat)(w:World):CmpLays Tryd.prog 77 #[] encF 3 cfF blk off size w:=fun _ _ _ _ x y=>keepCmp x y _

theorem sorted_from {l m:List (Int×DVal)}(hp:m.Perm l)(hs:m.Pairwise fun x y=>x.1≤y.1)(hnd:(l.map Prod.fst).Nodup):m=l.mergeSort leF:=by
 refine List.Perm.eq_of_pairwise (le:=fun x y=>x.1≤y.1) ?_ hs ?_ (hp.trans (List.mergeSort_perm _ _).symm)
 · intro a b ha hb h1 h2
   have ha':a∈l:=hp.mem_iff.1 ha;have hb':b∈l:=(List.mergeSort_perm l leF).mem_iff.1 hb;have he:a.1=b.1:=by omega
   obtain⟨i,hi,rfl⟩:=List.getElem_of_mem ha';obtain⟨j,hj,rfl⟩:=List.getElem_of_mem hb';have hp:=List.pairwise_iff_getElem.1 hnd;rcases Nat.lt_trichotomy i j with h | h | h
   · exact absurd (by rw [List.getElem_map,List.getElem_map];exact he) (hp i j (by simpa using hi) (by simpa using hj) h)
   · subst h;rfl
   · exact absurd (by rw [List.getElem_map,List.getElem_map];exact he.symm) (hp j i (by simpa using hj) (by simpa using hi) h)
 · have h:=List.pairwise_mergeSort (le:=leF) (fun a b c h1 h2=>by simp [leF] at *;omega) (fun a b=>by simp [leF];omega) l
   exact h.imp fun h=>by simpa [leF] using h

set_option maxHeartbeats 1000000 in
theorem sortFrom_own {base:Nat}{v:Value}(l:List (Int×DVal))(W:World)(ho:W.ownsRow base 133 3 v l.length (l.map cellsF).flatten)(hk:∀x∈l,0≤x.1∧x.1≤1048576)(hnd:(l.map Prod.fst).Nodup)(hl:l.length≤1048576) :
 Calls Tryd.prog 76 #[v,.func (.func 77) #[] #[]] W fun e w'=>e = .returned (.tuple #[])∧w'.ownsRow base 133 3 v l.length ((l.mergeSort leF).map cellsF).flatten∧W.grownBy w' v.ownBlock:=by
 by_cases h0:l=[]
 · subst h0
   obtain⟨a,c,rfl⟩:∃a c,v = .slice a 0 c:=by
    rcases ho.2 with⟨h1,-⟩ | ⟨g,cap,cur,h1,-⟩
    · exact⟨_,_,h1⟩
    · exact⟨_,_,h1⟩
   have hS:=AnyF.slices_SortFunc_none (P:=Tryd.prog) (ρ:=laysFrom_ren) laysFrom a c (.func (.func 77) #[] #[]) W;change Calls Tryd.prog 76 _ _ _ at hS;refine hS.mono ?_;rintro e w' ⟨rfl,rfl⟩;exact⟨rfl,by rw [List.mergeSort_nil];exact ho,⟨rfl,rfl,rfl,Nat.le_refl _,fun _ _ _=>rfl⟩⟩
 · rcases ho.2 with⟨-,h1⟩ | ⟨g,cap,cur,rfl,hg,hh,hn,hm,hs,ht⟩
   · exact absurd (List.eq_nil_of_length_eq_zero h1) h0
   · obtain⟨d,hd⟩:=from_list l hk
     have hdl:d.length=l.length:=by rw [←hd,List.length_map]
     have henc:d.map encF=l.map cellsF:=by rw [←hd,List.map_map];rfl
     have hfl:flatK encF 3 d.toArray=((l.map cellsF).flatten).toArray:=by rw [flatK_list encF 3 (fun _=>rfl),henc]
     have hfll:(l.map cellsF).flatten.length=l.length * 3:=ho.1;have hH:HoldsK encF 3 W g 0 d.toArray:=by
      unfold HoldsK;rw [hfl];exact holdsV hh (by rw [hfll];exact ht)
     have eg:∀args w,(callFunc 77 args).run Tryd.prog w = .ok (.enter 77 args) w:=enters_of Tryd.func77 (by kernel_rfl) rfl;have hS:=AnyQ.slices_SortFunc laysFrom 3 Tryd.isAgg133 Tryd.sizeOf133 encF (fun _=>rfl) (fun x v hv=>by simp [encF,cellsF] at hv;rcases hv with rfl | rfl | rfl <;> rfl) cfF swoF 77 #[] g 0 cap d.toArray W eg (cmpLaysF g 0 _ W) hH (Array.getElem?_eq_some_iff.1 hh).1 (by simp;omega);change Calls Tryd.prog 76 _ _ _ at hS;rw [List.size_toArray,hdl] at hS;refine hS.mono ?_;rintro e w' ⟨rfl,d',n,os,⟨hsz,-,hperm⟩,hsort,rfl⟩;have hsz':d'.size=l.length:=by rw [hsz,List.size_toArray,hdl]
     have e1:d'.extract 0 l.length=d':=by rw [←hsz'];exact Array.extract_size
     have e2:d.toArray.extract 0 l.length=d.toArray:=by
      have hds:d.toArray.size=l.length:=by rw [List.size_toArray,hdl]
      rw [←hds];exact Array.extract_size
     rw [e1,e2] at hperm;have hm2:(d'.toList.map FromT.v)=l.mergeSort leF:=by
      refine sorted_from ?_ ?_ hnd
      · have:=hperm.map FromT.v
        rw [show d.toArray.toList=d from rfl,hd] at this;exact this
      · rw [List.pairwise_iff_getElem]
        intro i j hi hj hij;have hi':i<d'.size:=by simpa using hi
        have hj':j<d'.size:=by simpa using hj
        have:=hsort i j (Nat.zero_le _) hij (by rw [←hsz'];exact hj');rw [ltF,getElem!_pos d' j hj',getElem!_pos d' i hi'] at this;simp at this;simpa using this
     have hfl2:flatK encF 3 d'=(((l.mergeSort leF).map cellsF).flatten).toArray:=by
      have:=flatK_list encF 3 (fun _=>rfl) d'.toList;rw [Array.toArray_toList] at this;rw [this,←hm2,List.map_map];rfl
     have hlen2:((l.mergeSort leF).map cellsF).flatten.length=l.length * 3:=by
      rw [flat_len _ (sz:=3) (fun i cs h=>by obtain⟨x,_,rfl⟩:=List.mem_map.1 (List.mem_of_getElem? h);rfl),List.length_map,(List.mergeSort_perm _ _).length_eq]
     unfold sortWorldK putRowK;rw [hfl2];exact⟨rfl,ownsRow_putV hlen2 hg hh hn hm hs,grownBy_putV _⟩

end Go.Proofs.YtnkogppgacappaaDoor
