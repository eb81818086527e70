/- The kit's contract of slices.SortFunc at []tidy.from, laid over the seat's program. slices.SortFunc of what a phi takes, by the new number of the block that it comes from. -/
import Derived.Shelf.SlSortCmp.WholeK
import Derived.Shelf.SlSortCmp.NoneTotal
import Derived.Test.YtnkogppgacappaaGreatDoorProg
import Derived.Test.YtnkogppgacappaaGreatDoorPKeep1
namespace Go.Proofs.YtnkogppgacappaaGreatDoor
open Go.RowKit Go.Shelf

def laysFrom_ren:Go.Shelf.Ren:=⟨fun | 6=>109 | 15=>97 | 14=>132 | 28=>126 | 29=>127 | 20=>144 | 21=>145 | 22=>146 | 23=>147 | 24=>148 | 25=>149 | 26=>150 | 27=>151 | 46=>155 | 47=>137 | 48=>138 | 49=>156 | 50=>157 | 57=>159 | n=>n,fun | 22=>157 | 24=>159 | 25=>161 | 3=>3 | 39=>142 | 0=>0 | 53=>177 | 55=>179 | 4=>4 | 46=>171 | 45=>170 | 50=>86 | 5=>5 | 9=>9 | 66=>192 | 70=>196 | 76=>204 | 77=>205 | n=>n,fun | n=>n⟩
theorem laysFrom : Go.Proofs.SlLaysF0.n6 Tryz.prog laysFrom_ren := {
 mixed := by kernel_rfl,
 f6 := ⟨ "slices.SortFunc[[]turnery/tidy.from,turnery/tidy.from]", by decide, Tryz.func109.trans (congrArg some (by kernel_rfl))⟩,
 f14 := ⟨ "slices.pdqsortCmpFunc[turnery/tidy.from]", by decide, Tryz.func132.trans (congrArg some (by kernel_rfl))⟩,
 f15 := Tryz.func97.trans (congrArg some (by kernel_rfl)),
 f20 := ⟨ "slices.insertionSortCmpFunc[turnery/tidy.from]", by decide, Tryz.func144.trans (congrArg some (by kernel_rfl))⟩,
 f21 := ⟨ "slices.heapSortCmpFunc[turnery/tidy.from]", by decide, Tryz.func145.trans (congrArg some (by kernel_rfl))⟩,
 f22 := ⟨ "slices.breakPatternsCmpFunc[turnery/tidy.from]", by decide, Tryz.func146.trans (congrArg some (by kernel_rfl))⟩,
 f23 := ⟨ "slices.choosePivotCmpFunc[turnery/tidy.from]", by decide, Tryz.func147.trans (congrArg some (by kernel_rfl))⟩,
 f24 := ⟨ "slices.reverseRangeCmpFunc[turnery/tidy.from]", by decide, Tryz.func148.trans (congrArg some (by kernel_rfl))⟩,
 f25 := ⟨ "slices.partialInsertionSortCmpFunc[turnery/tidy.from]", by decide, Tryz.func149.trans (congrArg some (by kernel_rfl))⟩,
 f26 := ⟨ "slices.partitionEqualCmpFunc[turnery/tidy.from]", by decide, Tryz.func150.trans (congrArg some (by kernel_rfl))⟩,
 f27 := ⟨ "slices.partitionCmpFunc[turnery/tidy.from]", by decide, Tryz.func151.trans (congrArg some (by kernel_rfl))⟩,
 f28 := Tryz.func126.trans (congrArg some (by kernel_rfl)),
 f29 := Tryz.func127.trans (congrArg some (by kernel_rfl)),
 f46 := ⟨ "slices.siftDownCmpFunc[turnery/tidy.from]", by decide, Tryz.func155.trans (congrArg some (by kernel_rfl))⟩,
 f47 := Tryz.func137.trans (congrArg some (by kernel_rfl)),
 f48 := Tryz.func138.trans (congrArg some (by kernel_rfl)),
 f49 := ⟨ "slices.medianAdjacentCmpFunc[turnery/tidy.from]", by decide, Tryz.func156.trans (congrArg some (by kernel_rfl))⟩,
 f50 := ⟨ "slices.medianCmpFunc[turnery/tidy.from]", by decide, Tryz.func157.trans (congrArg some (by kernel_rfl))⟩,
 f57 := ⟨ "slices.order2CmpFunc[turnery/tidy.from]", by decide, Tryz.func159.trans (congrArg some (by kernel_rfl))⟩,
 t0 := Tryz.underlying0,
 a0 := Tryz.isAgg0,
 z0 := Tryz.sizeOf0,
 v0 := Tryz.zeroValue0,
 t3 := Tryz.underlying3,
 a3 := Tryz.isAgg3,
 z3 := Tryz.sizeOf3,
 v3 := Tryz.zeroValue3,
 t4 := Tryz.underlying4,
 a4 := Tryz.isAgg4,
 z4 := Tryz.sizeOf4,
 v4 := Tryz.zeroValue4,
 t5 := Tryz.underlying5,
 a5 := Tryz.isAgg5,
 z5 := Tryz.sizeOf5,
 v5 := Tryz.zeroValue5,
 t9 := Tryz.underlying9,
 a9 := Tryz.isAgg9,
 z9 := Tryz.sizeOf9,
 v9 := Tryz.zeroValue9,
 t22 := Tryz.underlying157,
 a22 := Tryz.isAgg157,
 z22 := Tryz.sizeOf157,
 v22 := Tryz.zeroValue157,
 t25 := Tryz.underlying161,
 a25 := Tryz.isAgg161,
 z25 := Tryz.sizeOf161,
 v25 := Tryz.zeroValue161,
 t39 := Tryz.underlying142,
 a39 := Tryz.isAgg142,
 z39 := Tryz.sizeOf142,
 v39 := Tryz.zeroValue142,
 t45 := Tryz.underlying170,
 a45 := Tryz.isAgg170,
 z45 := Tryz.sizeOf170,
 v45 := Tryz.zeroValue170,
 t46 := Tryz.underlying171,
 a46 := Tryz.isAgg171,
 z46 := Tryz.sizeOf171,
 v46 := Tryz.zeroValue171,
 t50 := Tryz.underlying86,
 a50 := Tryz.isAgg86,
 z50 := Tryz.sizeOf86,
 v50 := Tryz.zeroValue86,
 t53 := Tryz.underlying177,
 a53 := Tryz.isAgg177,
 z53 := Tryz.sizeOf177,
 v53 := Tryz.zeroValue177,
 t55 := Tryz.underlying179,
 a55 := Tryz.isAgg179,
 z55 := Tryz.sizeOf179,
 v55 := Tryz.zeroValue179,
 t66 := Tryz.underlying192,
 a66 := Tryz.isAgg192,
 z66 := Tryz.sizeOf192,
 v66 := Tryz.zeroValue192,
 t70 := Tryz.underlying196,
 a70 := Tryz.isAgg196,
 z70 := Tryz.sizeOf196,
 v70 := Tryz.zeroValue196,
 t76 := Tryz.underlying204,
 a76 := Tryz.isAgg204,
 z76 := Tryz.sizeOf204,
 v76 := Tryz.zeroValue204,
 t77 := Tryz.underlying205,
 a77 := Tryz.isAgg205,
 z77 := Tryz.sizeOf205,
 v77 := Tryz.zeroValue205 }

end Go.Proofs.YtnkogppgacappaaGreatDoor

namespace Go.Proofs.YtnkogppgacappaaGreatDoor
open Go.RowKit Go.Shelf Go.Lib Go.Sort

theorem holdsV {w:World}{g:Nat}{cur:Array Value}{e:TypeId}{vs:List Value}(hb:w.heap[g]?=some (.cells cur e (0,0)))(ht:cur.toList.take vs.length=vs):Holds id w g 0 vs.toArray:=by
 intro j hj;have hj':j<vs.length:=by simpa using hj
 refine⟨?_,by simp [World.frozen?,hb]⟩;have h1:(cur.toList.take vs.length)[j]?=vs[j]?:=by rw [ht]
 rw [List.getElem?_take_of_lt hj'] at h1;simp only [World.cell?,hb,Nat.zero_add];simp only [Option.isSome_none,Bool.false_eq_true,if_false];rw [←Array.getElem?_toList,h1];simp [hj']
theorem heap_putV {w:World}{g n:Nat}{os:Array Obj}{cur:Array Value}{e:TypeId}{fr:Nat×Nat}(d:Array Value)(hb:w.heap[g]?=some (.cells cur e fr)) :
 (grow (putRow id (Sort.ahead w n) g 0 d) os).heap[g]?=some (.cells (putCells id 0 d cur) e fr):=by
 have hg:g<w.heap.size:=(Array.getElem?_eq_some_iff.1 hb).1;rw [heap_grow_old _ _ (by simpa using hg)];simp [putRow,mapBlock,Sort.ahead,Array.getElem?_modify,hb,onCells]
theorem grownBy_putV {w:World}{g n:Nat}{os:Array Obj}(d:Array Value):w.grownBy (grow (putRow id (Sort.ahead w n) g 0 d) os) (some g):=by
 refine⟨rfl,rfl,rfl,by simp,fun k hk hne=>?_⟩;rw [heap_grow_old _ _ (by simpa using hk)];have:g≠k:=fun e=>hne (by rw [e]);simp [putRow,mapBlock,Sort.ahead,Array.getElem?_modify,this]
theorem take_putV(cur:Array Value)(ts:List Value)(h:ts.length≤cur.size):(putCells id 0 ts.toArray cur).toList.take ts.length=ts:=by
 apply List.ext_getElem?;intro j
 by_cases hj:j<ts.length
 · rw [List.getElem?_take_of_lt hj,Array.getElem?_toList]
   simp [putCells,hj,show j<cur.size by omega]
 · rw [List.getElem?_take_eq_none (by omega),List.getElem?_eq_none (by omega)]
theorem ownsRow_putV {w : World} {base g cap n k m : Nat} {e : TypeId} {os : Array Obj} {cur : Array Value} {ts : List Value} (hl : ts.length = m * k) (hbase : base ≤ g) (hb : w.heap[g]? = some (.cells cur e (0, 0)))
 (h1:m≤cap) (h2:cap≤maxLen) (h3:cur.size=cap * k):(grow (putRow id (Sort.ahead w n) g 0 ts.toArray) os).ownsRow base e k (.slice (some ⟨g,0,none⟩) m cap) m ts:=by
 have hle:ts.length≤cur.size:=by rw [hl,h3];exact Nat.mul_le_mul_right _ h1
 exact⟨hl,.inr ⟨g,cap,_,rfl,hbase,heap_putV _ hb,h1,h2,by simp [putCells,h3],by rw [←hl];exact take_putV cur ts hle⟩⟩
theorem flatK_list {α:Type}[Inhabited α](enc:α→List Value)(k:Nat)(hk:∀x,(enc x).length=k)(l:List α):flatK enc k l.toArray=((l.map enc).flatten).toArray:=by
 have hw:∀(i:Nat) cs,(l.map enc)[i]?=some cs→cs.length=k:=fun i cs h=>by
  obtain⟨x,_,rfl⟩:=List.mem_map.1 (List.mem_of_getElem? h);exact hk x
 have hlen:=flat_len (l.map enc) hw;rw [List.length_map] at hlen;apply Array.ext (by simp [hlen]);intro t h1 h2;have ht:t<l.length * k:=by simpa using h1
 have k0 : 0 < k := by rcases Nat.eq_zero_or_pos k with h | h; · subst h; simp at ht
                       · exact h
 have hi:t / k<l.length:=(Nat.div_lt_iff_lt_mul k0).2 ht;have hf:=flat_at (l.map enc) hw (t / k) (t % k) (enc l[t / k]) (by rw [List.getElem?_map,List.getElem?_eq_getElem hi];rfl) (Nat.mod_lt _ k0);rw [Nat.div_add_mod' t k] at hf;have h3:t % k<(enc l[t / k]).length:=by rw [hk];exact Nat.mod_lt _ k0
 rw [List.getElem?_eq_getElem h3,List.getElem?_eq_getElem (by rw [hlen];exact ht)] at hf;have e:=get_flatK enc k l.toArray t (by simpa using ht);rw [getElem!_pos _ t (by simpa using ht)] at e;rw [e];have e2:l.toArray[t / k]! = l[t / k]:=by simp [hi]
 rw [e2,getElem!_pos _ (t % k) h3];simpa using (Option.some.inj hf).symm

structure FromT where
 v:Int×DVal
 ok:0≤v.1∧v.1≤1048576
instance:Inhabited FromT:=⟨⟨(0,⟨false,0⟩),by decide⟩⟩
def encF(x:FromT):List Value:=cellsF x.v
def cfF(x y:FromT):Int:=x.v.1 - y.v.1
theorem from_list : ∀ l : List (Int × DVal), (∀ x ∈ l, 0 ≤ x.1 ∧ x.1 ≤ 1048576) → ∃ d : List FromT, d.map FromT.v = l
 | [],_=>⟨[],rfl⟩
 | x :: l,h=>by
   obtain⟨d,hd⟩:=from_list l fun y hy=>h y (List.mem_cons_of_mem _ hy);exact⟨⟨x,h x (List.mem_cons_self ..)⟩ :: d,by rw [List.map_cons,hd]⟩
theorem ltF(x y:FromT):ltOf cfF x y=decide (x.v.1<y.v.1):=by
 unfold ltOf cfF;rw [Bool.eq_iff_iff];simp;omega
theorem swoF:SWO (ltOf cfF) where
 irrefl x:=by rw [ltF];simp
 trans x y z h1 h2:=by rw [ltF] at *;simp at *;omega
 ntrans x y z h1 h2:=by rw [ltF] at *;simp at *;omega

set_option maxHeartbeats 1000000 in
theorem keepCmp(x y:FromT)(W:World):Calls Tryz.prog 110 #[.agg (encF x).toArray,.agg (encF y).toArray] W fun e w'=>e = .returned (.int .i64 (cfF x y))∧∃q os',w'=grow (W.drewN q) os':=by
 obtain⟨⟨a,⟨ar,an⟩⟩,ha⟩:=x;obtain⟨⟨b,⟨br,bn⟩⟩,hb⟩:=y;show Calls Tryz.prog 110 #[.agg #[.int .i64 a,.bool ar,.int .i64 an],.agg #[.int .i64 b,.bool br,.int .i64 bn]] W fun e w'=>e = .returned (.int .i64 (a - b))∧∃q os',w'=grow (W.drewN q) os';simp only at ha hb;go_enter Tryz.func110,Tryz.ntmps110;go_wp2;go_ret;exact⟨rfl,0,_,by rw [alloc_eq_grow,alloc_eq_grow,grow_grow];rfl⟩
theorem cmpLaysF(blk off size:Nat)(w:World):CmpLays Tryz.prog 110 #[] encF 3 cfF blk off size w:=fun _ _ _ _ x y=>keepCmp x y _

theorem sorted_from {l m:List (Int×DVal)}(hp:m.Perm l)(hs:m.Pairwise fun x y=>x.1≤y.1)(hnd:(l.map Prod.fst).Nodup):m=l.mergeSort leF:=by
 refine List.Perm.eq_of_pairwise (le:=fun x y=>x.1≤y.1) ?_ hs ?_ (hp.trans (List.mergeSort_perm _ _).symm)
 · intro a b ha hb h1 h2
   have ha':a∈l:=hp.mem_iff.1 ha;have hb':b∈l:=(List.mergeSort_perm l leF).mem_iff.1 hb;have he:a.1=b.1:=by omega
   obtain⟨i,hi,rfl⟩:=List.getElem_of_mem ha';obtain⟨j,hj,rfl⟩:=List.getElem_of_mem hb';have hp:=List.pairwise_iff_getElem.1 hnd;rcases Nat.lt_trichotomy i j with h | h | h
   · exact absurd (by rw [List.getElem_map,List.getElem_map];exact he) (hp i j (by simpa using hi) (by simpa using hj) h)
   · subst h;rfl
   · exact absurd (by rw [List.getElem_map,List.getElem_map];exact he.symm) (hp j i (by simpa using hj) (by simpa using hi) h)
 · have h:=List.pairwise_mergeSort (le:=leF) (fun a b c h1 h2=>by simp [leF] at *;omega) (fun a b=>by simp [leF];omega) l
   exact h.imp fun h=>by simpa [leF] using h

set_option maxHeartbeats 1000000 in
theorem sortFrom_own {base:Nat}{v:Value}(l:List (Int×DVal))(W:World)(ho:W.ownsRow base 159 3 v l.length (l.map cellsF).flatten)(hk:∀x∈l,0≤x.1∧x.1≤1048576)(hnd:(l.map Prod.fst).Nodup)(hl:l.length≤1048576) :
 Calls Tryz.prog 109 #[v,.func (.func 110) #[] #[]] W fun e w'=>e = .returned (.tuple #[])∧w'.ownsRow base 159 3 v l.length ((l.mergeSort leF).map cellsF).flatten∧W.grownBy w' v.ownBlock:=by
 by_cases h0:l=[]
 · subst h0
   obtain⟨a,c,rfl⟩:∃a c,v = .slice a 0 c:=by
    rcases ho.2 with⟨h1,-⟩ | ⟨g,cap,cur,h1,-⟩
    · exact⟨_,_,h1⟩
    · exact⟨_,_,h1⟩
   have hS:=AnyF.slices_SortFunc_none (P:=Tryz.prog) (ρ:=laysFrom_ren) laysFrom a c (.func (.func 110) #[] #[]) W;change Calls Tryz.prog 109 _ _ _ at hS;refine hS.mono ?_;rintro e w' ⟨rfl,rfl⟩;exact⟨rfl,by rw [List.mergeSort_nil];exact ho,⟨rfl,rfl,rfl,Nat.le_refl _,fun _ _ _=>rfl⟩⟩
 · rcases ho.2 with⟨-,h1⟩ | ⟨g,cap,cur,rfl,hg,hh,hn,hm,hs,ht⟩
   · exact absurd (List.eq_nil_of_length_eq_zero h1) h0
   · obtain⟨d,hd⟩:=from_list l hk
     have hdl:d.length=l.length:=by rw [←hd,List.length_map]
     have henc:d.map encF=l.map cellsF:=by rw [←hd,List.map_map];rfl
     have hfl:flatK encF 3 d.toArray=((l.map cellsF).flatten).toArray:=by rw [flatK_list encF 3 (fun _=>rfl),henc]
     have hfll:(l.map cellsF).flatten.length=l.length * 3:=ho.1;have hH:HoldsK encF 3 W g 0 d.toArray:=by
      unfold HoldsK;rw [hfl];exact holdsV hh (by rw [hfll];exact ht)
     have eg:∀args w,(callFunc 110 args).run Tryz.prog w = .ok (.enter 110 args) w:=enters_of Tryz.func110 (by kernel_rfl) rfl;have hS:=AnyQ.slices_SortFunc laysFrom 3 Tryz.isAgg159 Tryz.sizeOf159 encF (fun _=>rfl) (fun x v hv=>by simp [encF,cellsF] at hv;rcases hv with rfl | rfl | rfl <;> rfl) cfF swoF 110 #[] g 0 cap d.toArray W eg (cmpLaysF g 0 _ W) hH (Array.getElem?_eq_some_iff.1 hh).1 (by simp;omega);change Calls Tryz.prog 109 _ _ _ at hS;rw [List.size_toArray,hdl] at hS;refine hS.mono ?_;rintro e w' ⟨rfl,d',n,os,⟨hsz,-,hperm⟩,hsort,rfl⟩;have hsz':d'.size=l.length:=by rw [hsz,List.size_toArray,hdl]
     have e1:d'.extract 0 l.length=d':=by rw [←hsz'];exact Array.extract_size
     have e2:d.toArray.extract 0 l.length=d.toArray:=by
      have hds:d.toArray.size=l.length:=by rw [List.size_toArray,hdl]
      rw [←hds];exact Array.extract_size
     rw [e1,e2] at hperm;have hm2:(d'.toList.map FromT.v)=l.mergeSort leF:=by
      refine sorted_from ?_ ?_ hnd
      · have:=hperm.map FromT.v
        rw [show d.toArray.toList=d from rfl,hd] at this;exact this
      · rw [List.pairwise_iff_getElem]
        intro i j hi hj hij;have hi':i<d'.size:=by simpa using hi
        have hj':j<d'.size:=by simpa using hj
        have:=hsort i j (Nat.zero_le _) hij (by rw [←hsz'];exact hj');rw [ltF,getElem!_pos d' j hj',getElem!_pos d' i hi'] at this;simp at this;simpa using this
     have hfl2:flatK encF 3 d'=(((l.mergeSort leF).map cellsF).flatten).toArray:=by
      have:=flatK_list encF 3 (fun _=>rfl) d'.toList;rw [Array.toArray_toList] at this;rw [this,←hm2,List.map_map];rfl
     have hlen2:((l.mergeSort leF).map cellsF).flatten.length=l.length * 3:=by
      rw [flat_len _ (sz:=3) (fun i cs h=>by obtain⟨x,_,rfl⟩:=List.mem_map.1 (List.mem_of_getElem? h);rfl),List.length_map,(List.mergeSort_perm _ _).length_eq]
     unfold sortWorldK putRowK;rw [hfl2];exact⟨rfl,ownsRow_putV hlen2 hg hh hn hm hs,grownBy_putV _⟩

end Go.Proofs.YtnkogppgacappaaGreatDoor
