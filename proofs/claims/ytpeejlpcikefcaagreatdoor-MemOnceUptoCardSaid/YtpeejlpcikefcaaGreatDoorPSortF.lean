import Derived.Shelf.SlSortCmp.NoneTotal
import Derived.Test.YtpeejlpcikefcaaGreatDoorPKeep1
/- The kit's contract of slices.SortFunc at []tidy.from, laid over the seat's program. slices.SortFunc of what a phi takes, by the new number of the block that it comes from. -/
set_option maxHeartbeats 1000000
namespace Go.Proofs.YtpeejlpcikefcaaGreatDoor
section
open Go.RowKit Go.Shelf
def agI:Go.Shelf.Ren:=⟨fun | 6=>89 | 15=>113 | 14=>112 | 28=>125 | 29=>126 | 20=>117 | 21=>118 | 22=>119 | 23=>120 | 24=>121 | 25=>122 | 26=>123 | 27=>124 | 46=>128 | 47=>129 | 48=>130 | 49=>131 | 50=>132 | 57=>134 | n=>n,fun | 22=>141 | 24=>143 | 25=>145 | 3=>3 | 39=>120 | 0=>0 | 53=>157 | 55=>160 | 4=>4 | 46=>176 | 45=>175 | 50=>180 | 5=>5 | 9=>9 | 66=>184 | 70=>188 | 76=>191 | 77=>192 | n=>n,fun | n=>n⟩
theorem amM : Go.Proofs.SlLaysF0.n6 Tryz.prog agI := {
 mixed := by kernel_rfl,
 f6 := ⟨ "slices.SortFunc[[]turnery/tidy.from,turnery/tidy.from]", by decide, Tryz.func89.trans (congrArg some (by kernel_rfl))⟩,
 f14 := ⟨ "slices.pdqsortCmpFunc[turnery/tidy.from]", by decide, Tryz.func112.trans (congrArg some (by kernel_rfl))⟩,
 f15 := Tryz.func113.trans (congrArg some (by kernel_rfl)),
 f20 := ⟨ "slices.insertionSortCmpFunc[turnery/tidy.from]", by decide, Tryz.func117.trans (congrArg some (by kernel_rfl))⟩,
 f21 := ⟨ "slices.heapSortCmpFunc[turnery/tidy.from]", by decide, Tryz.func118.trans (congrArg some (by kernel_rfl))⟩,
 f22 := ⟨ "slices.breakPatternsCmpFunc[turnery/tidy.from]", by decide, Tryz.func119.trans (congrArg some (by kernel_rfl))⟩,
 f23 := ⟨ "slices.choosePivotCmpFunc[turnery/tidy.from]", by decide, Tryz.func120.trans (congrArg some (by kernel_rfl))⟩,
 f24 := ⟨ "slices.reverseRangeCmpFunc[turnery/tidy.from]", by decide, Tryz.func121.trans (congrArg some (by kernel_rfl))⟩,
 f25 := ⟨ "slices.partialInsertionSortCmpFunc[turnery/tidy.from]", by decide, Tryz.func122.trans (congrArg some (by kernel_rfl))⟩,
 f26 := ⟨ "slices.partitionEqualCmpFunc[turnery/tidy.from]", by decide, Tryz.func123.trans (congrArg some (by kernel_rfl))⟩,
 f27 := ⟨ "slices.partitionCmpFunc[turnery/tidy.from]", by decide, Tryz.func124.trans (congrArg some (by kernel_rfl))⟩,
 f28 := Tryz.func125.trans (congrArg some (by kernel_rfl)),
 f29 := Tryz.func126.trans (congrArg some (by kernel_rfl)),
 f46 := ⟨ "slices.siftDownCmpFunc[turnery/tidy.from]", by decide, Tryz.func128.trans (congrArg some (by kernel_rfl))⟩,
 f47 := Tryz.func129.trans (congrArg some (by kernel_rfl)),
 f48 := Tryz.func130.trans (congrArg some (by kernel_rfl)),
 f49 := ⟨ "slices.medianAdjacentCmpFunc[turnery/tidy.from]", by decide, Tryz.func131.trans (congrArg some (by kernel_rfl))⟩,
 f50 := ⟨ "slices.medianCmpFunc[turnery/tidy.from]", by decide, Tryz.func132.trans (congrArg some (by kernel_rfl))⟩,
 f57 := ⟨ "slices.order2CmpFunc[turnery/tidy.from]", by decide, Tryz.func134.trans (congrArg some (by kernel_rfl))⟩,
 t0 := Tryz.underlying0,
 a0 := Tryz.isAgg0,
 z0 := Tryz.sizeOf0,
 v0 := Tryz.zeroValue0,
 t3 := Tryz.underlying3,
 a3 := Tryz.isAgg3,
 z3 := Tryz.sizeOf3,
 v3 := Tryz.zeroValue3,
 t4 := Tryz.underlying4,
 a4 := Tryz.isAgg4,
 z4 := Tryz.sizeOf4,
 v4 := Tryz.zeroValue4,
 t5 := Tryz.underlying5,
 a5 := Tryz.isAgg5,
 z5 := Tryz.sizeOf5,
 v5 := Tryz.zeroValue5,
 t9 := Tryz.underlying9,
 a9 := Tryz.isAgg9,
 z9 := Tryz.sizeOf9,
 v9 := Tryz.zeroValue9,
 t22 := Tryz.underlying141,
 a22 := Tryz.isAgg141,
 z22 := Tryz.sizeOf141,
 v22 := Tryz.zeroValue141,
 t25 := Tryz.underlying145,
 a25 := Tryz.isAgg145,
 z25 := Tryz.sizeOf145,
 v25 := Tryz.zeroValue145,
 t39 := Tryz.underlying120,
 a39 := Tryz.isAgg120,
 z39 := Tryz.sizeOf120,
 v39 := Tryz.zeroValue120,
 t45 := Tryz.underlying175,
 a45 := Tryz.isAgg175,
 z45 := Tryz.sizeOf175,
 v45 := Tryz.zeroValue175,
 t46 := Tryz.underlying176,
 a46 := Tryz.isAgg176,
 z46 := Tryz.sizeOf176,
 v46 := Tryz.zeroValue176,
 t50 := Tryz.underlying180,
 a50 := Tryz.isAgg180,
 z50 := Tryz.sizeOf180,
 v50 := Tryz.zeroValue180,
 t53 := Tryz.underlying157,
 a53 := Tryz.isAgg157,
 z53 := Tryz.sizeOf157,
 v53 := Tryz.zeroValue157,
 t55 := Tryz.underlying160,
 a55 := Tryz.isAgg160,
 z55 := Tryz.sizeOf160,
 v55 := Tryz.zeroValue160,
 t66 := Tryz.underlying184,
 a66 := Tryz.isAgg184,
 z66 := Tryz.sizeOf184,
 v66 := Tryz.zeroValue184,
 t70 := Tryz.underlying188,
 a70 := Tryz.isAgg188,
 z70 := Tryz.sizeOf188,
 v70 := Tryz.zeroValue188,
 t76 := Tryz.underlying191,
 a76 := Tryz.isAgg191,
 z76 := Tryz.sizeOf191,
 v76 := Tryz.zeroValue191,
 t77 := Tryz.underlying192,
 a77 := Tryz.isAgg192,
 z77 := Tryz.sizeOf192,
 v77 := Tryz.zeroValue192 }
end
section
open Go.RowKit Go.Shelf Go.Lib Go.Sort
variable {w:World}{g:Nat}{cur:Array Value}{e:TypeId}
theorem atC{vs:List Value}(hb:w.heap[g]?=some (.cells cur e (0,0)))(ht:cur.toList.take vs.length=vs):Holds id w g 0 vs.toArray:=by
 intro j hj;have ag:j<vs.length:=by simpa using hj
 refine⟨?_,by simp [World.frozen?,hb]⟩;have h1:(cur.toList.take vs.length)[j]?=vs[j]?:=by rw [ht]
 rw [List.getElem?_take_of_lt ag] at h1;simp only [World.cell?,hb,Aab];simp only [Option.isSome_none,Aca,if_false];rw [<-Array.getElem?_toList,h1];simp [ag]
variable {n:Nat}{os:Array Obj}
theorem apw{fr:Nat×Nat}(d:Array Value)(hb:w.heap[g]?=some (.cells cur e fr)) :
 (grow (putRow id (Sort.ahead w n) g 0 d) os).heap[g]?=some (.cells (putCells id 0 d cur) e fr):=by
 have hg:g<w.heap.size:=(Aag.1 hb).1;rw [heap_grow_old _ _ (by simpa using hg)];simp [putRow,mapBlock,Sort.ahead,Array.getElem?_modify,hb,onCells]
theorem akR(d:Array Value):w.grownBy (grow (putRow id (Sort.ahead w n) g 0 d) os) (some g):=by
 refine⟨rfl,rfl,rfl,by simp,fun k hk ay=>?_⟩;rw [heap_grow_old _ _ (by simpa using hk)];have:g≠k:=fun e=>ay (by rw [e]);simp [putRow,mapBlock,Sort.ahead,Array.getElem?_modify,this]
theorem apx(cur:Array Value)(ts:List Value)(h:ts.length<=cur.size):(putCells id 0 ts.toArray cur).toList.take ts.length=ts:=by
 apply Aap;intro j
 by_cases hj:j<ts.length
 . rw [List.getElem?_take_of_lt hj,Array.getElem?_toList]
   simp [putCells,hj,show j<cur.size by omega]
 . rw [List.getElem?_take_eq_none (by omega),Aas (by omega)]
theorem akS{base cap k m:Nat}    {ts : List Value} (hl : ts.length = m * k) (af : base <= g) (hb : w.heap[g]? = some (.cells cur e (0, 0)))
 (h1:m<=cap) (h2:cap<=maxLen) (h3:cur.size=cap * k):(grow (putRow id (Sort.ahead w n) g 0 ts.toArray) os).ownsRow base e k (.slice (some ⟨g,0,none⟩) m cap) m ts:=by
 have hle:ts.length<=cur.size:=by rw [hl,h3];exact Nat.mul_le_mul_right _ h1
 exact⟨hl,.inr ⟨g,cap,_,rfl,af,apw _ hb,h1,h2,by simp [putCells,h3],by rw [<-hl];exact apx cur ts hle⟩⟩
theorem ai8 {α:Type}[Inhabited α](enc:α->List Value)(k:Nat)(hk:∀x,(enc x).length=k)(l:List α):flatK enc k l.toArray=((l.map enc).flatten).toArray:=by
 have hw:∀(i:Nat) cs,(l.map enc)[i]?=some cs->cs.length=k:=fun i cs h=>by
  obtain⟨x,_,rfl⟩:=Aal.1 (Aae h);exact hk x
 have hlen:=abl (l.map enc) hw;rw [Aah] at hlen;apply Array.ext (by simp [hlen]);intro t h1 h2;have ht:t<l.length * k:=by simpa using h1
 have k0 : 0 < k := by rcases Nat.eq_zero_or_pos k with h | h; · subst h; simp at ht
                       . exact h
 have hi:t / k<l.length:=(Nat.div_lt_iff_lt_mul k0).2 ht;have hf:=aeo (l.map enc) hw (t / k) (t % k) (enc l[t / k]) (by rw [Aak,Aaa hi];rfl) (Nat.mod_lt _ k0);rw [Nat.div_add_mod' t k] at hf;have h3:t % k<(enc l[t / k]).length:=by rw [hk];exact Nat.mod_lt _ k0
 rw [Aaa h3,Aaa (by rw [hlen];exact ht)] at hf;have e:=get_flatK enc k l.toArray t (by simpa using ht);rw [getElem!_pos _ t (by simpa using ht)] at e;rw [e];have e2:l.toArray[t / k]! = l[t / k]:=by simp [hi]
 rw [e2,getElem!_pos _ (t % k) h3];simpa using (Option.some.inj hf).symm
structure ajK where
 v:Int×aay
 ok:0<=v.1∧v.1<=1048576
instance:Inhabited ajK:=⟨⟨(0,⟨false,0⟩),by decide⟩⟩
def apy(x:ajK):List Value:=ads x.v
def cfF(x y:ajK):Int:=x.v.1 - y.v.1
theorem akT : ∀ l : List (Int × aay), (∀ x ∈ l, 0 <= x.1 ∧ x.1 <= 1048576) -> ∃ d : List ajK, d.map ajK.v = l
 | [],_=>⟨[],rfl⟩
 | x :: l,h=>by
   obtain⟨d,hd⟩:=akT l fun y hy=>h y (Aa0 _ hy);exact⟨⟨x,h x (Aa2 ..)⟩ :: d,by rw [Aa3,hd]⟩
theorem ltF(x y:ajK):ltOf cfF x y=decide (x.v.1<y.v.1):=by
 unfold ltOf cfF;rw [Abe];simp;omega
theorem aug:SWO (ltOf cfF) where
 irrefl x:=by rw [ltF];simp
 trans x y z h1 h2:=by rw [ltF] at *;simp at *;omega
 ntrans x y z h1 h2:=by rw [ltF] at *;simp at *;omega
theorem asG(x y:ajK)(W:World):Calls Tryz.prog 90 #[.agg (apy x).toArray,.agg (apy y).toArray] W fun e w'=>e = .returned (.int .i64 (cfF x y))∧∃q os',w'=grow (W.drewN q) os':=by
 obtain⟨⟨a,⟨ar,an⟩⟩,ha⟩:=x;obtain⟨⟨b,⟨br,bn⟩⟩,hb⟩:=y;show Calls Tryz.prog 90 #[.agg #[.int .i64 a,.bool ar,.int .i64 an],.agg #[.int .i64 b,.bool br,.int .i64 bn]] W fun e w'=>e = .returned (.int .i64 (a - b))∧∃q os',w'=grow (W.drewN q) os';simp only at ha hb;go_enter Tryz.func90,Tryz.ntmps90;go_wp2;go_ret;exact⟨rfl,0,_,by rw [alloc_eq_grow,alloc_eq_grow,grow_grow];rfl⟩
theorem arb(blk off size:Nat)(w:World):CmpLays Tryz.prog 90 #[] apy 3 cfF blk off size w:=fun _ _ _ _ x y=>asG x y _
theorem alS {l m:List (Int×aay)}(hp:m.Perm l)(hs:m.Pairwise fun x y=>x.1<=y.1)(aq:(l.map Prod.fst).Nodup):m=l.mergeSort leF:=by
 refine List.Perm.eq_of_pairwise (le:=fun x y=>x.1<=y.1) ?_ hs ?_ (hp.trans (List.mergeSort_perm _ _).symm)
 . intro a b ha hb h1 h2
   have aB:a∈l:=hp.mem_iff.1 ha;have av:b∈l:=(List.mergeSort_perm l leF).mem_iff.1 hb;have he:a.1=b.1:=by omega
   obtain⟨i,hi,rfl⟩:=Aav aB;obtain⟨j,hj,rfl⟩:=Aav av;have hp:=Acn.1 aq;rcases Nat.lt_trichotomy i j with h | h | h
   . exact absurd (by rw [List.getElem_map,List.getElem_map];exact he) (hp i j (by simpa using hi) (by simpa using hj) h)
   . subst h;rfl
   . exact absurd (by rw [List.getElem_map,List.getElem_map];exact he.symm) (hp j i (by simpa using hj) (by simpa using hi) h)
 . have h:=List.pairwise_mergeSort (le:=leF) (fun a b c h1 h2=>by simp [leF] at *;omega) (fun a b=>by simp [leF];omega) l
   exact h.imp fun h=>by simpa [leF] using h
theorem akU {base:Nat}{v:Value}(l:List (Int×aay))(W:World)(ho:W.ownsRow base 143 3 v l.length (l.map ads).flatten)(hk:∀x∈l,0<=x.1∧x.1<=1048576)(aq:(l.map Prod.fst).Nodup)(hl:l.length<=1048576) :
 Calls Tryz.prog 89 #[v,.func (.func 90) #[] #[]] W fun e w'=>e = .returned (.tuple #[])∧w'.ownsRow base 143 3 v l.length ((l.mergeSort leF).map ads).flatten∧W.grownBy w' v.ownBlock:=by
 by_cases h0:l=[]
 . subst h0
   obtain⟨a,c,rfl⟩:∃a c,v = .slice a 0 c:=by
    rcases ho.2 with⟨h1,-⟩ | ⟨g,cap,cur,h1,-⟩
    . exact⟨_,_,h1⟩
    . exact⟨_,_,h1⟩
   have hS:=AnyF.slices_SortFunc_none (P:=Tryz.prog) (ρ:=agI) amM a c (.func (.func 90) #[] #[]) W;change Calls Tryz.prog 89 _ _ _ at hS;refine hS.mono ?_;rintro e w' ⟨rfl,rfl⟩;exact⟨rfl,by rw [List.mergeSort_nil];exact ho,⟨rfl,rfl,rfl,Aac _,fun _ _ _=>rfl⟩⟩
 . rcases ho.2 with⟨-,h1⟩ | ⟨g,cap,cur,rfl,hg,hh,hn,hm,hs,ht⟩
   . exact absurd (Aa9 h1) h0
   . obtain⟨d,hd⟩:=akT l hk
     have aj:d.length=l.length:=by rw [<-hd,Aah]
     have ao:d.map apy=l.map ads:=by rw [<-hd,Abl];rfl
     have aC:flatK apy 3 d.toArray=((l.map ads).flatten).toArray:=by rw [ai8 apy 3 (fun _=>rfl),ao]
     have al:(l.map ads).flatten.length=l.length * 3:=ho.1;have hH:HoldsK apy 3 W g 0 d.toArray:=by
      unfold HoldsK;rw [aC];exact atC hh (by rw [al];exact ht)
     have eg:∀args w,(callFunc 90 args).run Tryz.prog w = .ok (.enter 90 args) w:=enters_of Tryz.func90 (by kernel_rfl) rfl;have hS:=AnyQ.slices_SortFunc amM 3 Tryz.isAgg143 Tryz.sizeOf143 apy (fun _=>rfl) (fun x v hv=>by simp [apy,ads] at hv;rcases hv with rfl | rfl | rfl <;> rfl) cfF aug 90 #[] g 0 cap d.toArray W eg (arb g 0 _ W) hH (Aag.1 hh).1 (by simp;omega);change Calls Tryz.prog 89 _ _ _ at hS;rw [Abn,aj] at hS;refine hS.mono ?_;rintro e w' ⟨rfl,d',n,os,⟨ax,-,ad⟩,ae,rfl⟩;have ah:d'.size=l.length:=by rw [ax,Abn,aj]
     have e1:d'.extract 0 l.length=d':=by rw [<-ah];exact Array.extract_size
     have e2:d.toArray.extract 0 l.length=d.toArray:=by
      have az:d.toArray.size=l.length:=by rw [Abn,aj]
      rw [<-az];exact Array.extract_size
     rw [e1,e2] at ad;have aA:(d'.toList.map ajK.v)=l.mergeSort leF:=by
      refine alS ?_ ?_ aq
      . have:=ad.map ajK.v
        rw [show d.toArray.toList=d from rfl,hd] at this;exact this
      . rw [Acn]
        intro i j hi hj aw;have au:i<d'.size:=by simpa using hi
        have ag:j<d'.size:=by simpa using hj
        have:=ae i j (Aaj _) aw (by rw [<-ah];exact ag);rw [ltF,getElem!_pos d' j ag,getElem!_pos d' i au] at this;simp at this;simpa using this
     have ak:flatK apy 3 d'=(((l.mergeSort leF).map ads).flatten).toArray:=by
      have:=ai8 apy 3 (fun _=>rfl) d'.toList;rw [Array.toArray_toList] at this;rw [this,<-aA,Abl];rfl
     have ai:((l.mergeSort leF).map ads).flatten.length=l.length * 3:=by
      rw [abl _ (sz:=3) (fun i cs h=>by obtain⟨x,_,rfl⟩:=Aal.1 (Aae h);rfl),Aah,(List.mergeSort_perm _ _).length_eq]
     unfold sortWorldK putRowK;rw [ak];exact⟨rfl,akS ai hg hh hn hm hs,akR _⟩
end
end Go.Proofs.YtpeejlpcikefcaaGreatDoor
