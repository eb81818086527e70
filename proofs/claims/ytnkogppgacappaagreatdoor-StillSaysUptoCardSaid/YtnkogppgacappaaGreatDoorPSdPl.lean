/- A unit's functions in memory, each with its row of blocks in a part of memory of its own. turneryref5.Clone, with the rows of blocks known apart. A cloned unit whose blocks' lists are laid anew, one by one. turneryref6.StillDone, plainly. -/
import Derived.Test.YtnkogppgacappaaGreatDoorPCopyRU
import Derived.Test.YtnkogppgacappaaGreatDoorPRefU
import Derived.Test.YtnkogppgacappaaGreatDoorPFour
import Derived.Test.YtnkogppgacappaaGreatDoorPNm3
import Derived.Test.YtnkogppgacappaaGreatDoorPStillDo
import Derived.Test.YtnkogppgacappaaGreatDoorPStillR
import Derived.Test.YtnkogppgacappaaGreatDoorPGlobs
namespace Go.Proofs.YtnkogppgacappaaGreatDoor
open Go.RowKit

structure CloSt (W:World)(base:Nat)(v:Value)(fs:List DFunc)(B:Nat→Value)(lo hi:Nat→Nat):Prop where
 row:Row1 W base 38 4 v (fs.mapIdx fun k f=>cellsFn f (B k))
 blk:∀(k:Nat) f,fs[k]?=some f→base≤lo k∧hi k≤W.heap.size∧OwnIn (lo k) (hi k) W 76 6 rBlock (B k) f.blocks∧(∀c,v.ownBlock=some c→c<lo k∨hi k≤c)∧I64 f.params∧I64 f.regs
 apart:∀(j k:Nat) f g,fs[j]?=some f→fs[k]?=some g→j<k→hi j≤lo k
section
variable {W W' : World} {base : Nat} {v : Value} {fs : List DFunc} {B : Nat → Value} {lo hi : Nat → Nat}
theorem CloSt.nil(W:World)(base:Nat)(B:Nat→Value)(lo hi:Nat→Nat):CloSt W base (.slice none 0 0) [] B lo hi :=
 ⟨⟨World.ownsRow_nil _ _ _ _,fun cs h=>by cases h⟩,fun k f h=>by simp at h,fun j k f g h=>by simp at h⟩
theorem CloSt.setLow(h:CloSt W base v fs B lo hi){a:Addr}(ha:a.block<base)(u:Value):CloSt (W.setCell a u) base v fs B lo hi:=by
 refine⟨h.row.off (Kp.set (F:=fun c=>v.ownBlock=some c) (Kp.refl _ _) (fun e=>by have:=(h.row.lt _ e).1;omega) u),fun k f hf=>?_,h.apart⟩;obtain⟨h1,h2,h3,h4⟩:=h.blk k f hf;exact⟨h1,by simpa [World.setCell] using h2,h3.kept rBlock_mono fun c hc _=>Below.heap_setCell _ _ _ _ (by omega),h4⟩
theorem CloSt.shape(h:CloSt W base v fs B lo hi):∃a c,v = .slice a fs.length c:=by
 rcases h.row.own.2 with⟨h1,h2⟩ | ⟨g,cap,cur,e1,-⟩
 · have:fs.length=0:=by simpa using h2
   exact⟨none,0,by rw [h1,this]⟩
 · exact⟨some ⟨g,0,none⟩,cap,by rw [e1,List.length_mapIdx]⟩
theorem CloSt.next {w6 w9 : World} {k lo0 hi0 : Nat} {f : DFunc} {Bv v' : Value} (h : CloSt W base v (fs.take k) B lo hi) (hx : fs[k]? = some f) (h6 : Below W.heap.size W w6) (hbv : OwnIn lo0 hi0 w6 76 6 rBlock Bv f.blocks) (hlo : W.heap.size ≤ lo0) (hhi : hi0 ≤ w6.heap.size)
 (hn:I64 f.params∧I64 f.regs) (hbase:base≤W.heap.size) (hown:w9.ownsRow base 38 4 v' (k+1) (((fs.take k).mapIdx fun k f=>cellsFn f (B k)).flatten++cellsFn f Bv)) (hg:w6.grownBy w9 v.ownBlock) (hat:v'.ownBlock=v.ownBlock∨v'.ownBlock=some w6.heap.size) :
 CloSt w9 base v' (fs.take (k+1)) (fun j=>if j=k then Bv else B j) (fun j=>if j=k then lo0 else lo j) (fun j=>if j=k then hi0 else hi j):=by
 have hkl:=(List.getElem?_eq_some_iff.1 hx).1;have hz6:=h6.size;have hz9:=hg.size;have hvl:∀c,v.ownBlock=some c→c<W.heap.size:=fun c hc=>(h.row.lt c hc).2;have hget:∀(j:Nat) g,(fs.take (k+1))[j]?=some g→(j=k∧g=f)∨(j<k∧(fs.take k)[j]?=some g):=fun j g hj=>by
  rw [List.getElem?_take] at hj;split at hj
  · rename_i h3
    rcases Nat.lt_succ_iff_lt_or_eq.1 h3 with h4 | h4
    · exact .inr ⟨h4,by rw [List.getElem?_take,if_pos h4];exact hj⟩
    · subst h4;rw [hx] at hj;exact .inl ⟨rfl,(Option.some.inj hj).symm⟩
  · cases hj
 have hv':∀c,v'.ownBlock=some c→v.ownBlock=some c∨w6.heap.size≤c:=fun c hc=>by
  rcases hat with h3 | h3
  · exact .inl (by rw [←h3];exact hc)
  · rw [h3] at hc;cases hc;exact .inr (Nat.le_refl _)
 have hmi:((fs.take (k+1)).mapIdx fun j g=>cellsFn g (if j=k then Bv else B j))=((fs.take k).mapIdx fun k f=>cellsFn f (B k))++[cellsFn f Bv]:=by
  rw [take_snoc hx,mapIdx_snoc]
  congr 1
  · refine mapIdx_congr fun i y hi=>?_
    have hik:i<k:=by have:=(List.getElem?_eq_some_iff.1 hi).1;rw [List.length_take] at this;omega
    rw [if_neg (by omega)]
  · rw [List.length_take,Nat.min_eq_left (by omega),if_pos rfl]
 refine⟨⟨?_,?_⟩,fun j g hj=>?_,fun i j g1 g2 e1 e2 hij=>?_⟩
 · rw [hmi,List.flatten_append,show (((fs.take k).mapIdx fun k f=>cellsFn f (B k))++[cellsFn f Bv]).length=k+1 by simp;omega]
   simpa using hown
 · rw [hmi]
   intro cs hcs;rcases List.mem_append.1 hcs with h3 | h3
   · exact h.row.wid cs h3
   · rw [List.mem_singleton] at h3;rw [h3];rfl
 · rcases hget j g hj with⟨rfl,rfl⟩ | ⟨h3,h4⟩
   · simp only [if_true]
     refine⟨by omega,by omega,hbv.kept rBlock_mono fun c hc1 hc2=>hg.block c (by omega) fun e=>by have:=hvl c e.symm;omega,fun c hc=>?_,hn⟩;rcases hv' c hc with h5 | h5
     · have:=hvl c h5;exact .inl (by omega)
     · exact .inr (by omega)
   · simp only [if_neg (show ¬j=k by omega)]
     obtain⟨b1,b2,b3,b4,b5⟩:=h.blk j g h4;refine⟨b1,by omega,b3.kept rBlock_mono fun c hc1 hc2=>(hg.block c (by omega) fun e=>by have:=b4 c e.symm;omega).trans (h6.block c (by omega)),fun c hc=>?_,b5⟩;rcases hv' c hc with h5 | h5
     · exact b4 c h5
     · exact .inr (by omega)
 · rcases hget i g1 e1 with⟨rfl,rfl⟩ | ⟨h3,h4⟩
   · rcases hget j g2 e2 with⟨rfl,rfl⟩ | ⟨h5,-⟩
     · omega
     · omega
   · simp only [if_neg (show ¬i=k by omega)]
     obtain⟨-,b2,-⟩:=h.blk i g1 h4;rcases hget j g2 e2 with⟨rfl,rfl⟩ | ⟨h5,h6'⟩
     · simp only [if_true];omega
     · simp only [if_neg (show ¬j=k by omega)]
       exact h.apart i j g1 g2 h4 h6' hij
end

end Go.Proofs.YtnkogppgacappaaGreatDoor

namespace Go.Proofs.YtnkogppgacappaaGreatDoor
open Go.RowKit

set_option maxRecDepth 100000 in
set_option maxHeartbeats 4000000 in
theorem clone_rows {S : Nat → Prop} (ga fa : Option Addr) (gc fc : Nat) (gs : List DGlobal) (fs : List DFunc) (w : World) (hg : SlAt S w 3 rGlobal (.slice ga gs.length gc) gs) (hf : SlAt S w 4 rFunc (.slice fa fs.length fc) fs)
 (ng:gs.length≤1048576) (nf:fs.length≤1048576) (sg:∀g∈gs,g.init.length≤1048576) (sf:∀f∈fs,SmallF f) :
 Calls Tryz.prog 31 #[.agg #[.slice ga gs.length gc,.slice fa fs.length fc]] w fun e w' =>
  ∃go gc2 fo fc2 A B lo hi,e = .returned (.agg #[.slice go gs.length gc2,.slice fo fs.length fc2])∧w.heap.size+3≤A∧A≤w'.heap.size∧OwnIn (w.heap.size+3) A w' 48 3 rGlobal (.slice go gs.length gc2) gs∧CloSt w' A (.slice fo fs.length fc2) fs B lo hi∧Below w.heap.size w w':=by
 have Hg:=hid hg;have Hf:=hid hf;have Sg:=hid sg;have Sf:=hid sf;clear hg hf sg sf;obtain⟨ig,hig,hgz0,hgz1,hgz2⟩:=info_parts infoGlobal;obtain⟨if_,hif,hfz0,hfz1,hfz2⟩:=info_parts infoFunc;obtain⟨i0,hi0,hz0,hz1',hz2'⟩:=info_parts infoInt';obtain⟨ib,hib,hbz0,hbz1,hbz2⟩:=info_parts infoBlock;go_enter Tryz.func31,Tryz.ntmps31;go_wp2_with fail;obtain⟨W0,hW0⟩:∃W0,W0=((w.alloc (.cells #[.slice ga gs.length gc,.slice fa fs.length fc] 25)).alloc (.cells #[.slice none 0 0,.slice none 0 0] 25)).alloc (.cells #[.slice none 0 0,.slice none 0 0] 25):=⟨_,rfl⟩
 have hs0:W0.heap.size=w.heap.size+3:=by rw [hW0];simp
 have hst:CPBox w W0 (.slice ga gs.length gc) (.slice fa fs.length fc) (.slice none 0 0) (.slice none 0 0):=by
  refine⟨by rw [hW0];(repeat (first | exact Below.refl _ _ | refine Below.alloc ?_ (by first|omega|(simp<;>omega)) _ | refine Below.setCell ?_ (by first|omega|(simp<;>omega)) _ | refine below_drewN ?_ _ | refine Below.drew ?_)),?_,?_,by intro j;rw [hW0,World.frozen?_alloc_old _ _ _ (by simp),World.frozen?_alloc_at _ _ _ _ (by simp)],?_,by intro j;rw [hW0,World.frozen?_alloc_at _ _ _ _ (by simp)]⟩
  · intro j u hj;rw [hW0,Nat.zero_add,World.cell?_alloc_past _ _ _ (by simp;omega),World.cell?_alloc2_first];simpa using hj
  · intro j u hj;rw [hW0,Nat.zero_add,World.cell?_alloc_past _ _ _ (by simp),World.cell?_alloc2_new];simpa using hj
  · intro j u hj;rw [hW0,Nat.zero_add,World.cell?_alloc_at _ _ _ _ (by simp)];simpa using hj
 rw [←hW0];have Hst:=hid hst;have Hs0:=hid hs0;clear hW0 hst hs0;go_loopw [4] (fun i wr=>∃(k:Nat) (v:Value),k≤gs.length∧i = .int .i64 k∧w.heap.size+3≤wr.heap.size∧CPBox w wr (.slice ga gs.length gc) (.slice fa fs.length fc) v (.slice none 0 0)∧Own (w.heap.size+3) wr 48 3 rGlobal v (gs.take k)) (fun i _=>gs.length - (intOf i).toNat)
 case atStart=>exact⟨0,_,Nat.zero_le _,rfl,Nat.le_of_eq Hs0.out.symm,Hst.out,Own.nil _ _ _ _ _⟩
 case round =>
  obtain⟨k,v,hk,rfl,hsz,hbx,hown⟩:=hrel;have Hbx:=hid hbx;have Hown:=hid hown;obtain⟨p0,p1⟩:=hbx.par.get2;rw [Nat.zero_add] at p1;have zp:w.heap.size<wr.heap.size:=cell_lt p0
  by_cases hkl:k<gs.length
  · obtain⟨b,off,ia,ic,rfl,hcs,hin,hd⟩:=global_at (Hg.out.later rGlobal_mono hbx.below) hkl
    obtain⟨d0,d1,d2⟩:=hcs.get3;have hb9:b<wr.heap.size:=cell_lt d0;obtain⟨y,hy⟩:∃y,y=gs[k]:=⟨_,rfl⟩
    rw [←hy] at d0 d1 d2 hin hd;have Hy:=hid hy;have hns:y.init.length≤1048576:=by rw [hy];exact Sg.out _ (List.getElem_mem hkl)
    have Hin:=hid hin;have Hd:=hid hd;obtain⟨W1,hW1⟩:∃W1,W1=wr.alloc (.cells #[.string y.name,.int .i64 y.size,.slice ia y.init.length ic] 48):=⟨_,rfl⟩
    have kc:CellsAt W1 wr.heap.size 0 [.string y.name,.int .i64 y.size,.slice ia y.init.length ic]:=by
     intro j u hj;rw [hW1,Nat.zero_add,World.cell?_alloc_new];simpa using hj
    have kf:W1.frozen? ⟨wr.heap.size,2,none⟩=false:=by rw [hW1];simp
    have hz1:W1.heap.size=wr.heap.size+1:=by rw [hW1];simp
    have hbW1:Below wr.heap.size wr W1:=by rw [hW1];(repeat (first | exact Below.refl _ _ | refine Below.alloc ?_ (by first|omega|(simp<;>omega)) _ | refine Below.setCell ?_ (by first|omega|(simp<;>omega)) _ | refine below_drewN ?_ _ | refine Below.drew ?_))
    have HbW1:=hid hbW1;have HW1:=hid hW1;have Hz1:=hid hz1;have Kc:=hid kc;have g3:W1.cell? ⟨w.heap.size+2,0,none⟩=some v:=cell_later' hbx.out.get2.1 hbW1;have f3:W1.frozen? ⟨w.heap.size+2,0,none⟩=false:=(hbW1.frozen (p:=⟨w.heap.size+2,0,none⟩) (by dsimp only;omega)).trans (hbx.outFree 0);clear hbx hown hcs hy hin hd hW1 hz1 kc hbW1;go_wp2_with (at_builtin;rw [←HW1.out];refine wpList_append_list rfl _ _ 33 rfl 3 i0 _ 1 8 Tryz.underlying33 hi0 hz0 hz1' hz2' rfl (by decide) (r:=rInt) (enc:=encInt) S y.init ia ic rfl rfl ?_ encInt_one encInt_of (encInt_cell _) ?_ (by omega) (by decide) ?_)
    · exact Hin.out.later rInt_mono HbW1.out
    · exact fun w1 T=>encInt_rd Hin.out w1 T
    intro v' w2 hv' hb2 a' c' hv2;subst hv2;have hz1:=Hz1.out;have Hv':=hid hv';have Hb2:=hid hb2;obtain⟨m0,m1,m2⟩:=(Kc.out.later hb2).get3;simp only [Nat.zero_add] at m1 m2;have mf:w2.frozen? ⟨wr.heap.size,2,none⟩=false:=(hb2.frozen (p:=⟨wr.heap.size,2,none⟩) (by dsimp only;omega)).trans kf;have n3:=cell_later' g3 hb2;have ff3:w2.frozen? ⟨w.heap.size+2,0,none⟩=false:=(hb2.frozen (p:=⟨w.heap.size+2,0,none⟩) (by dsimp only;omega)).trans f3;have hz2:wr.heap.size<w2.heap.size:=cell_lt m0;have hz3:w.heap.size+2<wr.heap.size:=by omega
    clear kf hv' hb2 d0 d1 d2 g3 f3 p0 p1;go_wp2_with (at_builtin;refine wpList_append_Own rfl _ _ 22 rfl (w.heap.size+3) 48 ig _ 3 48 Tryz.underlying22 hig hgz0 hgz1 hgz2 rfl (by decide) rGlobal_mono v (gs.take k) rfl ?_ ⟨w2.heap.size,0,none⟩ 1 [.string y.name,.int .i64 y.size,.slice a' y.init.length c'] y rfl rfl ?_ ?_ ?_ ?_ (by decide) ?_ ?_)
    · exact Hown.out.later rGlobal_mono (by have h:=HbW1.out;have h2:=Hb2.out;(have hz0:=(h2).size;have hy0:=hz0;(try simp at hy0);have hz1:=(h).size;have hy1:=hz1;(try simp at hy1);repeat (first | exact Below.refl _ _ | refine Below.trans ?_ ((h2).mono (by first|omega|(simp<;>omega))) | refine Below.trans ?_ ((h).mono (by first|omega|(simp<;>omega))) | refine Below.alloc ?_ (by first|omega|(simp<;>omega)) _ | refine Below.setCell ?_ (by first|omega|(simp<;>omega)) _ | refine below_drewN ?_ _ | refine Below.drew ?_)))
    · exact new_cells _ _ _ (by simp)
    · intro u hu;simp at hu;rcases hu with rfl | rfl | rfl <;> rfl
    · refine⟨_,rfl,Hv'.out.sub rInt_mono (by decide) (by omega) (fun g hg=>by have:=Hown.out.lt g hg;omega) (fun b hb hl=>heap_set_alloc _ _ _ _ hl (by dsimp only;omega)) (by simp),Hd.out⟩
    · rw [List.length_take];omega
    · simp;omega
    · intro v2 w3 hown3 hgrow g2 cap2 hv2
      have hkk:∀B,B<wr.heap.size→some B≠v.ownBlock→w3.heap[B]?=wr.heap[B]?:=fun B h1 h2=>by
       rw [hgrow.block B (by simp;omega) h2,heap_set_alloc _ _ _ _ (by omega) (by dsimp only;omega),Hb2.out.block B (by omega),HbW1.out.block B h1]
      have hlow:∀B,w.heap.size≤B→B<w.heap.size+3→w3.heap[B]?=wr.heap[B]?:=fun B h1 h2=>hkk B (by omega) (fun e=>by have:=(Hown.out.lt B e.symm).1;omega);have hb3:Below w.heap.size w w3:=by
       refine Below.grown ?_ hgrow (by simp;omega) (fun g hg=>by have:=(Hown.out.lt g hg).1;omega);have h:=Hbx.out.below;have h1:=HbW1.out;have h2:=Hb2.out
       (have hz0:=(h2).size;have hy0:=hz0;(try simp at hy0);have hz1:=(h1).size;have hy1:=hz1;(try simp at hy1);have hz2:=(h).size;have hy2:=hz2;(try simp at hy2);repeat (first | exact Below.refl _ _ | refine Below.trans ?_ ((h2).mono (by first|omega|(simp<;>omega))) | refine Below.trans ?_ ((h1).mono (by first|omega|(simp<;>omega))) | refine Below.trans ?_ ((h).mono (by first|omega|(simp<;>omega))) | refine Below.alloc ?_ (by first|omega|(simp<;>omega)) _ | refine Below.setCell ?_ (by first|omega|(simp<;>omega)) _ | refine below_drewN ?_ _ | refine Below.drew ?_))
      have hbx3:=Hbx.out.keep hb3 hlow;have n4:w3.cell? ⟨w.heap.size+2,0,none⟩=some v:=hbx3.out.get2.1;have ff4:w3.frozen? ⟨w.heap.size+2,0,none⟩=false:=hbx3.outFree 0;have Hbx3:=hid (hbx3.set0 v2);have Hown3:Hid (Own (w.heap.size+3) (w3.setCell ⟨w.heap.size+2,0,none⟩ v2) 48 3 rGlobal v2 (gs.take (k+1))):=by
       have e:gs.take (k+1)=gs.take k++[y]:=by rw [List.take_succ_eq_append_getElem hkl,Hy.out]
       show Own _ _ _ _ _ _ _;rw [e];exact hown3.setLow rGlobal_mono (by dsimp only;omega) _
      have hz4:w2.heap.size≤w3.heap.size:=Nat.le_trans (by simp) hgrow.size;subst hv2;clear hown3 hgrow hkk hlow hb3 hbx3;go_wp2_with fail;go_roundw
      case rel=>exact⟨k+1,_,by omega,by go_num,by simp [World.setCell];omega,by have h:=Hbx3.out;(try simp only [List.length_take,Nat.min_eq_left hk] at h);exact h,by have h:=Hown3.out;(try simp only [List.length_take,Nat.min_eq_left hk] at h);exact h⟩
      case measure=>simp [intOf];omega
  · obtain rfl:k=gs.length:=by omega
    rw [List.take_length] at Hown;go_wp2_with fail;obtain⟨WA,hWA⟩:∃WA,WA=wr:=⟨_,rfl⟩
    rw [←hWA] at Hbx Hown hsz ⊢;clear hWA hbx hown p0 p1 zp
    go_loopw [6] (fun i wr => ∃ (k : Nat) (v2 : Value) (B : Nat → Value) (lo hi : Nat → Nat), k ≤ fs.length ∧ i = .int .i64 k ∧ WA.heap.size ≤ wr.heap.size ∧ CPBox w wr (.slice ga gs.length gc) (.slice fa fs.length fc) v v2 ∧ CloSt wr WA.heap.size v2 (fs.take k) B lo hi ∧
     OwnIn (w.heap.size + 3) WA.heap.size wr 48 3 rGlobal v gs) (fun i _ => fs.length - (intOf i).toNat)
    case atStart=>exact⟨0,_,fun _ => .bool false,fun _=>0,fun _=>0,Nat.zero_le _,rfl,Nat.le_refl _,Hbx.out,CloSt.nil _ _ _ _ _,Hown.out.inn⟩
    case round =>
     obtain⟨k,v2,B,lo,hi,hk,rfl,hsz2,hbx,hown,hgl⟩:=hrel;have Hbx2:=hid hbx;have Hown2:=hid hown;have Hgl2:=hid hgl;obtain⟨p0,p1⟩:=hbx.par.get2;rw [Nat.zero_add] at p1;have zp:w.heap.size<wr.heap.size:=cell_lt p0
     by_cases hkl:k<fs.length
     · obtain⟨b,off,xa,xc,rfl,hcs,hin,hd1,hd2⟩:=func_at (Hf.out.later rFunc_mono hbx.below) hkl
       obtain⟨d0,d1,d2,d3⟩:=hcs.get4;have hb9:b<wr.heap.size:=cell_lt d0;obtain⟨y,hy⟩:∃y,y=fs[k]:=⟨_,rfl⟩
       rw [←hy] at d0 d1 d2 d3 hin hd1 hd2;have Hy:=hid hy;have hns:SmallF y:=by rw [hy];exact Sf.out _ (List.getElem_mem hkl)
       have Hns:=hid hns;have Hin:=hid hin;have Hd1:=hid hd1;have Hd2:=hid hd2;have Hd3:=hid d3;have Hp1:=hid p1;obtain⟨wo,hwo⟩:∃wo:World,wo=wr:=⟨_,rfl⟩
       subst hwo;obtain⟨W1,hW1⟩:∃W1,W1=wo.alloc (.cells #[.string y.name,.int .i64 y.params,.int .i64 y.regs,.slice none 0 0] 38):=⟨_,rfl⟩
       have hF0:FBox wo W1 y (.slice none 0 0) []:=by
        refine⟨by rw [hW1];(repeat (first | exact Below.refl _ _ | refine Below.alloc ?_ (by first|omega|(simp<;>omega)) _ | refine Below.setCell ?_ (by first|omega|(simp<;>omega)) _ | refine below_drewN ?_ _ | refine Below.drew ?_)),?_,by intro j;rw [hW1];simp,Own.nil _ _ _ _ _⟩;intro j u hj;rw [hW1,Nat.zero_add,World.cell?_alloc_new];simpa using hj
       have hsW1:wo.heap.size+1≤W1.heap.size:=by rw [hW1];simp
       have HF0:=hid hF0;have HsW1:=hid hsW1;have hz3:w.heap.size+3≤wo.heap.size:=by omega
       clear hbx hown hgl hcs hy hin hd1 hd2 hns hF0 hsW1;go_wp2_with fail;rw [←hW1];clear hW1 p0 p1 d0 d1 d2 d3 zp hb9;go_loopw [8] (fun i wr=>∃(j:Nat) (v3:Value),j≤y.blocks.length∧i = .int .i64 j∧wo.heap.size+1≤wr.heap.size∧FBox wo wr y v3 (y.blocks.take j)) (fun i _=>y.blocks.length - (intOf i).toNat)
       case atStart=>exact⟨0,_,Nat.zero_le _,rfl,HsW1.out,HF0.out⟩
       case round =>
        obtain⟨j,v3,hj,rfl,hszi,hfb⟩:=hrel;have Hfb:=hid hfb;have p1:=cell_later' Hp1.out hfb.below;have d3:=cell_later' Hd3.out hfb.below;have zp:w.heap.size<wr.heap.size:=cell_lt p1;have zb:b<wr.heap.size:=cell_lt d3;obtain⟨f0,f1,f2,f3⟩:=hfb.cells.get4;simp only [Nat.zero_add] at f1 f2 f3;have zf:wo.heap.size<wr.heap.size:=cell_lt f0
        by_cases hjl:j<y.blocks.length
        · obtain⟨bb,boff,pa,pc,la,lc,ta,tc,rfl,hcs,hp,hl,ht,hd1,hd2⟩:=block_at (Hin.out.later rBlock_mono hfb.below) hjl
          obtain⟨c0,c1,c2,c3,c4,c5⟩:=hcs.get6;have zbb:bb<wr.heap.size:=cell_lt c0;obtain⟨x,hx⟩:∃x,x=y.blocks[j]:=⟨_,rfl⟩
          rw [←hx] at c0 c1 c2 c3 c4 c5 hp hl ht hd1 hd2;have Hx:=hid hx;have hsx:SmallB x:=by rw [hx];exact Hns.out.each _ (List.getElem_mem hjl)
          have Hsx:=hid hsx;have Hp:=hid hp;have Hl:=hid hl;have Ht:=hid ht;have He1:=hid hd1;have He2:=hid hd2;have ff3:=hfb.free 3;have hjb:y.blocks.length≤1048576:=Hns.out.blocks;have Hdr:Hid (Below wr.heap.size wr wr.drew):=(Below.refl _ _).drew;clear hfb hcs hx hsx hp hl ht hd1 hd2 f0 f1 f2;go_wp2_with fail
          go_region_law
           (first
             | (refine step_append_Own rfl _ _ 36 rfl (wo.heap.size + 1) 76 ib _ 6 96 Tryz.underlying36 hib hbz0 hbz1 hbz2 rfl (by decide) rBlock_mono v3 (y.blocks.take j) rfl ?_ ⟨w2.heap.size, 0, none⟩ 1 [.slice pa2 x.phis.length pc2, .slice la2 x.list.length lc2, .int .i64 x.fin.kind, .bool x.fin.on.reg, .int .i64 x.fin.on.n, .slice ta2 x.fin.to.length tc2] x rfl rfl ?_ ?_ ?_ ?_ (by decide) ?_ ?_
                · exact Hfb.out.own.later rBlock_mono (by have h2 := Hbb.out; (have hz0 := (h2).size; have hy0 := hz0; (try simp at hy0); repeat (first | exact Below.refl _ _ | refine Below.trans ?_ ((h2).mono (by first|omega|(simp<;>omega))) | refine Below.alloc ?_ (by first|omega|(simp<;>omega)) _ | refine Below.setCell ?_ (by first|omega|(simp<;>omega)) _ | refine below_drewN ?_ _ | refine Below.drew ?_)))
                · exact new_cells w2 _ _ rfl
                · intro u hu; simp at hu; rcases hu with rfl | rfl | rfl | rfl | rfl | rfl <;> rfl
                · exact rBlock_mono.out _ _ _ _ _ _ (fun _ h => h) (Stays.below' (by (repeat (first | exact Below.refl _ _ | refine Below.alloc ?_ (by first|omega|(simp<;>omega)) _ | refine Below.setCell ?_ (by first|omega|(simp<;>omega)) _ | refine below_drewN ?_ _ | refine Below.drew ?_)))) (Hbi.out.rd (fun b h1 h2 => ⟨Nat.le_trans hszi h1, Nat.lt_of_lt_of_le h2 (by simp), fun e => Nat.lt_irrefl _ (Nat.lt_of_lt_of_le (Hfb.out.own.lt b e).2 h1)⟩) He1.out He2.out)
                · rw [List.length_take]; omega
                · simp; omega
                intro v4 w3 hown3 hgrow ⟨g9, cap9, hv4⟩
                have hkk : ∀ B, B < wr.heap.size → some B ≠ v3.ownBlock → w3.heap[B]? = wr.heap[B]? := fun B h1 h2 => (hgrow.block B (by simp; omega) h2).trans ((Below.heap_alloc w2 _ _ (by omega)).trans (Hbb.out.block _ h1))
                have hnf : some wo.heap.size ≠ v3.ownBlock := fun e => by have := (Hfb.out.own.lt _ e.symm).1; omega
                have hh0 : w3.heap[wo.heap.size]? = wr.heap[wo.heap.size]? := hkk _ zf hnf
                have hb3 : Below wo.heap.size wo w3 := by
                 refine Below.grown ?_ hgrow (by simp; omega) (fun g hg => by have := (Hfb.out.own.lt g hg).1; omega)
                 have h := Hfb.out.below; have h2 := Hbb.out
                 (have hz0 := (h2).size; have hy0 := hz0; (try simp at hy0); have hz1 := (h).size; have hy1 := hz1; (try simp at hy1); repeat (first | exact Below.refl _ _ | refine Below.trans ?_ ((h2).mono (by first|omega|(simp<;>omega))) | refine Below.trans ?_ ((h).mono (by first|omega|(simp<;>omega))) | refine Below.alloc ?_ (by first|omega|(simp<;>omega)) _ | refine Below.setCell ?_ (by first|omega|(simp<;>omega)) _ | refine below_drewN ?_ _ | refine Below.drew ?_))
                have n4 : w3.cell? ⟨wo.heap.size, 3, none⟩ = some v3 := (World.cell?_of_block (w := wr) (a := ⟨wo.heap.size, 3, none⟩) hh0).trans f3
                have ff4 : w3.frozen? ⟨wo.heap.size, 3, none⟩ = false := (World.frozen?_of_block (w := wr) (a := ⟨wo.heap.size, 3, none⟩) hh0).trans ff3
                have Hnext : Hid (FBox wo (w3.setCell ⟨wo.heap.size, 3, none⟩ v4) y v4 (y.blocks.take (j + 1))) := by have e : y.blocks.take (j + 1) = y.blocks.take j ++ [x] := (by rw [List.take_succ_eq_append_getElem hjl, Hx.out]); show FBox _ _ _ _ _; rw [e]; exact Hfb.out.next hown3 hb3 hh0
                have hz4 : w2.heap.size ≤ w3.heap.size := Nat.le_trans (by simp) hgrow.size
                have hz5 : wo.heap.size + 1 ≤ w3.heap.size := by omega
                subst hv4
                clear hown3 hgrow hkk hnf hb3 hh0)
             | (go_simp; go_at_call 60; refine (cloneBlock_any (S := S) x pa la ta pc lc tc wr.drew (Hp.out.later rPhi_mono Hdr.out) (Hl.out.later rIns_mono Hdr.out) (Ht.out.later rInt_mono Hdr.out) Hsx.out).mono ?_; rintro e w2 ⟨pv, lv, tv, rfl, hbi, hb2⟩; have hbb : Below wr.heap.size wr w2 := (Below.refl wr.heap.size wr).drew.trans hb2; have Hbb := hid hbb; have Hbi := hid hbi; have n3 := cell_later' f3 hbb; have zz0 : wo.heap.size < w2.heap.size := cell_lt n3; have zz2 : wr.heap.size ≤ w2.heap.size := hbb.size; have ff5 : w2.frozen? ⟨wo.heap.size, 3, none⟩ = false := (hbb.frozen (p := ⟨wo.heap.size, 3, none⟩) zf).trans ff3; obtain ⟨⟨pa2, pc2, rfl⟩, ⟨la2, lc2, rfl⟩, ⟨ta2, tc2, rfl⟩⟩ := hbi.shape; clear hbi hb2 hbb))
          all_goals
           go_wp2_with fail;go_roundw
           case rel=>exact⟨j+1,_,by omega,by go_num,by simp [World.setCell];omega,by have h:=Hnext.out;(try simp only [List.length_take,Nat.min_eq_left hj] at h);first | exact h | exact h.drew | exact h.drew.drew⟩
           case measure=>simp [intOf];omega
        · obtain rfl:j=y.blocks.length:=by omega
          rw [List.take_length] at Hfb;obtain⟨bo,bc2,hbv⟩:=Hfb.out.own.shape;subst hbv;have hlowi:∀B,B<wo.heap.size→wr.heap[B]?=wo.heap[B]?:=fun B h=>Hfb.out.below.block B h;have hbxi:=Hbx2.out.keep (Hbx2.out.below.trans (Hfb.out.below.mono (by omega))) (fun b h1 h2=>hlowi b (by omega));obtain⟨o0,o1⟩:=hbxi.out.get2;rw [Nat.zero_add] at o1;have fo1:=hbxi.outFree 1;have Hbxi:=hid hbxi;have Hlowi:=hid hlowi;have hz10:w.heap.size+2<wr.heap.size:=cell_lt o0;clear hfb hbxi hlowi;have hlk:((fs.take k).mapIdx fun k f=>cellsFn f (B k)).length=k:=by simp;omega
          have hfk:fs[k]?=some y:=by rw [List.getElem?_eq_getElem hkl,Hy.out]
          have Hfk:=hid hfk;have Hlk:=hid hlk;clear hfk hlk;go_wp2_with (at_builtin;refine wpList_append_own_at _ rfl _ _ 23 rfl WA.heap.size 38 if_ (.agg #[.string ⟨#[]⟩,.int .i64 0,.int .i64 0,.slice none 0 0]) 4 56 Tryz.underlying23 hif hfz0 hfz1 hfz2 rfl (by decide) v2 k (((fs.take k).mapIdx fun k f=>cellsFn f (B k)).flatten) rfl ?_ ⟨wr.heap.size,0,none⟩ 1 1 [.string y.name,.int .i64 y.params,.int .i64 y.regs,.slice bo y.blocks.length bc2] rfl rfl ?_ ?_ ?_ ?_ ?_ ?_)
          · have h:=Hown2.out.row.own
            rw [Hlk.out] at h;exact ownsRow_later h (by have h2:=Hfb.out.below;(have hz0:=(h2).size;have hy0:=hz0;(try simp at hy0);repeat (first | exact Below.refl _ _ | refine Below.trans ?_ ((h2).mono (by first|omega|(simp<;>omega))) | refine Below.alloc ?_ (by first|omega|(simp<;>omega)) _ | refine Below.setCell ?_ (by first|omega|(simp<;>omega)) _ | refine below_drewN ?_ _ | refine Below.drew ?_)))
          · exact new_cells wr _ _ rfl
          · intro u hu;simp only [List.mem_cons,List.not_mem_nil,or_false] at hu;rcases hu with rfl | rfl | rfl | rfl <;> rfl
          · unfold maxLen;omega
          · omega
          · simp;omega
          · intro v5 w3 hown3 hgrow _ hat3
            obtain⟨g2,cap2,hv5⟩:=ownsRow_shape hown3;have hb6:Below wo.heap.size wo (wr.alloc (.cells #[.string y.name,.int .i64 y.params,.int .i64 y.regs,.slice bo y.blocks.length bc2] 38)):=by have h2:=Hfb.out.below;(have hz0:=(h2).size;have hy0:=hz0;(try simp at hy0);repeat (first | exact Below.refl _ _ | refine Below.trans ?_ ((h2).mono (by first|omega|(simp<;>omega))) | refine Below.alloc ?_ (by first|omega|(simp<;>omega)) _ | refine Below.setCell ?_ (by first|omega|(simp<;>omega)) _ | refine below_drewN ?_ _ | refine Below.drew ?_))
            have hnx:=Hown2.out.next (lo0:=wo.heap.size+1) (hi0:=wr.heap.size) (Bv := .slice bo y.blocks.length bc2) Hfk.out hb6 (Hfb.out.own.inn.kept rBlock_mono fun c _ hc=>Below.heap_alloc wr _ _ hc) (by omega) (by simp) ⟨Hd1.out,Hd2.out⟩ hsz2 hown3 hgrow (by rcases hat3 with h | h;exact .inl h;exact .inr (h.trans (by simp)));have hkk:∀B,B<wo.heap.size→some B≠v2.ownBlock→w3.heap[B]?=wo.heap[B]?:=fun B h1 h2=>by
             rw [hgrow.block B (by simp;omega) h2,Below.heap_alloc _ _ _ (by omega),Hlowi.out B h1]
            have hlow:∀B,w.heap.size≤B→B<WA.heap.size→w3.heap[B]?=wo.heap[B]?:=fun B h1 h2=>hkk B (by omega) (fun e=>by have:=(Hown2.out.row.lt B e.symm).1;omega);have hb3:Below w.heap.size w w3:=by
             refine Below.grown ?_ hgrow (by simp;omega) (fun g hg=>by have:=(Hown2.out.row.lt g hg).1;omega);have h:=Hbx2.out.below;have h1:=Hfb.out.below
             (have hz0:=(h1).size;have hy0:=hz0;(try simp at hy0);have hz1:=(h).size;have hy1:=hz1;(try simp at hy1);repeat (first | exact Below.refl _ _ | refine Below.trans ?_ ((h1).mono (by first|omega|(simp<;>omega))) | refine Below.trans ?_ ((h).mono (by first|omega|(simp<;>omega))) | refine Below.alloc ?_ (by first|omega|(simp<;>omega)) _ | refine Below.setCell ?_ (by first|omega|(simp<;>omega)) _ | refine below_drewN ?_ _ | refine Below.drew ?_))
            have hbx3:=Hbx2.out.keep hb3 (fun b h1 h2=>hlow b h1 (by omega));have n4:w3.cell? ⟨w.heap.size+2,1,none⟩=some v2:=by have h:=hbx3.out.get2.2;rw [Nat.zero_add] at h;exact h
            have ff4:w3.frozen? ⟨w.heap.size+2,1,none⟩=false:=hbx3.outFree 1;have Hbx3:=hid (hbx3.set1 v5);have Hgl3:Hid (OwnIn (w.heap.size+3) WA.heap.size (w3.setCell ⟨w.heap.size+2,1,none⟩ v5) 48 3 rGlobal v gs):=Hgl2.out.kept rGlobal_mono (fun b h1 h2=>(Below.heap_setCell w3 ⟨w.heap.size+2,1,none⟩ v5 b (by dsimp only;omega)).trans (hlow b (by omega) h2));have Hown3:=hid (hnx.setLow (a:=⟨w.heap.size+2,1,none⟩) (by dsimp only;omega) v5);have hz5:wr.heap.size≤w3.heap.size:=Nat.le_trans (by simp) hgrow.size;subst hv5;clear hown3 hgrow hkk hlow hb3 hbx3 hnx hb6 hat3;go_wp2_with fail;go_roundw
            case rel=>exact⟨k+1,_,_,_,_,by omega,by go_num,by simp [World.setCell];omega,by have h:=Hbx3.out;(try simp only [List.length_take,Nat.min_eq_left hk] at h);exact h,by have h:=Hown3.out;(try simp only [List.length_take,Nat.min_eq_left hk] at h);exact h,by have h:=Hgl3.out;(try simp only [List.length_take,Nat.min_eq_left hk] at h);exact h⟩
            case measure=>simp [intOf];omega
     · obtain rfl:k=fs.length:=by omega
       rw [List.take_length] at Hown2;obtain⟨go,gc2,hgv⟩:=hgl.shape;obtain⟨fo,fc2,hfv⟩:=Hown2.out.shape;subst hgv hfv;obtain⟨b0,b1⟩:=hbx.out.get2;obtain⟨o0,o1⟩:=hbx.res.get2;rw [Nat.zero_add] at b1 o1;have y0:=hbx.resFree 0;have y1:=hbx.resFree 1;have hz10:w.heap.size+2<wr.heap.size:=cell_lt b0;clear hbx hown hgl;go_wp2_with fail;have hcells:=set2 (u0 := .slice go gs.length gc2) (u1 := .slice fo fs.length fc2) Hbx2.out.res;obtain⟨h0,h1⟩:=hcells.get2;rw [Nat.zero_add] at h1;obtain⟨W5,hW5⟩:∃W5,W5=((wr.setCell ⟨w.heap.size+1,0,none⟩ (.slice go gs.length gc2)).setCell ⟨w.heap.size+1,1,none⟩ (.slice fo fs.length fc2)):=⟨_,rfl⟩
       rw [←hW5] at h0 h1 ⊢;have hle:w.heap.size≤w.heap.size+1:=Nat.le_succ _;have hlt:w.heap.size+1<WA.heap.size:=by omega
       have hbW5:Below w.heap.size w W5:=by
        rw [hW5];exact (Hbx2.out.below.setCell (p:=⟨w.heap.size+1,0,none⟩) hle _).setCell (p:=⟨w.heap.size+1,1,none⟩) hle _
       have hown5:CloSt W5 WA.heap.size (.slice fo fs.length fc2) fs B lo hi:=by
        rw [hW5];exact (Hown2.out.setLow (a:=⟨w.heap.size+1,0,none⟩) hlt _).setLow (a:=⟨w.heap.size+1,1,none⟩) hlt _
       have hgl5:OwnIn (w.heap.size+3) WA.heap.size W5 48 3 rGlobal (.slice go gs.length gc2) gs:=by
        refine Hgl2.out.kept rGlobal_mono (fun b h1 h2=>?_);rw [hW5,Below.heap_setCell _ _ _ _ (by dsimp only;omega),Below.heap_setCell _ _ _ _ (by dsimp only;omega)]
       have hsz5:W5.heap.size=wr.heap.size:=by rw [hW5];simp [World.setCell]
       refine bodyPost_ret (v := .agg #[.slice go gs.length gc2,.slice fo fs.length fc2]) ?_ rfl ⟨_,_,_,_,WA.heap.size,_,_,_,rfl,hsz,by omega,hgl5,hown5,hbW5⟩;simp [results,Tryz.results31,go_sem,h0,h1]

end Go.Proofs.YtnkogppgacappaaGreatDoor

namespace Go.Proofs.YtnkogppgacappaaGreatDoor
open Go.RowKit

def SdS(N lo hi:Nat)(Bv:Value)(c:Nat):Prop:=(lo≤c∧c<hi∧Bv.ownBlock≠some c)∨N≤c
structure SdB (N:Nat)(W:World)(v:Value)(f:DFunc)(Bv:Value)(lo hi base:Nat):Prop where
 frm:base≤lo
 upto:hi≤N
 off:∀c,v.ownBlock=some c→c<lo∨hi≤c
 num:I64 f.params∧I64 f.regs
 lt:∀c,Bv.ownBlock=some c→lo≤c∧c<hi
 row:∃C:List (List Value),Row1 W lo 76 6 Bv C∧C.length=f.blocks.length∧∀(b:Nat) cs x,C[b]?=some cs→f.blocks[b]?=some x→rBlock (SdS N lo hi Bv) W cs x
structure SdSt (N:Nat)(W:World)(base:Nat)(v:Value)(fs:List DFunc)(B:Nat→Value)(lo hi:Nat→Nat):Prop where
 row:Row1 W base 38 4 v (fs.mapIdx fun k f=>cellsFn f (B k))
 blk:∀(k:Nat) f,fs[k]?=some f→SdB N W v f (B k) (lo k) (hi k) base
 apart:∀j k:Nat,j<fs.length→k<fs.length→j<k→hi j≤lo k
 vlt:∀c,v.ownBlock=some c→c<N
 le:N≤W.heap.size
section
variable {N : Nat} {W W' : World} {base : Nat} {v : Value} {fs : List DFunc} {B : Nat → Value} {lo hi : Nat → Nat} {k b : Nat} {f : DFunc} {x : DBlock}
theorem SdB.kp {Bv:Value}{l h0:Nat}(h:SdB N W v f Bv l h0 base){F:Nat→Prop}(hk:Kp F W W')(hF:∀c,(l≤c∧c<h0)∨N≤c→F c):SdB N W' v f Bv l h0 base:=by
 obtain⟨C,r,hl,rd⟩:=h.row;refine⟨h.frm,h.upto,h.off,h.num,h.lt,C,r.off (hk.less fun c hc=>hF c (.inl (h.lt c hc))),hl,fun b cs x h1 h2=>rBlock_mono.out _ _ _ _ _ _ (fun _ h=>h) (hk.stays fun c hc=>hF c ?_) (rd b cs x h1 h2)⟩;rcases hc with hc | hc
 · exact .inl ⟨hc.1,hc.2.1⟩
 · exact .inr hc
theorem SdB.set {Bv:Value}{l h0 g n c:Nat}{lv:Value}{L:List DIns}(h:SdB N W v f Bv l h0 base)(hb:f.blocks[b]?=some x)(hl:SlAt (SdS N l h0 Bv) W 8 rIns lv L)(hg:Bv = .slice (some ⟨g,0,none⟩) n c) :
 SdB N (W.setCell ⟨g,b * 6+1,none⟩ lv) v { f with blocks:=f.blocks.set b { x with list:=L } } Bv l h0 base:=by
 obtain⟨C,r,hlen,rd⟩:=h.row;have hbl:=(List.getElem?_eq_some_iff.1 hb).1;obtain⟨cs,hcs⟩:∃cs,C[b]?=some cs:=⟨_,List.getElem?_eq_getElem (by omega)⟩
 have hgl:=h.lt g (by rw [hg];rfl);have hk:Kp (fun c=>c≠g) W (W.setCell ⟨g,b * 6+1,none⟩ lv):=kp_one W g _ lv;have hst:Stays (SdS N l h0 Bv) W (W.setCell ⟨g,b * 6+1,none⟩ lv):=hk.stays fun c hc e=>by
  subst e;rcases hc with hc | hc
  · exact hc.2.2 (by rw [hg];rfl)
  · have:=h.upto;omega
 refine⟨h.frm,h.upto,h.off,h.num,h.lt,C.set b (cs.set 1 lv),r.set hg hcs (by decide) lv,by rw [List.length_set,List.length_set];exact hlen,fun b' cs' x' h1 h2=>?_⟩;rw [List.getElem?_set] at h1;have h2':(f.blocks.set b { x with list:=L })[b']?=some x':=h2;rw [List.getElem?_set] at h2'
 by_cases e:b=b'
 · subst e
   rw [if_pos rfl,if_pos (by omega)] at h1;rw [if_pos rfl,if_pos hbl] at h2';cases h1;cases h2';obtain⟨p,l0,e,rfl,h3,h4,h5⟩:=rd b cs x hcs hb;exact⟨p,lv,e,rfl,h3.mono rPhi_mono (fun _ h=>h) hst,hl.mono rIns_mono (fun _ h=>h) hst,rEnd_mono.out _ _ _ _ _ _ (fun _ h=>h) hst h5⟩
 · rw [if_neg e] at h1 h2'
   exact rBlock_mono.out _ _ _ _ _ _ (fun _ h=>h) hst (rd b' cs' x' h1 h2')
theorem SdSt.of(h:CloSt W base v fs B lo hi):SdSt W.heap.size W base v fs B lo hi:=by
 refine⟨h.row,fun k f hf=>?_,fun j k hj hk hjk=>h.apart j k _ _ (List.getElem?_eq_getElem hj) (List.getElem?_eq_getElem hk) hjk,fun c hc=>(h.row.lt c hc).2,Nat.le_refl _⟩;obtain⟨b1,b2,⟨xss,o1,o2,o3,o4,o5⟩,b4,b5⟩:=h.blk k f hf;refine⟨b1,b2,b4,b5,fun c hc=>⟨(o1.lt c hc).1,o2 c hc⟩,xss,⟨by rw [o3];exact o1,fun cs hcs=>?_⟩,o3,fun b cs x h1 h2=>rBlock_mono.out _ _ _ _ _ _ (fun c hc => .inl hc) (Stays.refl _ _) (o5 b cs x h1 h2)⟩;obtain⟨i,hi⟩:=List.getElem?_of_mem hcs;exact o4 i cs hi
theorem SdSt.later(h:SdSt N W base v fs B lo hi)(hb:Below W.heap.size W W'):SdSt N W' base v fs B lo hi :=
 ⟨h.row.off (Kp.of hb),fun k f hf=>(h.blk k f hf).kp (F:=fun _=>True) (Kp.of hb) fun _ _=>trivial,h.apart,h.vlt,Nat.le_trans h.le hb.size⟩
theorem SdSt.set {g n c:Nat}{lv:Value}{L:List DIns}(h:SdSt N W base v fs B lo hi)(hf:fs[k]?=some f)(hb:f.blocks[b]?=some x)(hl:SlAt (SdS N (lo k) (hi k) (B k)) W 8 rIns lv L)(hg:B k = .slice (some ⟨g,0,none⟩) n c) :
 SdSt N (W.setCell ⟨g,b * 6+1,none⟩ lv) base v (fs.set k { f with blocks:=f.blocks.set b { x with list:=L } }) B lo hi:=by
 have hkl:=(List.getElem?_eq_some_iff.1 hf).1;have hB:=h.blk k f hf;have hgl:=hB.lt g (by rw [hg];rfl);have hk:Kp (fun c=>c≠g) W (W.setCell ⟨g,b * 6+1,none⟩ lv):=kp_one W g _ lv;have hmi:((fs.set k { f with blocks:=f.blocks.set b { x with list:=L } }).mapIdx fun j g=>cellsFn g (B j))=fs.mapIdx fun k f=>cellsFn f (B k):=by
  apply List.ext_getElem?;intro i;rw [List.getElem?_mapIdx,List.getElem?_mapIdx,List.getElem?_set]
  by_cases e:k=i
  · subst e;rw [if_pos rfl,if_pos hkl,hf];rfl
  · rw [if_neg e]
 refine⟨by rw [hmi];exact h.row.off (hk.less fun c hc e=>by subst e;have:=hB.off c hc;omega),fun j f' hj=>?_,fun i j hi hj hij=>h.apart i j (by simpa using hi) (by simpa using hj) hij,h.vlt,by simpa [World.setCell] using h.le⟩;rw [List.getElem?_set] at hj
 by_cases e:k=j
 · subst e
   rw [if_pos rfl,if_pos hkl] at hj;cases hj;exact hB.set hb hl hg
 · rw [if_neg e] at hj
   have hjl:=(List.getElem?_eq_some_iff.1 hj).1;refine (h.blk j f' hj).kp hk fun c hc e2=>?_;subst e2;have h1:=hB.upto;rcases hc with hc | hc
   · rcases Nat.lt_or_gt_of_ne e with h2 | h2
     · have:=h.apart k j hkl hjl h2;omega
     · have:=h.apart j k hjl hkl h2;omega
   · omega
theorem SdSt.read(h:SdSt N W base v fs B lo hi):SlAt (fun c=>c<W.heap.size) W 4 rFunc v fs:=by
 have hlen:(fs.mapIdx fun k f=>cellsFn f (B k)).length=fs.length:=by simp
 rcases h.row.own.2 with⟨h1,h2⟩ | ⟨g,cap,cur,e1,h3,h4,h5,h6,h7,h8⟩
 · rw [hlen] at h2
   have hl:fs=[]:=List.eq_nil_of_length_eq_zero h2;subst hl;exact⟨none,0,h1,Nat.le_refl _,by decide,fun h=>absurd rfl h⟩
 · unfold maxLen at h6
   rw [hlen] at e1 h5;refine⟨some ⟨g,0,none⟩,cap,e1,h5,by omega,fun _=>⟨g,0,rfl,(Array.getElem?_eq_some_iff.1 h4).1,fun i y hy=>?_⟩⟩;have hc:(fs.mapIdx fun k f=>cellsFn f (B k))[i]?=some (cellsFn y (B i)):=by rw [List.getElem?_mapIdx,hy];rfl
   obtain⟨g',c',e2,-,-,-,hcs,-⟩:=h.row.at hc (by decide);rw [e1] at e2;have hg:g=g':=by injection e2 with e3;injection e3 with e4;injection e4
   have hB:=h.blk i y hy;refine⟨_,⟨_,rfl,?_,hB.num.1,hB.num.2⟩,rfl,by rw [Nat.zero_add,hg];exact hcs⟩;obtain⟨C,r,hl,rd⟩:=hB.row;have hlive:∀cs x,rBlock (SdS N (lo i) (hi i) (B i)) W cs x→rBlock (fun c=>c<W.heap.size) W cs x:=fun cs x hx=>by
    obtain⟨p,l,e,h1,h2,h3,v4,h4,h5,h6⟩:=hx
    exact ⟨p, l, e, h1, (h2.live (by decide) fun cs x ⟨v, q1, q2, q3⟩ => ⟨v, q1, q2.live (by decide) (fun _ _ q => q), q3⟩).mono rPhi_mono (fun _ h => h.2) (Stays.refl _ _), (h3.live (by decide) fun cs x ⟨v, q1, q2, q3⟩ => ⟨v, q1, q2.live (by decide) (fun _ _ q => q), q3⟩).mono rIns_mono (fun _ h => h.2) (Stays.refl _ _),
     v4, h4, (h5.live (by decide) fun _ _ q => q).mono rInt_mono (fun _ h => h.2) (Stays.refl _ _), h6⟩
   rcases r.own.2 with⟨q1,q2⟩ | ⟨g2,cap2,cur2,q1,q3,q4,q5,q6,q7,q8⟩
   · have hl0:y.blocks=[]:=List.eq_nil_of_length_eq_zero (by omega)
     rw [q1,hl0];exact⟨none,0,rfl,Nat.le_refl _,by decide,fun h=>absurd rfl h⟩
   · unfold maxLen at q6
     refine⟨some ⟨g2,0,none⟩,cap2,by rw [q1,hl],by omega,by omega,fun _=>⟨g2,0,rfl,(Array.getElem?_eq_some_iff.1 q4).1,fun b x hx=>?_⟩⟩;obtain⟨cs,hcs⟩:∃cs,C[b]?=some cs:=⟨_,List.getElem?_eq_getElem (by rw [hl];exact (List.getElem?_eq_some_iff.1 hx).1)⟩
     obtain⟨g3,c3,e3,-,-,-,hcs3,-⟩:=r.at hcs (by decide);rw [q1] at e3;have hg3:g2=g3:=by injection e3 with e4;injection e4 with e5;injection e5
     exact⟨cs,hlive cs x (rd b cs x hcs hx),r.wid cs (List.mem_of_getElem? hcs),by rw [Nat.zero_add,hg3];exact hcs3⟩
end

end Go.Proofs.YtnkogppgacappaaGreatDoor

namespace Go.Proofs.YtnkogppgacappaaGreatDoor
open Go.RowKit

def outL(ls:List Bool)(mem:List Int)(l:List DIns):List DIns:=(restL ls l).map (doneI ls mem)
section
variable {ls : List Bool} {mem : List Int} {l : List DIns} {k : Nat} {y : DIns}
theorem outL_snoc(h:l[k]?=some y):outL ls mem (l.take (k+1))=outL ls mem (l.take k)++if goneI ls y=true then [] else [doneI ls mem y]:=by
 unfold outL restL;rw [List.take_add_one,h,List.filter_append,List.map_append]
 congr 1
 cases hg:goneI ls y <;> simp [hg]
theorem outL_len(l:List DIns):(outL ls mem l).length≤l.length:=done_len l
end
structure NowSt (W:World)(base:Nat)(S:Nat→Prop)(v:Value)(L:List DIns)(xs:List (List Value)):Prop where
 row:Row1 W base 80 8 v xs
 len:xs.length=L.length
 rd:∀(i:Nat) cs y,xs[i]?=some cs→L[i]?=some y→rIns S W cs y
section
variable {W W' : World} {base : Nat} {S : Nat → Prop} {v : Value} {L : List DIns} {xs : List (List Value)}
theorem NowSt.nil(W:World)(base:Nat)(S:Nat→Prop):NowSt W base S (.slice none 0 0) [] []:=⟨⟨World.ownsRow_nil _ _ _ _,fun cs h=>by cases h⟩,rfl,fun i cs y h=>by simp at h⟩
theorem NowSt.later(h:NowSt W base S v L xs)(hb:Below W.heap.size W W'):NowSt W' base S v L xs :=
 ⟨h.row.off (Kp.of hb),h.len,fun i cs y h1 h2=>rIns_mono.out _ _ _ _ _ _ (fun _ h=>h) (Stays.below' hb) (h.rd i cs y h1 h2)⟩
theorem NowSt.snoc {w9 : World} {v' : Value} {cs : List Value} {y : DIns} (h : NowSt W base S v L xs) (hb : Below W.heap.size W W') (hcs : cs.length = 8) (hy : rIns S W cs y) (hown : w9.ownsRow base 80 8 v' (xs.length + 1) (xs.flatten ++ cs)) (hg : W'.grownBy w9 v.ownBlock)
 (hS:∀c,S c→c<base):NowSt w9 base S v' (L++[y]) (xs++[cs]):=by
 have hk:Kp (fun c=>c<base) W w9:=(Kp.of hb).trans ⟨hg.os,hg.tape,hg.output,hg.size,fun c hc hF=>hg.block c hc fun e=>by have:=(h.row.lt c e.symm).1;omega⟩;have hst:Stays S W w9:=hk.stays hS;refine⟨⟨?_,?_⟩,by rw [List.length_append,List.length_append,h.len];rfl,fun i cs' y' h1 h2=>?_⟩
 · rw [List.flatten_append,show (xs++[cs]).length=xs.length+1 by simp]
   simpa using hown
 · intro c hc
   rcases List.mem_append.1 hc with h3 | h3
   · exact h.row.wid c h3
   · rw [List.mem_singleton] at h3;rw [h3];exact hcs
 · rcases Nat.lt_trichotomy i xs.length with h3 | h3 | h3
   · rw [List.getElem?_append_left h3] at h1
     rw [List.getElem?_append_left (by rw [←h.len];exact h3)] at h2;exact rIns_mono.out _ _ _ _ _ _ (fun _ h=>h) hst (h.rd i cs' y' h1 h2)
   · subst h3
     rw [List.getElem?_append_right (Nat.le_refl _)] at h1;rw [h.len,List.getElem?_append_right (Nat.le_refl _)] at h2;simp only [Nat.sub_self,List.getElem?_cons_zero,Option.some.injEq] at h1 h2;subst h1;subst h2;exact rIns_mono.out _ _ _ _ _ _ (fun _ h=>h) hst hy
   · rw [List.getElem?_eq_none (by simp;omega)] at h1;cases h1
theorem NowSt.read(h:NowSt W base S v L xs){S':Nat→Prop}(hS:∀c,S c→S' c)(hb:∀c,base≤c→S' c):SlAt S' W 8 rIns v L:=by
 rcases h.row.own.2 with⟨h1,h2⟩ | ⟨g,cap,cur,e1,h3,h4,h5,h6,-⟩
 · have hl:L=[]:=List.eq_nil_of_length_eq_zero (by rw [←h.len];exact h2)
   rw [h1,hl];exact⟨none,0,rfl,Nat.le_refl _,by decide,fun h=>absurd rfl h⟩
 · unfold maxLen at h6
   refine⟨some ⟨g,0,none⟩,cap,by rw [e1,h.len],by rw [←h.len];omega,by omega,fun _=>⟨g,0,rfl,hb g h3,fun i x hx=>?_⟩⟩;obtain⟨cs,hcs⟩:∃cs,xs[i]?=some cs:=⟨_,List.getElem?_eq_getElem (by rw [h.len];exact (List.getElem?_eq_some_iff.1 hx).1)⟩
   obtain⟨g3,c3,e3,-,-,-,hcs3,-⟩:=h.row.at hcs (by decide);rw [e1] at e3;have hg3:g=g3:=by injection e3 with e4;injection e4 with e5;injection e5
   exact⟨cs,rIns_mono.out _ _ _ _ _ _ hS (Stays.refl _ _) (h.rd i cs x hcs hx),h.row.wid cs (List.mem_of_getElem? hcs),by rw [Nat.zero_add,hg3];exact hcs3⟩
end

section
variable {N : Nat} {W : World} {base : Nat} {v : Value} {fs : List DFunc} {B : Nat → Value} {lo hi : Nat → Nat} {k b : Nat} {f : DFunc} {x : DBlock}
theorem SdSt.funcCell {g n c:Nat}(h:SdSt N W base v fs B lo hi)(hf:fs[k]?=some f)(hv:v = .slice (some ⟨g,0,none⟩) n c):W.cell? ⟨g,k * 4+3,none⟩=some (B k)∧∃a c,B k = .slice a f.blocks.length c:=by
 obtain⟨g',c',hv',-,-,-,hat,-⟩:=h.row.at (i:=k) (by rw [List.getElem?_mapIdx,hf];rfl) (by decide)
 have hg:g=g':=by rw [hv] at hv';injection hv' with e1;injection e1 with e2;injection e2
 subst hg;obtain⟨C,r,hl,-⟩:=(h.blk k f hf).row;refine⟨hat.get4.2.2.2,?_⟩;rcases r.own.2 with⟨q1,q2⟩ | ⟨g2,cap2,cur2,q1,-⟩
 · exact⟨none,0,by rw [q1,←hl,q2]⟩
 · exact⟨_,_,by rw [q1,hl]⟩
theorem SdSt.listCell(h:SdSt N W base v fs B lo hi)(hf:fs[k]?=some f)(hb:f.blocks[b]?=some x):∃g c a lc,B k = .slice (some ⟨g,0,none⟩) f.blocks.length c∧W.cell? ⟨g,b * 6+1,none⟩=some (.slice a x.list.length lc)∧W.frozen? ⟨g,b * 6+1,none⟩=false ∧
 SlAt (SdS N (lo k) (hi k) (B k)) W 8 rIns (.slice a x.list.length lc) x.list∧base≤g∧g<N:=by
 have hB:=h.blk k f hf;obtain⟨C,r,hl,rd⟩:=hB.row;obtain⟨cs,hcs⟩:∃cs,C[b]?=some cs:=⟨_,List.getElem?_eq_getElem (by rw [hl];exact (List.getElem?_eq_some_iff.1 hb).1)⟩
 obtain⟨p,l,e,rfl,-,h3,-⟩:=rd b cs x hcs hb;obtain⟨g,c,hv,-,-,-,hat,hz⟩:=r.at hcs (by decide);obtain⟨a,lc,rfl,-⟩:=id h3;have hg:=hB.lt g (by rw [hv];rfl);have:=hB.frm;have:=hB.upto;exact⟨g,c,a,lc,by rw [hv,hl],hat 1 _ rfl,hz _,h3,by omega,by omega⟩
end

theorem SdSt.kp {N:Nat}{W W':World}{base:Nat}{v:Value}{fs:List DFunc}{B:Nat→Value}{lo hi:Nat→Nat}(h:SdSt N W base v fs B lo hi){F:Nat→Prop}(hk:Kp F W W')(hF:∀c,base≤c→F c)(hN:base≤N):SdSt N W' base v fs B lo hi :=
 ⟨h.row.off (hk.less fun c hc=>hF c (h.row.lt c hc).1),fun k f hf=>(h.blk k f hf).kp hk fun c hc=>hF c (by have:=(h.blk k f hf).frm;omega),h.apart,h.vlt,Nat.le_trans h.le hk.size⟩

theorem unit1_res {fn:Func}(hfn:fn.results=#[.cell 2 25]){tmps:Array Value}{W:World}{UO:Nat}{u0 u1:Value}(h:tmps.getD 2 undef = .pointer (some ⟨UO,0,none⟩))(c0:W.cell? ⟨UO,0,none⟩=some u0)(c1:W.cell? ⟨UO,1,none⟩=some u1) :
 (results fn tmps).run Tryz.prog W = .ok (.agg #[u0,u1]) W:=by
 simp only [Array.getD_eq_getD_getElem?] at h;simp [results,hfn,h,go_sem,c0,c1]

end Go.Proofs.YtnkogppgacappaaGreatDoor
