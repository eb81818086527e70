/- calls.CopyBlock, plain: the rows of a block. calls.CopyBlock: the walk, with all rows. -/
import Derived.Test.YtnkogppgacappaaGreatDoorPGCopyL
import Derived.Test.YtnkogppgacappaaGreatDoorPNm3
import Derived.Test.YtnkogppgacappaaGreatDoorPBack
import Derived.Test.YtnkogppgacappaaGreatDoorPTidyOk
namespace Go.Proofs.YtnkogppgacappaaGreatDoor
open Go.RowKit

def okX1 (b n : Nat) : Pth → Prop
 | .phis c=>c=b
 | .src c i=>c=b∧i<n
 | _=>False
def okX2 (b n : Nat) : Pth → Prop
 | .list c=>c=b
 | .args c i=>c=b∧i<n
 | _=>False
def okX3 (b : Nat) : Pth → Prop
 | .to c=>c=b
 | _=>False
def okX (b : Nat) (x : DBlock) : Pth → Prop
 | .phis c=>c=b
 | .src c i=>c=b∧i<x.phis.length
 | .list c=>c=b
 | .args c i=>c=b∧i<x.list.length
 | .to c=>c=b
 | _=>False
def elX (x : DBlock) (V : Pth → Value) : Pth → List (List Value)
 | .phis c=>x.phis.mapIdx fun i p=>[.int .i64 p.dst,V (.src c i)]
 | .src _ i=>(x.phis.getD i noPhiP).src.map cellsV
 | .list c=>x.list.mapIdx fun i y=>cellsI y (V (.args c i))
 | .args _ i=>(x.list.getD i noInsP).args.map cellsV
 | .to _=>x.fin.to.map fun t=>[.int .i64 t]
 | _=>[]
def phisX(x:DBlock)(k:Nat):DBlock:={ x with phis:=x.phis.take k }
def listX(x:DBlock)(k:Nat):DBlock:={ x with list:=x.list.take k }
theorem take_snoc {α:Type}{l:List α}{k:Nat}{x:α}(h:l[k]?=some x):l.take (k+1)=l.take k++[x]:=by rw [List.take_add_one,h];rfl
theorem mapIdx_snoc {α β:Type}(f:Nat→α→β)(l:List α)(x:α):(l++[x]).mapIdx f=l.mapIdx f++[f l.length x]:=by
 rw [List.mapIdx_append];simp
theorem mapIdx_congr {α β:Type}{f g:Nat→α→β}{l:List α}(h:∀i x,l[i]?=some x→f i x=g i x):l.mapIdx f=l.mapIdx g:=by
 apply List.ext_getElem?;intro i;rw [List.getElem?_mapIdx,List.getElem?_mapIdx];cases hx:l[i]? with
 | none=>rfl
 | some x=>rw [Option.map_some,Option.map_some,h i x hx]
section
variable {W W5 W6 W9 : World} {base b k : Nat} {x : DBlock} {V : Pth → Value}
theorem rows_phi (hr : RowsAt W base (okX1 b k) V (elX (phisX x k) V)) {p : DPhi} (hp : x.phis[k]? = some p) (hb5 : Below W.heap.size W W5) {sv : Value} {B5 fn : Nat} (hs : W5.ownsRow B5 72 2 sv fn (p.src.map cellsV).flatten) (hfn : p.src.length = fn) (hB5 : W.heap.size ≤ B5) (hbase : base ≤ W.heap.size)
 {PB:Nat} (hPB:W.heap.size≤PB∧PB<B5) (hk6:Kp (fun c=>c≠PB) W5 W6) {v':Value} (hown:W9.ownsRow base 94 2 v' (k+1) ((elX (phisX x k) V (.phis b)).flatten++[.int .i64 p.dst,sv])) (hg:W6.grownBy W9 (V (.phis b)).ownBlock)
 (hat:v'.ownBlock=(V (.phis b)).ownBlock∨v'.ownBlock=some W6.heap.size) :
 RowsAt W9 base (okX1 b (k+1)) (updP (updP V (.src b k) sv) (.phis b) v') (elX (phisX x (k+1)) (updP (updP V (.src b k) sv) (.phis b) v')):=by
 have hkl:=(List.getElem?_eq_some_iff.1 hp).1;have r5:=hr.later hb5;have hlt5:=hb5.size;have hn0:¬okX1 b k (.src b k):=fun h=>Nat.lt_irrefl _ h.2;have r6:RowsAt W6 base (okX1 b k) V (elX (phisX x k) V):=RowsAt.kp r5 hk6 fun q hq c hc e=>by have:=(hr.lt hq c hc).2;omega
 have hs6:W6.ownsRow base 72 2 sv (p.src.map cellsV).length (p.src.map cellsV).flatten:=by
  rw [List.length_map,hfn];refine ownsRow_low ?_ (Nat.le_trans hbase hB5);refine⟨hs.1,?_⟩;rcases hs.2 with h1 | ⟨g,cap,cur,e1,h3,h4,h5⟩
  · exact .inl h1
  · exact .inr ⟨g,cap,cur,e1,h3,(hk6.block g (Array.getElem?_eq_some_iff.1 h4).1 (by omega)).trans h4,h5⟩
 have hse:∀c,sv.ownBlock=some c→B5≤c:=fun c hc=>(hs.lt c hc).1
 -- the sources' row beside the others
 have r7:RowsAt W6 base (fun q=>okX1 b k q∨q = .src b k) (updP V (.src b k) sv) (updP (elX (phisX x k) V) (.src b k) (p.src.map cellsV)):=by
  refine⟨fun q hq=>?_,fun q hq=>?_,fun q1 q2 h1 h2 hne c hc=>?_⟩
  · by_cases e:q = .src b k
    · subst e;rw [updP_self,updP_self];exact hs6
    · rw [updP_ne _ _ e,updP_ne _ _ e];exact r6.own q (hq.resolve_right e)
  · by_cases e:q = .src b k
    · subst e;rw [updP_self];intro cs hcs;obtain⟨v,_,rfl⟩:=List.mem_map.1 hcs;rfl
    · rw [updP_ne _ _ e];exact r6.wid q (hq.resolve_right e)
  · by_cases e1:q1 = .src b k
    · have e2:q2 ≠ .src b k:=fun e=>hne (e1.trans e.symm)
      rw [e1,updP_self] at hc;rw [updP_ne _ _ e2];intro h3;have:=hse c hc;have:=(hr.lt (h2.resolve_right e2) c h3).2;omega
    · rw [updP_ne _ _ e1] at hc
      by_cases e2:q2 = .src b k
      · rw [e2,updP_self]
        intro h3;have:=hse c h3;have:=(hr.lt (h1.resolve_right e1) c hc).2;omega
      · rw [updP_ne _ _ e2];exact r6.apart q1 q2 (h1.resolve_right e1) (h2.resolve_right e2) hne c hc
 have hpn:(Pth.phis b:Pth) ≠ .src b k:=by simp
 have hxss:(elX (phisX x k) V (.phis b)++[[.int .i64 p.dst,sv]]:List (List Value)).flatten=(elX (phisX x k) V (.phis b)).flatten++[.int .i64 p.dst,sv]:=by simp
 have hlen:(elX (phisX x k) V (.phis b)++[[.int .i64 p.dst,sv]]:List (List Value)).length=k+1:=by simp [elX,phisX];omega
 have r9 := r7.put (.phis b) (v' := v') (xss := elX (phisX x k) V (.phis b) ++ [[.int .i64 p.dst, sv]]) (by rw [hxss, hlen]; exact hown) (fun cs hcs => by
  rcases List.mem_append.1 hcs with h | h
  · exact hr.wid (.phis b) rfl cs h
  · rw [List.mem_singleton] at h; rw [h]; rfl) hg (fun q hq hne c hc e => by
  rcases hq with hq | rfl
  · rw [updP_ne _ _ (fun e => by subst e; exact hn0 hq)] at hc
    exact hr.apart q (.phis b) hq rfl hne c hc e
  · rw [updP_self] at hc
    have := hse c hc
    have := (hr.lt (p := .phis b) rfl c e).2
    omega) (fun c hc => by
  rcases hat with h | h
  · exact .inl (by rw [← h]; exact hc)
  · rw [h] at hc; cases hc; exact .inr (Nat.le_refl _))
 refine (r9.less (ok':=okX1 b (k+1)) fun q hq=>?_).congr (fun q _=>rfl) (fun q hq=>?_)
 · cases q with
   | phis c=>exact .inr (by rw [show c=b from hq])
   | src c i =>
     obtain⟨rfl,hi⟩:=hq;rcases Nat.lt_succ_iff_lt_or_eq.1 hi with h | h
     · exact .inl (.inl ⟨rfl,h⟩)
     · exact .inl (.inr (by rw [h]))
   | _=>exact absurd hq (by simp [okX1])
 · cases q with
   | phis c =>
     obtain rfl:c=b:=hq;rw [updP_self];show (x.phis.take (k+1)).mapIdx _=(x.phis.take k).mapIdx _++_;rw [take_snoc hp,mapIdx_snoc]
     congr 1
     · refine mapIdx_congr fun i y hi=>?_
       have hik:i<k:=by have:=(List.getElem?_eq_some_iff.1 hi).1;rw [List.length_take] at this;omega
       rw [updP_ne _ _ (by simp),updP_ne _ _ (by simp;omega)]
     · rw [List.length_take,Nat.min_eq_left (by omega),updP_ne _ _ (by simp),updP_self]
   | src c i =>
     obtain⟨rfl,hi⟩:=hq;rw [updP_ne _ _ (by simp)];show ((x.phis.take (k+1)).getD i noPhiP).src.map cellsV=_;rcases Nat.lt_succ_iff_lt_or_eq.1 hi with h | h
     · rw [updP_ne _ _ (by simp;omega)]
       show _=((x.phis.take k).getD i noPhiP).src.map cellsV;rw [List.getD_eq_getElem?_getD,List.getD_eq_getElem?_getD,List.getElem?_take,List.getElem?_take,if_pos (by omega),if_pos h]
     · subst h
       rw [updP_self,List.getD_eq_getElem?_getD,List.getElem?_take,if_pos (by omega),hp];rfl
   | _=>exact absurd hq (by simp [okX1])
theorem rows_ins (hr : RowsAt W base (okX2 b k) V (elX (listX x k) V)) {y : DIns} (hp : x.list[k]? = some y) (hb5 : Below W.heap.size W W5) {sv : Value} {B5 fn : Nat} (hs : W5.ownsRow B5 72 2 sv fn (y.args.map cellsV).flatten) (hfn : y.args.length = fn) (hB5 : W.heap.size ≤ B5) (hbase : base ≤ W.heap.size)
 {PB:Nat} (hPB:W.heap.size≤PB∧PB<B5) (hk6:Kp (fun c=>c≠PB) W5 W6) {v':Value} (hown:W9.ownsRow base 80 8 v' (k+1) ((elX (listX x k) V (.list b)).flatten++cellsI y sv)) (hg:W6.grownBy W9 (V (.list b)).ownBlock)
 (hat:v'.ownBlock=(V (.list b)).ownBlock∨v'.ownBlock=some W6.heap.size) :
 RowsAt W9 base (okX2 b (k+1)) (updP (updP V (.args b k) sv) (.list b) v') (elX (listX x (k+1)) (updP (updP V (.args b k) sv) (.list b) v')):=by
 have hkl:=(List.getElem?_eq_some_iff.1 hp).1;have r5:=hr.later hb5;have hlt5:=hb5.size;have hn0:¬okX2 b k (.args b k):=fun h=>Nat.lt_irrefl _ h.2;have r6:RowsAt W6 base (okX2 b k) V (elX (listX x k) V):=RowsAt.kp r5 hk6 fun q hq c hc e=>by have:=(hr.lt hq c hc).2;omega
 have hs6:W6.ownsRow base 72 2 sv (y.args.map cellsV).length (y.args.map cellsV).flatten:=by
  rw [List.length_map,hfn];refine ownsRow_low ?_ (Nat.le_trans hbase hB5);refine⟨hs.1,?_⟩;rcases hs.2 with h1 | ⟨g,cap,cur,e1,h3,h4,h5⟩
  · exact .inl h1
  · exact .inr ⟨g,cap,cur,e1,h3,(hk6.block g (Array.getElem?_eq_some_iff.1 h4).1 (by omega)).trans h4,h5⟩
 have hse:∀c,sv.ownBlock=some c→B5≤c:=fun c hc=>(hs.lt c hc).1;have r7:RowsAt W6 base (fun q=>okX2 b k q∨q = .args b k) (updP V (.args b k) sv) (updP (elX (listX x k) V) (.args b k) (y.args.map cellsV)):=by
  refine⟨fun q hq=>?_,fun q hq=>?_,fun q1 q2 h1 h2 hne c hc=>?_⟩
  · by_cases e:q = .args b k
    · subst e;rw [updP_self,updP_self];exact hs6
    · rw [updP_ne _ _ e,updP_ne _ _ e];exact r6.own q (hq.resolve_right e)
  · by_cases e:q = .args b k
    · subst e;rw [updP_self];intro cs hcs;obtain⟨v,_,rfl⟩:=List.mem_map.1 hcs;rfl
    · rw [updP_ne _ _ e];exact r6.wid q (hq.resolve_right e)
  · by_cases e1:q1 = .args b k
    · have e2:q2 ≠ .args b k:=fun e=>hne (e1.trans e.symm)
      rw [e1,updP_self] at hc;rw [updP_ne _ _ e2];intro h3;have:=hse c hc;have:=(hr.lt (h2.resolve_right e2) c h3).2;omega
    · rw [updP_ne _ _ e1] at hc
      by_cases e2:q2 = .args b k
      · rw [e2,updP_self]
        intro h3;have:=hse c h3;have:=(hr.lt (h1.resolve_right e1) c hc).2;omega
      · rw [updP_ne _ _ e2];exact r6.apart q1 q2 (h1.resolve_right e1) (h2.resolve_right e2) hne c hc
 have hxss:(elX (listX x k) V (.list b)++[cellsI y sv]:List (List Value)).flatten=(elX (listX x k) V (.list b)).flatten++cellsI y sv:=by simp
 have hlen:(elX (listX x k) V (.list b)++[cellsI y sv]:List (List Value)).length=k+1:=by simp [elX,listX];omega
 have r9 := r7.put (.list b) (v' := v') (xss := elX (listX x k) V (.list b) ++ [cellsI y sv]) (by rw [hxss, hlen]; exact hown) (fun cs hcs => by
  rcases List.mem_append.1 hcs with h | h
  · exact hr.wid (.list b) rfl cs h
  · rw [List.mem_singleton] at h; rw [h]; rfl) hg (fun q hq hne c hc e => by
  rcases hq with hq | rfl
  · rw [updP_ne _ _ (fun e => by subst e; exact hn0 hq)] at hc
    exact hr.apart q (.list b) hq rfl hne c hc e
  · rw [updP_self] at hc
    have := hse c hc
    have := (hr.lt (p := .list b) rfl c e).2
    omega) (fun c hc => by
  rcases hat with h | h
  · exact .inl (by rw [← h]; exact hc)
  · rw [h] at hc; cases hc; exact .inr (Nat.le_refl _))
 refine (r9.less (ok':=okX2 b (k+1)) fun q hq=>?_).congr (fun q _=>rfl) (fun q hq=>?_)
 · cases q with
   | list c=>exact .inr (by rw [show c=b from hq])
   | args c i =>
     obtain⟨rfl,hi⟩:=hq;rcases Nat.lt_succ_iff_lt_or_eq.1 hi with h | h
     · exact .inl (.inl ⟨rfl,h⟩)
     · exact .inl (.inr (by rw [h]))
   | _=>exact absurd hq (by simp [okX2])
 · cases q with
   | list c =>
     obtain rfl:c=b:=hq;rw [updP_self];show (x.list.take (k+1)).mapIdx _=(x.list.take k).mapIdx _++_;rw [take_snoc hp,mapIdx_snoc]
     congr 1
     · refine mapIdx_congr fun i y hi=>?_
       have hik:i<k:=by have:=(List.getElem?_eq_some_iff.1 hi).1;rw [List.length_take] at this;omega
       rw [updP_ne _ _ (by simp),updP_ne _ _ (by simp;omega)]
     · rw [List.length_take,Nat.min_eq_left (by omega),updP_ne _ _ (by simp),updP_self]
   | args c i =>
     obtain⟨rfl,hi⟩:=hq;rw [updP_ne _ _ (by simp)];show ((x.list.take (k+1)).getD i noInsP).args.map cellsV=_;rcases Nat.lt_succ_iff_lt_or_eq.1 hi with h | h
     · rw [updP_ne _ _ (by simp;omega)]
       show _=((x.list.take k).getD i noInsP).args.map cellsV;rw [List.getD_eq_getElem?_getD,List.getD_eq_getElem?_getD,List.getElem?_take,List.getElem?_take,if_pos (by omega),if_pos h]
     · subst h
       rw [updP_self,List.getD_eq_getElem?_getD,List.getElem?_take,if_pos (by omega),hp];rfl
   | _=>exact absurd hq (by simp [okX2])
end
theorem RowsAt.join {W : World} {base B : Nat} {ok ok' : Pth → Prop} {V V' : Pth → Value} {C C' : Pth → List (List Value)} (P : Pth → Bool) (h : RowsAt W base ok V C) (h' : RowsAt W B ok' V' C') (hB : base ≤ B) (hlow : ∀ q, ok q → ∀ c, (V q).ownBlock = some c → c < B)
 (h0:∀q,ok q→P q=false) (h1:∀q,ok' q→P q=true):RowsAt W base (fun q=>ok q∨ok' q) (fun q=>if P q=true then V' q else V q) (fun q=>if P q=true then C' q else C q):=by
 have key:∀q,ok q∨ok' q→(ok' q∧P q=true)∨(ok q∧¬P q=true):=fun q hq=>by
  rcases hq with h2 | h2
  · exact .inr ⟨h2,by rw [h0 q h2];simp⟩
  · exact .inl ⟨h2,h1 q h2⟩
 refine⟨fun q hq=>?_,fun q hq=>?_,fun q1 q2 g1 g2 hne c hc=>?_⟩
 · rcases key q hq with⟨h2,e⟩ | ⟨h2,e⟩
   · simp only [if_pos e];exact ownsRow_low (h'.own q h2) hB
   · simp only [if_neg e];exact h.own q h2
 · rcases key q hq with⟨h2,e⟩ | ⟨h2,e⟩
   · simp only [if_pos e];exact h'.wid q h2
   · simp only [if_neg e];exact h.wid q h2
 · rcases key q1 g1 with⟨h2,e⟩ | ⟨h2,e⟩
   · simp only [if_pos e] at hc
     rcases key q2 g2 with⟨h3,e'⟩ | ⟨h3,e'⟩
     · simp only [if_pos e'];exact h'.apart q1 q2 h2 h3 hne c hc
     · simp only [if_neg e']
       intro h4;have:=(h'.lt h2 c hc).1;have:=hlow q2 h3 c h4;omega
   · simp only [if_neg e] at hc
     rcases key q2 g2 with⟨h3,e'⟩ | ⟨h3,e'⟩
     · simp only [if_pos e']
       intro h4;have:=(h'.lt h3 c h4).1;have:=hlow q1 h2 c hc;omega
     · simp only [if_neg e'];exact h.apart q1 q2 h2 h3 hne c hc

end Go.Proofs.YtnkogppgacappaaGreatDoor

namespace Go.Proofs.YtnkogppgacappaaGreatDoor
open Go.RowKit

theorem block_res1 {fn : Func} {t : Nat} (hfn : fn.results = #[.cell t 76]) {tmps : Array Value} {W : World} {UO : Nat} {u0 u1 u2 u3 u4 u5 : Value}
 (h2:tmps.getD t undef = .pointer (some ⟨UO,0,none⟩)) (hF:CellsAt W UO 0 [u0,u1,u2,u3,u4,u5]) :
 (results fn tmps).run Tryz.prog W = .ok (.agg #[u0,u1,u2,u3,u4,u5]) W:=by
 obtain⟨a0,a1,a2,a3,a4,a5⟩:=hF.get6;simp only [Array.getD_eq_getD_getElem?] at h2;simp [results,hfn,h2,go_sem,a0,a1,a2,a3,a4,a5]
theorem RowsAt.nilX1(W:World)(base b:Nat)(x:DBlock):RowsAt W base (okX1 b 0) (fun _ => .slice none 0 0) (elX (phisX x 0) fun _ => .slice none 0 0):=by
 refine⟨fun q hq=>?_,fun q hq=>?_,fun q1 q2 _ _ _ c hc=>by cases hc⟩
 · cases q with
   | phis c=>exact World.ownsRow_nil _ _ _ _
   | src c i=>exact absurd hq.2 (Nat.not_lt_zero _)
   | _=>exact absurd hq (by simp [okX1])
 · cases q with
   | phis c=>intro cs hcs;cases hcs
   | src c i=>exact absurd hq.2 (Nat.not_lt_zero _)
   | _=>exact absurd hq (by simp [okX1])
theorem RowsAt.nilX2(W:World)(base b:Nat)(x:DBlock):RowsAt W base (okX2 b 0) (fun _ => .slice none 0 0) (elX (listX x 0) fun _ => .slice none 0 0):=by
 refine⟨fun q hq=>?_,fun q hq=>?_,fun q1 q2 _ _ _ c hc=>by cases hc⟩
 · cases q with
   | list c=>exact World.ownsRow_nil _ _ _ _
   | args c i=>exact absurd hq.2 (Nat.not_lt_zero _)
   | _=>exact absurd hq (by simp [okX2])
 · cases q with
   | list c=>intro cs hcs;cases hcs
   | args c i=>exact absurd hq.2 (Nat.not_lt_zero _)
   | _=>exact absurd hq (by simp [okX2])

theorem cloneInts_src {S:Nat→Prop}{fa:Option Addr}{fn fc:Nat}{l:List Int}{w W:World}(h:SlAt S w 1 rInt (.slice fa fn fc) l)(hb:Below w.heap.size w W)(hn:fn≤1048576) :
 Calls Tryz.prog 65 #[.slice fa fn fc] W fun e w'=>∃va vc,e = .returned (.slice va fn vc)∧w'.ownsRow W.heap.size 3 1 (.slice va fn vc) fn (l.map fun t=>[Value.int .i64 t]).flatten∧Below W.heap.size W w':=by
 obtain⟨xss,hl,hxl,hxe,hxw,hnil,hc⟩:=sl_rows h (by decide);have e:=rows_map (fun t=>[Value.int .i64 t]) (by omega) hxe (fun cs x h=>h.1);subst e;refine cloneInt_row fa fn fc _ W ?_ hnil (fun b hb2 j u hj=>?_) (flat_one fun cs hcs u hu=>?_) hn
 · rw [flat_len _ (fun i cs hi=>hxw cs (List.mem_of_getElem? hi)),hxl]
 · have h:=hc b hb2 j u hj
   rw [hb.cell (p:=b.add j) (cell_blk h)];exact h
 · obtain⟨v,_,rfl⟩:=List.mem_map.1 hcs
   rw [List.mem_singleton] at hu;rw [hu];rfl
def isL : Pth → Bool
 | .list _=>true
 | .args _ _=>true
 | _=>false
def isT : Pth → Bool
 | .to _=>true
 | _=>false
theorem rows_three {W W1 W2 W3 : World} {base B2 B3 b : Nat} {x : DBlock} {V V2 : Pth → Value} {tv : Value} (h1 : RowsAt W1 base (okX1 b x.phis.length) V (elX x V)) (h2 : RowsAt W2 B2 (okX2 b x.list.length) V2 (elX x V2)) {tn : Nat} (h3 : W3.ownsRow B3 3 1 tv tn (x.fin.to.map fun t => [Value.int .i64 t]).flatten) (htn : x.fin.to.length = tn)
 (g1:base≤B2∧W1.heap.size≤B2) (g2:B2≤B3∧W2.heap.size≤B3) {F:Nat→Prop} (k1:Kp F W1 W) (k2:Kp F W2 W) (k3:Kp F W3 W) (hF:∀c,base≤c→F c) :
 RowsAt W base (okX b x) (fun q=>if isT q=true then tv else if isL q=true then V2 q else V q) (elX x fun q=>if isT q=true then tv else if isL q=true then V2 q else V q):=by
 have r1:RowsAt W base (okX1 b x.phis.length) V (elX x V):=RowsAt.kp h1 k1 fun q hq c hc=>hF c (h1.lt hq c hc).1;have r2:RowsAt W B2 (okX2 b x.list.length) V2 (elX x V2):=RowsAt.kp h2 k2 fun q hq c hc=>hF c (Nat.le_trans g1.1 (h2.lt hq c hc).1);have r3:RowsAt W B3 (okX3 b) (fun _=>tv) (elX x V):=by
  refine⟨fun q hq=>?_,fun q hq=>?_,fun q1 q2 e1 e2 hne=>?_⟩
  · cases q with
    | «to» c =>
      show W.ownsRow B3 3 1 tv (x.fin.to.map _).length (x.fin.to.map _).flatten;rw [List.length_map,htn];refine⟨h3.1,?_⟩;rcases h3.2 with h4 | ⟨g,cap,cur,e1,h5,h6,h7⟩
      · exact .inl h4
      · exact .inr ⟨g,cap,cur,e1,h5,(k3.block g (Array.getElem?_eq_some_iff.1 h6).1 (hF g (by omega))).trans h6,h7⟩
    | _=>exact absurd hq (by simp [okX3])
  · cases q with
    | «to» c=>intro cs hcs;obtain⟨t,_,rfl⟩:=List.mem_map.1 hcs;rfl
    | _=>exact absurd hq (by simp [okX3])
  · cases q1 with
    | «to» c =>
      cases q2 with
      | «to» c'=>exact absurd (by rw [show c=b from e1,show c'=b from e2]) hne
      | _=>exact absurd e2 (by simp [okX3])
    | _=>exact absurd e1 (by simp [okX3])
 have j1:=RowsAt.join isL r1 r2 g1.1 (fun q hq c hc=>Nat.lt_of_lt_of_le (h1.lt hq c hc).2 g1.2) (fun q hq=>by cases q <;> first | rfl | exact absurd hq (by simp [okX1])) (fun q hq=>by cases q <;> first | rfl | exact absurd hq (by simp [okX2]))
 have j2 := RowsAt.join isT j1 r3 (Nat.le_trans g1.1 g2.1) (fun q hq c hc => by
  rcases hq with hq | hq
  · have e : isL q = false := by cases q <;> first | rfl | exact absurd hq (by simp [okX1])
    simp only [e, Bool.false_eq_true, if_false] at hc
    have := (h1.lt hq c hc).2
    omega
  · have e : isL q = true := by cases q <;> first | rfl | exact absurd hq (by simp [okX2])
    simp only [e, if_true] at hc
    have := (h2.lt hq c hc).2
    omega) (fun q hq => by cases q <;> first | rfl | exact absurd hq (by simp [okX1, okX2])) (fun q hq => by cases q <;> first | rfl | exact absurd hq (by simp [okX3]))
 refine (j2.less (ok':=okX b x) fun q hq=>?_).congr (fun q _=>rfl) (fun q hq=>?_)
 · cases q with
   | phis c=>exact .inl (.inl hq)
   | src c i=>exact .inl (.inl hq)
   | list c=>exact .inl (.inr hq)
   | args c i=>exact .inl (.inr hq)
   | «to» c=>exact .inr hq
   | _=>exact absurd hq (by simp [okX])
 · cases q <;> first | rfl | exact absurd hq (by simp [okX])

set_option maxRecDepth 100000 in
set_option maxHeartbeats 8000000 in
theorem copyBlk_rows {S : Nat → Prop} (b : Nat) (x : DBlock) (pa la ta : Option Addr) (p q tn pc lc tc : Nat) (w : World) (hp : SlAt S w 2 rPhi (.slice pa p pc) x.phis) (hl : SlAt S w 8 rIns (.slice la q lc) x.list) (ht : SlAt S w 1 rInt (.slice ta tn tc) x.fin.to)
 (hsm:SmallB x) (hpn:x.phis.length=p) (hqn:x.list.length=q) (htn:x.fin.to.length=tn) :
 Calls Tryz.prog 77 #[.agg #[.slice pa p pc,.slice la q lc,.int .i64 x.fin.kind,.bool x.fin.on.reg,.int .i64 x.fin.on.n,.slice ta tn tc]] w fun e w' =>
  ∃V,e = .returned (.agg #[V (.phis b),V (.list b),.int .i64 x.fin.kind,.bool x.fin.on.reg,.int .i64 x.fin.on.n,V (.to b)])∧RowsAt w' w.heap.size (okX b x) V (elX x V)∧Below w.heap.size w w':=by
 obtain⟨ip,hip,hpz0,hpz1,hpz2⟩:=info_parts infoPhi;obtain⟨ii,hii,hiz0,hiz1,hiz2⟩:=info_parts infoIns;have hp2:p≤1048576:=by rw [←hpn];exact hsm.phis
 have hq2:q≤1048576:=by rw [←hqn];exact hsm.list
 have ht2:tn≤1048576:=by rw [←htn];exact hsm.to
 obtain⟨ek,hek⟩:∃ek,ek=x.fin.kind:=⟨_,rfl⟩
 obtain⟨er,her⟩:∃er,er=x.fin.on.reg:=⟨_,rfl⟩
 obtain⟨en,hen⟩:∃en,en=x.fin.on.n:=⟨_,rfl⟩
 rw [←hek,←her,←hen];have Hp:=hid hp;have Hl:=hid hl;have Ht:=hid ht;have Hsm:=hid hsm;have HN:Hid (x.phis.length=p∧x.list.length=q∧x.fin.to.length=tn):=⟨hpn,hqn,htn⟩
 clear hp hl ht hsm hek her hen hpn hqn htn;go_enter Tryz.func77,Tryz.ntmps77;go_upto_region 1 with (fail)
 obtain⟨W,hW⟩:∃W,W=(w.alloc (.cells #[.slice pa p pc,.slice la q lc,.int .i64 ek,.bool er,.int .i64 en,.slice ta tn tc] 76)).alloc (.cells #[.slice none 0 0,.slice none 0 0,.int .i64 0,.bool false,.int .i64 0,.slice none 0 0] 76):=⟨_,rfl⟩
 obtain⟨hWs,h0,h1⟩:=two_cells w (.cells #[.slice pa p pc,.slice la q lc,.int .i64 ek,.bool er,.int .i64 en,.slice ta tn tc] 76) (.cells #[.slice none 0 0,.slice none 0 0,.int .i64 0,.bool false,.int .i64 0,.slice none 0 0] 76);rw [←hW] at hWs h0 h1 ⊢;have hbW:Below w.heap.size w W:=by rw [hW];(repeat (first | exact Below.refl _ _ | refine Below.alloc ?_ (by first|omega|(simp<;>omega)) _ | refine Below.setCell ?_ (by first|omega|(simp<;>omega)) _ | refine below_drewN ?_ _ | refine Below.drew ?_))
 obtain⟨UB,hUB⟩:∃UB,UB=w.heap.size:=⟨_,rfl⟩
 obtain⟨UO,hUO⟩:∃UO,UO=w.heap.size+1:=⟨_,rfl⟩
 rw [←hUO] at h1 ⊢;rw [←hUB] at h0 ⊢;have HUs:Hid (UB=w.heap.size∧UO=w.heap.size+1∧W.heap.size=w.heap.size+2):=⟨hUB,hUO,hWs⟩
 have H0:=hid h0;have H1:=hid h1;have HbW:=hid hbW;have c0:=(cells_of (cs:=[_,_,_,_,_,_]) h0).get6.1;have zB:=cell_lt c0;clear hW h0 h1 hbW hUB hUO hWs;go_wp2_with fail;clear c0 zB;go_loopw [3,12] (fun s3 s12 wr=>∃(k:Nat) (V:Pth→Value) (va:Option Addr) (vc:Nat),k≤p∧s12 = .int .i64 (k:Int)∧s3 = .slice va k vc∧V (.phis b) = .slice va k vc∧RowsAt wr W.heap.size (okX1 b k) V (elX (phisX x k) V)∧Below W.heap.size W wr) (fun _ s12 _=>p - (intOf s12).toNat)
 case atStart=>exact⟨0,_,none,0,Nat.zero_le _,rfl,rfl,rfl,RowsAt.nilX1 _ _ _ _,Below.refl _ _⟩
 case round =>
  obtain⟨wo,hwo⟩:∃wo:World,wo=wr:=⟨_,rfl⟩
  subst hwo;obtain⟨k,V,va,vc,hk,rfl,rfl,hVp,hrows,hb⟩:=hrel;have Hrows:=hid hrows;have Hb:=hid hb;have HVp:=hid hVp;have hsz:=hb.size;clear hrows hVp
  by_cases hkp:k<p
  · have hkl:k<x.phis.length:=by rw [HN.out.1];exact hkp
    obtain⟨ph,hph⟩:∃ph,x.phis[k]?=some ph:=⟨_,List.getElem?_eq_getElem hkl⟩
    obtain⟨gb,off,fa,fc,rfl,d0,d1,hin,hI,-⟩:=phi_at ((Hp.out.later rPhi_mono (HbW.out.trans (hb.mono HbW.out.size)))) hkl;have e9:x.phis[k]=ph:=by rw [List.getElem?_eq_getElem hkl] at hph;exact Option.some.inj hph
    rw [e9] at d0 d1 hin hI;obtain⟨fn,hfn⟩:∃fn,fn=ph.src.length:=⟨_,rfl⟩
    obtain⟨d,hd⟩:∃d,d=ph.dst:=⟨_,rfl⟩
    rw [←hfn] at d1 hin;rw [←hd] at d0;have hfn2:fn≤1048576:=by rw [hfn];exact Hsm.out.src ph (List.mem_of_getElem? hph)
    have zg:=cell_lt d0;have Hin:=hid hin;have Hph:=hid hph;have HD:Hid (fn=ph.src.length∧d=ph.dst):=⟨hfn,hd⟩
    clear hkl hph hin hI e9 hfn hd hb;go_upto_region 5 with (fail)
    obtain⟨PB,hPB⟩:∃PB,PB=wo.heap.size:=⟨_,rfl⟩
    obtain⟨W4,hW4⟩:∃W4,W4=wo.alloc (.cells #[.int .i64 d,.slice fa fn fc] 94):=⟨_,rfl⟩
    have hl4:W4.heap[PB]?=some (.cells #[.int .i64 d,.slice fa fn fc] 94 (0,0)):=by rw [hW4,hPB];exact heap_alloc_new _ _
    have hb4:Below wo.heap.size wo W4:=by rw [hW4];(repeat (first | exact Below.refl _ _ | refine Below.alloc ?_ (by first|omega|(simp<;>omega)) _ | refine Below.setCell ?_ (by first|omega|(simp<;>omega)) _ | refine below_drewN ?_ _ | refine Below.drew ?_))
    rw [←hW4,←hPB];have HPB:Hid (PB=wo.heap.size∧W4.heap.size=PB+1):=⟨hPB,by rw [hW4,hPB];simp⟩
    obtain⟨p0,p1⟩:=(cells_of (cs:=[_,_]) hl4).get2;rw [Nat.zero_add] at p1;have zP:=cell_lt p0;have f1:=thawed hl4 1;have Hcl:=hid (cloneVals_src Hin.out hb4 hfn2);have Hl4:=hid hl4;have Hb4:=hid hb4;clear hPB hW4 hl4 hb4 d0 d1 zg;go_upto_region 6 with (go_at_call 104;refine Hcl.out.mono ?_;rintro e w5 ⟨sa,sc,rfl,hs5,hb5⟩;have Hs5:=hid hs5;have Hb5:=hid hb5;have p0:=cell_later' p0 hb5;have p1:=cell_later' p1 hb5;have f1:=(hb5.frozen (p:=⟨PB,1,none⟩) zP).trans f1;have zP:=cell_lt p0;clear hs5 hb5)
    obtain⟨W6,hW6⟩:∃W6,W6=w5.setCell ⟨PB,1,none⟩ (.slice sa fn sc):=⟨_,rfl⟩
    have hl6:W6.heap[PB]?=some (.cells #[.int .i64 d,.slice sa fn sc] 94 (0,0)):=by
     rw [hW6,heap_set_row (i:=1) ((Hb5.out.block PB (Array.getElem?_eq_some_iff.1 Hl4.out).1).trans Hl4.out)];rfl
    have hk6:Kp (fun c=>c≠PB) w5 W6:=by rw [hW6];exact kp_one _ _ _ _
    have hs6:W6.heap.size=w5.heap.size:=by rw [hW6];simp [World.setCell]
    rw [←hW6];obtain⟨p0',p1'⟩:=(cells_of (cs:=[_,_]) hl6).get2;rw [Nat.zero_add] at p1';have zP6:=cell_lt p0';have HB5:Hid (Below wo.heap.size wo w5):=Hb4.out.trans (Hb5.out.mono Hb4.out.size);have Hk6:=hid hk6;have Hs6:=hid hs6;have hown6:W6.ownsRow W.heap.size 94 2 (.slice va k vc) k (elX (phisX x k) V (.phis b)).flatten:=by
     have h:=(RowsAt.kp (Hrows.out.later HB5.out) hk6 fun q' hq' c hc e=>by have:=(Hrows.out.lt hq' c hc).2;have:=HPB.out;omega).own (.phis b) rfl;rw [HVp.out,show (elX (phisX x k) V (.phis b)).length=k by simp [elX,phisX];have:=HN.out.1;omega] at h;exact h
    have Hown6:=hid hown6;clear hW6 hl6 hk6 hs6 p0 p1 f1 zP hown6;go_wp2_with (at_builtin;refine wpList_append_own_at _ rfl _ _ 69 rfl W.heap.size 94 ip (.agg #[.int .i64 0,.slice none 0 0]) 2 32 Tryz.underlying69 hip hpz0 hpz1 hpz2 rfl (by decide) (.slice va k vc) k (elX (phisX x k) V (.phis b)).flatten rfl ?_ ⟨W6.heap.size,0,none⟩ 1 1 [.int .i64 d,.slice sa fn sc] rfl rfl ?_ ?_ ?_ ?_ ?_ ?_)
    · exact ownsRow_later Hown6.out (by (repeat (first | exact Below.refl _ _ | refine Below.alloc ?_ (by first|omega|(simp<;>omega)) _ | refine Below.setCell ?_ (by first|omega|(simp<;>omega)) _ | refine below_drewN ?_ _ | refine Below.drew ?_)))
    · intro m u hu;exact new_cells _ _ _ rfl m u hu
    · intro u hu
      simp only [List.mem_cons,List.not_mem_nil,or_false] at hu;rcases hu with rfl | rfl <;> rfl
    · unfold maxLen;omega
    · omega
    · have:=HB5.out.size;have:=Hs6.out;simp;omega
    · intro v' w9 hown9 hgrow _ hat
      obtain⟨va9,vc9,rfl⟩:=ownsRow_shape hown9;have hz9:=hgrow.size;have hnext:=rows_phi (sv := .slice sa fn sc) (fn:=fn) (PB:=PB) (v' := .slice va9 (k+1) vc9) Hrows.out Hph.out HB5.out Hs5.out HD.out.1.symm (by have:=HPB.out;omega) hsz ⟨by rw [HPB.out.1];exact Nat.le_refl _,by have:=HPB.out;omega⟩ (Hk6.out.trans (Kp.of (Below.alloc (Below.refl _ _) (Nat.le_refl _) _))) (by rw [←HD.out.2];exact hown9) (by rw [HVp.out];exact hgrow) (by rw [HVp.out];rcases hat with h | h;exact .inl h;exact .inr (h.trans (by simp)));have hbn:Below W.heap.size W w9:=by
       refine Below.grown ?_ hgrow (by simp;have:=HB5.out.size;have:=Hs6.out;omega) (fun c hc=>by rw [←HVp.out] at hc;exact (Hrows.out.lt (p := .phis b) rfl c hc).1);refine Below.alloc ?_ (by have:=HB5.out.size;have:=Hs6.out;omega) _;exact (Hb.out.trans (HB5.out.mono hsz)).trans (Hk6.out.below fun c hc=>⟨by have:=HB5.out.size;omega,by have:=HPB.out;omega⟩)
      have Hnext:=hid hnext;have Hbn:=hid hbn;clear hown9 hgrow hat hnext hbn hz9;go_wp2_with fail;go_roundw
      case rel=>exact⟨k+1,_,va9,vc9,by omega,by go_num,rfl,updP_self _ _ _,Hnext.out,Hbn.out⟩
      case measure=>simp [intOf];omega
  · have hpk:p=k:=by omega
    subst hpk;have hphX:phisX x p=x:=by
     unfold phisX;rw [List.take_of_length_le (by rw [HN.out.1];exact Nat.le_refl _)]
    obtain⟨WA,hWA⟩:∃WA:World,WA=wo:=⟨_,rfl⟩
    subst hWA;have hr1:=Hrows.out;rw [hphX] at hr1;have Hr1:=hid hr1;have hbA:=hb;have c1:=cell_later' (by have h:=(cells_of (cs:=[_,_,_,_,_,_]) H0.out) 1 _ rfl;rw [Nat.zero_add] at h;exact h) hb;have zB:=cell_lt c1;have HWA:Hid (W.heap.size≤WA.heap.size):=hb.size;clear hphX hr1 hb hbA hk hkp Hrows;go_wp2_with fail;clear c1 zB;go_loopw [6,28] (fun s6 s28 wr=>∃(k:Nat) (V2:Pth→Value) (ua:Option Addr) (uc:Nat),k≤q∧s28 = .int .i64 (k:Int)∧s6 = .slice ua k uc∧V2 (.list b) = .slice ua k uc∧RowsAt wr WA.heap.size (okX2 b k) V2 (elX (listX x k) V2)∧Below WA.heap.size WA wr) (fun _ s28 _=>q - (intOf s28).toNat)
    case atStart=>exact⟨0,_,none,0,Nat.zero_le _,rfl,rfl,rfl,RowsAt.nilX2 _ _ _ _,Below.refl _ _⟩
    case round =>
     obtain⟨wo,hwo⟩:∃wo:World,wo=wr:=⟨_,rfl⟩
     subst hwo;obtain⟨k,V2,ua,uc,hk,rfl,rfl,hVl,hrows,hb⟩:=hrel;have Hrows:=hid hrows;have Hb2:=hid hb;have HVl:=hid hVl;have hsz2:=hb.size;clear hrows hVl
     by_cases hkq:k<q
     · have hkl:k<x.list.length:=by rw [HN.out.2.1];exact hkq
       obtain⟨y,hy⟩:∃y,x.list[k]?=some y:=⟨_,List.getElem?_eq_getElem hkl⟩
       obtain⟨gb,off,fa,fc,rfl,hcs,hin,hI⟩:=ins_at ((Hl.out.later rIns_mono (HbW.out.trans ((Hb.out.trans (hb.mono HWA.out)).mono HbW.out.size)))) hkl;have e9:x.list[k]=y:=by rw [List.getElem?_eq_getElem hkl] at hy;exact Option.some.inj hy
       rw [e9] at hcs hin;obtain⟨fn,hfn⟩:∃fn,fn=y.args.length:=⟨_,rfl⟩
       obtain⟨op,hop⟩:∃op,op=y.op:=⟨_,rfl⟩
       obtain⟨d,hd⟩:∃d,d=y.dst:=⟨_,rfl⟩
       obtain⟨ar,har⟩:∃ar,ar=y.a.reg:=⟨_,rfl⟩
       obtain⟨an,han⟩:∃an,an=y.a.n:=⟨_,rfl⟩
       obtain⟨br,hbr⟩:∃br,br=y.b.reg:=⟨_,rfl⟩
       obtain⟨bn,hbn⟩:∃bn,bn=y.b.n:=⟨_,rfl⟩
       obtain⟨yf,hyf⟩:∃yf,yf=y.fn:=⟨_,rfl⟩
       rw [←hfn,←hop,←hd,←har,←han,←hbr,←hbn,←hyf] at hcs;rw [←hfn] at hin;have hfn2:fn≤1048576:=by rw [hfn];exact Hsm.out.args y (List.mem_of_getElem? hy)
       obtain⟨d0,d1,d2,d3,d4,d5,d6,d7⟩:=hcs.get8;have zg:=cell_lt d0;have Hin:=hid hin;have Hy:=hid hy;have HD:Hid (fn=y.args.length∧cellsI y=fun u=>[.int .i64 op,.int .i64 d,.bool ar,.int .i64 an,.bool br,.int .i64 bn,.int .i64 yf,u]):=⟨hfn,by rw [hop,hd,har,han,hbr,hbn,hyf];rfl⟩
       clear hkl hy hin hI e9 hfn hop hd har han hbr hbn hyf hb hcs;go_upto_region 12 with (fail)
       obtain⟨PB,hPB⟩:∃PB,PB=wo.heap.size:=⟨_,rfl⟩
       obtain⟨W4,hW4⟩:∃W4,W4=wo.alloc (.cells #[.int .i64 op,.int .i64 d,.bool ar,.int .i64 an,.bool br,.int .i64 bn,.int .i64 yf,.slice fa fn fc] 80):=⟨_,rfl⟩
       have hl4:W4.heap[PB]?=some (.cells #[.int .i64 op,.int .i64 d,.bool ar,.int .i64 an,.bool br,.int .i64 bn,.int .i64 yf,.slice fa fn fc] 80 (0,0)):=by rw [hW4,hPB];exact heap_alloc_new _ _
       have hb4:Below wo.heap.size wo W4:=by rw [hW4];(repeat (first | exact Below.refl _ _ | refine Below.alloc ?_ (by first|omega|(simp<;>omega)) _ | refine Below.setCell ?_ (by first|omega|(simp<;>omega)) _ | refine below_drewN ?_ _ | refine Below.drew ?_))
       rw [←hW4,←hPB];have HPB:Hid (PB=wo.heap.size∧W4.heap.size=PB+1):=⟨hPB,by rw [hW4,hPB];simp⟩
       have p5:=(cells_of (cs:=[_,_,_,_,_,_,_,_]) hl4) 7 _ rfl;rw [Nat.zero_add] at p5;have zP:=cell_lt p5;have f5:=thawed hl4 7;have Hcl:=hid (cloneVals_src Hin.out hb4 hfn2);have Hl4:=hid hl4;have Hb4:=hid hb4;clear hPB hW4 hl4 hb4 d0 d1 d2 d3 d4 d5 d6 d7 zg;go_upto_region 13 with (go_at_call 104;refine Hcl.out.mono ?_;rintro e w5 ⟨sa,sc,rfl,hs5,hb5⟩;have Hs5:=hid hs5;have Hb5:=hid hb5;have p5:=cell_later' p5 hb5;have f5:=(hb5.frozen (p:=⟨PB,7,none⟩) zP).trans f5;have zP:=cell_lt p5;clear hs5 hb5)
       obtain⟨W6,hW6⟩:∃W6,W6=w5.setCell ⟨PB,7,none⟩ (.slice sa fn sc):=⟨_,rfl⟩
       have hl6:W6.heap[PB]?=some (.cells #[.int .i64 op,.int .i64 d,.bool ar,.int .i64 an,.bool br,.int .i64 bn,.int .i64 yf,.slice sa fn sc] 80 (0,0)):=by
        rw [hW6,heap_set_row (i:=7) ((Hb5.out.block PB (Array.getElem?_eq_some_iff.1 Hl4.out).1).trans Hl4.out)];rfl
       have hk6:Kp (fun c=>c≠PB) w5 W6:=by rw [hW6];exact kp_one _ _ _ _
       have hs6:W6.heap.size=w5.heap.size:=by rw [hW6];simp [World.setCell]
       rw [←hW6];obtain⟨m0,m1,m2,m3,m4,m5,m6,m7⟩:=(cells_of (cs:=[_,_,_,_,_,_,_,_]) hl6).get8;rw [Nat.zero_add] at m1 m2 m3 m4 m5 m6 m7;have zP6:=cell_lt m0;have HB5:Hid (Below wo.heap.size wo w5):=Hb4.out.trans (Hb5.out.mono Hb4.out.size);have Hk6:=hid hk6;have Hs6:=hid hs6;have hown6:W6.ownsRow WA.heap.size 80 8 (.slice ua k uc) k (elX (listX x k) V2 (.list b)).flatten:=by
        have h:=(RowsAt.kp (Hrows.out.later HB5.out) hk6 fun q' hq' c hc e=>by have:=(Hrows.out.lt hq' c hc).2;have:=HPB.out;omega).own (.list b) rfl;rw [HVl.out,show (elX (listX x k) V2 (.list b)).length=k by simp [elX,listX];have:=HN.out.2.1;omega] at h;exact h
       have Hown6:=hid hown6;clear hW6 hl6 hk6 hs6 p5 f5 zP hown6;go_wp2_with (at_builtin;refine wpList_append_own_at _ rfl _ _ 70 rfl WA.heap.size 80 ii (.agg #[.int .i64 0,.int .i64 0,.bool false,.int .i64 0,.bool false,.int .i64 0,.int .i64 0,.slice none 0 0]) 8 80 Tryz.underlying70 hii hiz0 hiz1 hiz2 rfl (by decide) (.slice ua k uc) k (elX (listX x k) V2 (.list b)).flatten rfl ?_ ⟨W6.heap.size,0,none⟩ 1 1 [.int .i64 op,.int .i64 d,.bool ar,.int .i64 an,.bool br,.int .i64 bn,.int .i64 yf,.slice sa fn sc] rfl rfl ?_ ?_ ?_ ?_ ?_ ?_)
       · exact ownsRow_later Hown6.out (by (repeat (first | exact Below.refl _ _ | refine Below.alloc ?_ (by first|omega|(simp<;>omega)) _ | refine Below.setCell ?_ (by first|omega|(simp<;>omega)) _ | refine below_drewN ?_ _ | refine Below.drew ?_)))
       · intro m u hu;exact new_cells _ _ _ rfl m u hu
       · intro u hu
         simp only [List.mem_cons,List.not_mem_nil,or_false] at hu;rcases hu with rfl | rfl | rfl | rfl | rfl | rfl | rfl | rfl <;> rfl
       · unfold maxLen;omega
       · omega
       · have:=HB5.out.size;have:=Hs6.out;simp;omega
       · intro v' w9 hown9 hgrow _ hat
         obtain⟨va9,vc9,rfl⟩:=ownsRow_shape hown9;have hnext:=rows_ins (sv := .slice sa fn sc) (fn:=fn) (PB:=PB) (v' := .slice va9 (k+1) vc9) Hrows.out Hy.out HB5.out Hs5.out HD.out.1.symm (by have:=HPB.out;omega) hsz2 ⟨by rw [HPB.out.1];exact Nat.le_refl _,by have:=HPB.out;omega⟩ (Hk6.out.trans (Kp.of (Below.alloc (Below.refl _ _) (Nat.le_refl _) _))) (by rw [HD.out.2];exact hown9) (by rw [HVl.out];exact hgrow) (by rw [HVl.out];rcases hat with h | h;exact .inl h;exact .inr (h.trans (by simp)));have hbn:Below WA.heap.size WA w9:=by
          refine Below.grown ?_ hgrow (by simp;have:=HB5.out.size;have:=Hs6.out;omega) (fun c hc=>by rw [←HVl.out] at hc;exact (Hrows.out.lt (p := .list b) rfl c hc).1);refine Below.alloc ?_ (by have:=HB5.out.size;have:=Hs6.out;omega) _;exact (Hb2.out.trans (HB5.out.mono hsz2)).trans (Hk6.out.below fun c hc=>⟨by have:=HB5.out.size;omega,by have:=HPB.out;omega⟩)
         have Hnext:=hid hnext;have Hbn:=hid hbn;clear hown9 hgrow hat hnext hbn;go_wp2_with fail;go_roundw
         case rel=>exact⟨k+1,_,va9,vc9,by omega,by go_num,rfl,updP_self _ _ _,Hnext.out,Hbn.out⟩
         case measure=>simp [intOf];omega
     · have hqk:q=k:=by omega
       subst hqk;have hlsX:listX x q=x:=by
        unfold listX;rw [List.take_of_length_le (by rw [HN.out.2.1];exact Nat.le_refl _)]
       have hr2:=Hrows.out;rw [hlsX] at hr2;have Hr2:=hid hr2;have hbo:Below W.heap.size W wo:=Hb.out.trans (hb.mono HWA.out);have hub:=(hbo.block UB (Array.getElem?_eq_some_iff.1 H0.out).1).trans H0.out;have huo:=(hbo.block UO (Array.getElem?_eq_some_iff.1 H1.out).1).trans H1.out;obtain⟨WB,hWB⟩:∃WB:World,WB=wo:=⟨_,rfl⟩
       subst hWB;obtain⟨c0,c1,c2,c3,c4,c5⟩:=(cells_of (cs:=[_,_,_,_,_,_]) hub).get6;rw [Nat.zero_add] at c1 c2 c3 c4 c5;have f0:=thawed hub 0;have f1:=thawed hub 1;have zB:=cell_lt c0;have Hub:=hid hub;have Huo:=hid huo;have Hbo:=hid hbo;have HWB:Hid (WA.heap.size≤WB.heap.size):=hb.size;clear hlsX hr2 hbo hub huo hb hk hkq Hrows;go_upto_region 16 with (fail)
       obtain⟨W7,hW7⟩:∃W7,W7=(WB.setCell ⟨UB,0,none⟩ (.slice va p vc)).setCell ⟨UB,1,none⟩ (.slice ua q uc):=⟨_,rfl⟩
       have hub7:W7.heap[UB]?=some (.cells #[.slice va p vc,.slice ua q uc,.int .i64 ek,.bool er,.int .i64 en,.slice ta tn tc] 76 (0,0)):=by
        rw [hW7,heap_set_row (i:=1) (heap_set_row (i:=0) Hub.out _)];rfl
       have hk7:Kp (fun c=>c≠UB) WB W7:=by rw [hW7];exact kp_more (kp_one _ _ _ _) _ _
       have hs7:W7.heap.size=WB.heap.size:=by rw [hW7];simp [World.setCell]
       have huo7:=(hk7.block UO (by have:=(Array.getElem?_eq_some_iff.1 Huo.out).1;omega) (by have:=HUs.out;omega)).trans Huo.out;rw [←hW7];have hb7:Below w.heap.size w W7:=by
        rw [hW7];have h1:w.heap.size≤UB:=by have:=HUs.out;omega
        exact ((HbW.out.trans (Hbo.out.mono HbW.out.size)).setCell (p:=⟨UB,0,none⟩) h1 _).setCell (p:=⟨UB,1,none⟩) h1 _
       have p5:=(cells_of (cs:=[_,_,_,_,_,_]) hub7) 5 _ rfl;rw [Nat.zero_add] at p5;have f5:=thawed hub7 5;have z7:=cell_lt p5;have Hct:=hid (cloneInts_src Ht.out hb7 ht2);have Hub7:=hid hub7;have Huo7:=hid huo7;have Hk7:=hid hk7;have Hs7:=hid hs7;have Hb7:=hid hb7;clear hW7 hub7 hk7 hs7 huo7 hb7 c0 c1 c2 c3 c4 c5 f0 f1 zB;go_upto_region 17 with (go_at_call 65;refine Hct.out.mono ?_;rintro e w8 ⟨xa,xc,rfl,ho8,hb8⟩;have Ho8:=hid ho8;have Hb8:=hid hb8;have p5:=cell_later' p5 hb8;have f5:=(hb8.frozen (p:=⟨UB,5,none⟩) z7).trans f5;have z7:=cell_lt p5;clear ho8 hb8)
       obtain⟨W9,hW9⟩:∃W9,W9=w8.setCell ⟨UB,5,none⟩ (.slice xa tn xc):=⟨_,rfl⟩
       have hub9:W9.heap[UB]?=some (.cells #[.slice va p vc,.slice ua q uc,.int .i64 ek,.bool er,.int .i64 en,.slice xa tn xc] 76 (0,0)):=by
        rw [hW9,heap_set_row (i:=5) ((Hb8.out.block UB (Array.getElem?_eq_some_iff.1 Hub7.out).1).trans Hub7.out)];rfl
       have hk9:Kp (fun c=>c≠UB) w8 W9:=by rw [hW9];exact kp_one _ _ _ _
       have hs9:W9.heap.size=w8.heap.size:=by rw [hW9];simp [World.setCell]
       have hne:¬UO=UB:=by have:=HUs.out;omega
       have huo9:=(hk9.block UO (by have:=(Array.getElem?_eq_some_iff.1 Huo7.out).1;have:=Hb8.out.size;omega) hne).trans ((Hb8.out.block UO (Array.getElem?_eq_some_iff.1 Huo7.out).1).trans Huo7.out);rw [←hW9];obtain⟨c0,c1,c2,c3,c4,c5⟩:=(cells_of (cs:=[_,_,_,_,_,_]) hub9).get6;obtain⟨o0,o1,o2,o3,o4,o5⟩:=(cells_of (cs:=[_,_,_,_,_,_]) huo9).get6;rw [Nat.zero_add] at c1 c2 c3 c4 c5 o1 o2 o3 o4 o5;have z0:=thawed huo9 0;have z1:=thawed huo9 1;have z2:=thawed huo9 2;have z3:=thawed huo9 3;have z4:=thawed huo9 4;have z5:=thawed huo9 5;have zB9:=cell_lt c0;have zO9:=cell_lt o0;have Huo9:=hid huo9;have Hk9:=hid hk9;have Hs9:=hid hs9;clear hW9 hub9 hk9 hs9 huo9 p5 f5 z7 hne;go_wp2_with fail;have hW5:=set6 (u0 := .slice va p vc) (u1 := .slice ua q uc) (u2 := .int .i64 ek) (u3 := .bool er) (u4 := .int .i64 en) (u5 := .slice xa tn xc) (cells_of (cs:=[_,_,_,_,_,_]) Huo9.out);refine bodyPost_ret (block_res1 rfl rfl hW5) rfl ⟨fun q=>if isT q=true then .slice xa tn xc else if isL q=true then V2 q else V q,?_,?_,?_⟩
       · show _=Ending.returned (.agg #[V (.phis b),V2 (.list b),_,_,_,.slice xa tn xc])
         rw [HVp.out,HVl.out]
       all_goals
        have hu:=HUs.out;have a1:=HWA.out;have a2:=HWB.out;have a3:=Hs7.out;have a4:=Hb8.out.size;have a5:=Hs9.out;have kO:Kp (fun c=>c≠UB∧c≠UO) W9 ((((((W9.setCell ⟨UO,0,none⟩ (.slice va p vc)).setCell ⟨UO,1,none⟩ (.slice ua q uc)).setCell ⟨UO,2,none⟩ (.int .i64 ek)).setCell ⟨UO,3,none⟩ (.bool er)).setCell ⟨UO,4,none⟩ (.int .i64 en)).setCell ⟨UO,5,none⟩ (.slice xa tn xc)) :=
         (kp_more (kp_more (kp_more (kp_more (kp_more (kp_one W9 UO 0 _) _ _) _ _) _ _) _ _) _ _).less fun c h=>h.2
        have k9:Kp (fun c=>c≠UB∧c≠UO) w8 W9:=Hk9.out.less fun c h=>h.1;have k7:Kp (fun c=>c≠UB∧c≠UO) WB W7:=Hk7.out.less fun c h=>h.1;have k78:Kp (fun c=>c≠UB∧c≠UO) W7 w8:=Kp.of Hb8.out
       · have hrr := rows_three (x := x) (by rw [HN.out.1]; exact Hr1.out) (by rw [HN.out.2.1]; exact Hr2.out) Ho8.out HN.out.2.2 ⟨a1, Nat.le_refl _⟩ ⟨by omega, by omega⟩
          (((((Kp.of (F:=fun c=>c≠UB∧c≠UO) Hb2.out).trans k7).trans k78).trans k9).trans kO) (((k7.trans k78).trans k9).trans kO) (k9.trans kO) (fun c hc=>by omega)
         exact RowsAt.low hrr (by omega)
       · have h1:w.heap.size≤UB:=by omega
         have h2:w.heap.size≤UO:=by omega
         have hb:=(Hb7.out.trans (Hb8.out.mono Hb7.out.size))
         have hb9:=hb.trans (Hk9.out.below fun c hc=>⟨by omega,by omega⟩);exact (((((hb9.setCell (p:=⟨UO,0,none⟩) h2 _).setCell (p:=⟨UO,1,none⟩) h2 _).setCell (p:=⟨UO,2,none⟩) h2 _).setCell (p:=⟨UO,3,none⟩) h2 _).setCell (p:=⟨UO,4,none⟩) h2 _).setCell (p:=⟨UO,5,none⟩) h2 _

end Go.Proofs.YtnkogppgacappaaGreatDoor
