/- A row of the call's own whose elements are turned one by one. No function of the program in sight. slices.IndexFunc and slices.DeleteFunc of instructions, with still.Do's closure. -/
import Derived.Test.YtnkogppgacappaaGreatDoorPLarge
import Derived.Test.YtnkogppgacappaaGreatDoorPGCopyL
import Derived.Test.YtnkogppgacappaaGreatDoorPFour
import Derived.Test.YtnkogppgacappaaGreatDoorPDelIns
import Derived.Test.YtnkogppgacappaaGreatDoorPNm3
namespace Go.Proofs.YtnkogppgacappaaGreatDoor
open Go.RowKit

structure Row1 (W:World)(base:Nat)(e:TypeId)(sz:Nat)(v:Value)(xss:List (List Value)):Prop where
 own:W.ownsRow base e sz v xss.length xss.flatten
 wid:∀cs∈xss,cs.length=sz
section
variable {W W' : World} {base : Nat} {e : TypeId} {sz : Nat} {v : Value} {xss : List (List Value)}
theorem Row1.lt(h:Row1 W base e sz v xss):∀k,v.ownBlock=some k→base≤k∧k<W.heap.size:=fun k hk=>h.own.lt k hk
theorem Row1.off(h:Row1 W base e sz v xss)(hk:Kp (fun b=>v.ownBlock=some b) W W'):Row1 W' base e sz v xss:=by
 refine⟨?_,h.wid⟩;refine⟨h.own.1,?_⟩;rcases h.own.2 with h1 | ⟨g,cap,cur,e1,h3,h4,h5⟩
 · exact .inl h1
 · exact .inr ⟨g,cap,cur,e1,h3,(hk.block g (Array.getElem?_eq_some_iff.1 h4).1 (by rw [e1];rfl)).trans h4,h5⟩
theorem Row1.at(h:Row1 W base e sz v xss){i:Nat}{cs:List Value}(hi:xss[i]?=some cs)(_h0:0<sz) :
 ∃g c,v = .slice (some ⟨g,0,none⟩) xss.length c∧xss.length≤c∧base≤g∧g<W.heap.size∧CellsAt W g (i * sz) cs∧∀o,W.frozen? ⟨g,o,none⟩=false:=by
 have hil:=(List.getElem?_eq_some_iff.1 hi).1;rcases h.own.2 with⟨h1,h2⟩ | ⟨g,cap,cur,e,h3,h4,h5,h6,h7,h8⟩
 · omega
 · refine⟨g,cap,e,h5,h3,(Array.getElem?_eq_some_iff.1 h4).1,fun j u hj=>?_,fun o=>by simp [World.frozen?,h4]⟩
   have hjl:j<sz:=by rw [←h.wid cs (List.mem_of_getElem? hi)];exact (List.getElem?_eq_some_iff.1 hj).1
   have hf:=flat_at xss (fun i cs hi=>h.wid cs (List.mem_of_getElem? hi)) i j cs hi hjl;rw [hj,←h8,List.getElem?_take] at hf;rw [cell_row h4];split at hf
   · simpa using hf
   · cases hf
theorem Row1.set(h:Row1 W base e sz v xss){g n c i j:Nat}(hv:v = .slice (some ⟨g,0,none⟩) n c){cs:List Value}(hi:xss[i]?=some cs)(hj:j<sz)(u:Value) :
 Row1 (W.setCell ⟨g,i * sz+j,none⟩ u) base e sz v (xss.set i (cs.set j u)):=by
 have hw:=h.wid;refine⟨?_,fun x hx=>?_⟩
 · obtain⟨h0,h1⟩:=h.own
   rw [flatten_set hw hi hj,List.length_set];refine⟨by simpa using h0,?_⟩;rcases h1 with⟨e,h2⟩ | ⟨g',cap,cur,e,h3,h4,h5,h6,h7,h8⟩
   · rw [e] at hv;cases hv
   · rw [e] at hv
     cases hv;refine .inr ⟨g,_,cur.setIfInBounds (i * sz+j) u,e,h3,heap_set_row h4 _,h5,h6,by simpa using h7,?_⟩;rw [Array.toList_setIfInBounds,List.take_set,h8]
 · rcases List.mem_or_eq_of_mem_set hx with h3 | h3
   · exact hw x h3
   · rw [h3,List.length_set];exact hw cs (List.mem_of_getElem? hi)
theorem Row1.set4(h:Row1 W base e 4 v xss){g n c i:Nat}(hv:v = .slice (some ⟨g,0,none⟩) n c)(hi:i<xss.length)(u0 u1 u2 u3:Value) :
 Row1 ((((W.setCell ⟨g,i * 4,none⟩ u0).setCell ⟨g,i * 4+1,none⟩ u1).setCell ⟨g,i * 4+2,none⟩ u2).setCell ⟨g,i * 4+3,none⟩ u3) base e 4 v (xss.set i [u0,u1,u2,u3]):=by
 have hx:=List.getElem?_eq_getElem hi;have hl:=h.wid _ (List.mem_of_getElem? hx)
 match hh:xss[i],hl with
 | [a0,a1,a2,a3],_ =>
   rw [hh] at hx;have s:∀cs:List Value,(xss.set i cs)[i]?=some cs:=fun cs=>List.getElem?_set_self hi;have r0:=h.set (j:=0) hv hx (by decide) u0;have r1:=r0.set (j:=1) hv (s _) (by decide) u1;rw [List.set_set] at r1;have r2:=r1.set (j:=2) hv (s _) (by decide) u2;rw [List.set_set] at r2;have r3:=r2.set (j:=3) hv (s _) (by decide) u3;rw [List.set_set] at r3;exact r3
end

structure ElSt {α:Type}(S D:Nat→Prop)(W:World)(base:Nat)(e:TypeId)(sz:Nat)(r:Rp α)(f:α→α)(v:Value)(l:List α)(k:Nat)(xss:List (List Value)):Prop where
 row:Row1 W base e sz v xss
 len:xss.length=l.length
 low:∀b,D b→base≤b∧b<W.heap.size∧v.ownBlock≠some b
 done:∀(i:Nat) cs x,i<k→xss[i]?=some cs→l[i]?=some x→r D W cs (f x)
 rest:∀(i:Nat) cs x,k≤i→xss[i]?=some cs→l[i]?=some x→r S W cs x
section
variable {α : Type} {S D : Nat → Prop} {W W' : World} {base : Nat} {e : TypeId} {sz : Nat} {r : Rp α} {f : α → α} {v : Value} {l : List α} {k : Nat} {xss : List (List Value)}
theorem ElSt.later(hr:r.Mono)(h:ElSt S D W base e sz r f v l k xss)(hb:Below W.heap.size W W'):ElSt S D W' base e sz r f v l k xss :=
 ⟨h.row.off (Kp.of hb), h.len, fun b hd => ⟨(h.low b hd).1, Nat.lt_of_lt_of_le (h.low b hd).2.1 hb.size, (h.low b hd).2.2⟩,
   fun i cs x h1 h2 h3 => hr.out _ _ _ _ _ _ (fun _ h => h) (Stays.below' hb) (h.done i cs x h1 h2 h3), fun i cs x h1 h2 h3 => hr.out _ _ _ _ _ _ (fun _ h => h) (Stays.below' hb) (h.rest i cs x h1 h2 h3)⟩
theorem ElSt.kp(hr:r.Mono)(h:ElSt S D W base e sz r f v l k xss){F:Nat→Prop}(hk:Kp F W W')(hv:∀b,v.ownBlock=some b→F b)(hD:∀b,D b→F b)(hS:∀b,S b→F b):ElSt S D W' base e sz r f v l k xss :=
 ⟨h.row.off (hk.less hv), h.len, fun b hd => ⟨(h.low b hd).1, Nat.lt_of_lt_of_le (h.low b hd).2.1 hk.size, (h.low b hd).2.2⟩,
   fun i cs x h1 h2 h3 => hr.out _ _ _ _ _ _ (fun _ h => h) (hk.stays hD) (h.done i cs x h1 h2 h3), fun i cs x h1 h2 h3 => hr.out _ _ _ _ _ _ (fun _ h => h) (hk.stays hS) (h.rest i cs x h1 h2 h3)⟩
theorem ElSt.get(h:ElSt S D W base e sz r f v l k xss)(h0:0<sz){x:α}(hx:l[k]?=some x) :
 ∃g c cs,v = .slice (some ⟨g,0,none⟩) l.length c∧base≤g∧g<W.heap.size∧xss[k]?=some cs∧CellsAt W g (k * sz) cs∧r S W cs x∧∀o,W.frozen? ⟨g,o,none⟩=false:=by
 have hk:k<xss.length:=by rw [h.len];exact (List.getElem?_eq_some_iff.1 hx).1
 have hc:=List.getElem?_eq_getElem hk;obtain⟨g,c,e1,-,h2,h3,h4,h5⟩:=h.row.at hc h0;rw [h.len] at e1;exact⟨g,c,_,e1,h2,h3,hc,h4,h.rest k _ x (Nat.le_refl _) hc hx,h5⟩
theorem ElSt.next (hr : r.Mono) (h : ElSt S D W base e sz r f v l k xss) {D' : Nat → Prop} {g n c : Nat} (hv : v = .slice (some ⟨g, 0, none⟩) n c) {cs' : List Value} {x : α} (hx : l[k]? = some x) (hrow : Row1 W' base e sz v (xss.set k cs')) (hk : Kp (fun b => b ≠ g) W W')
 (hS:∀b,S b→b≠g) (hD:∀b,D b→D' b) (hD':∀b,D' b→base≤b∧b<W'.heap.size∧b≠g) (hx':r D' W' cs' (f x)):ElSt S D' W' base e sz r f v l (k+1) (xss.set k cs'):=by
 have hkl:k<xss.length:=by rw [h.len];exact (List.getElem?_eq_some_iff.1 hx).1
 refine⟨hrow,by rw [List.length_set];exact h.len,fun b hb=>⟨(hD' b hb).1,(hD' b hb).2.1,fun e=>(hD' b hb).2.2 (by rw [hv] at e;exact (Option.some.inj e).symm)⟩,fun i cs y h1 h2 h3=>?_,fun i cs y h1 h2 h3=>?_⟩
 · by_cases e:k=i
   · subst e
     rw [List.getElem?_set_self hkl] at h2;rw [hx] at h3;cases h2;cases h3;exact hx'
   · rw [List.getElem?_set_ne e] at h2
     exact hr.out _ _ _ _ _ _ hD (hk.stays fun b hb=>(hD' b (hD b hb)).2.2) (h.done i cs y (by omega) h2 h3)
 · rw [List.getElem?_set_ne (by omega)] at h2
   exact hr.out _ _ _ _ _ _ (fun _ h=>h) (hk.stays hS) (h.rest i cs y (by omega) h2 h3)
theorem ElSt.read(hr:r.Mono)(h0:0<sz)(h:ElSt S D W base e sz r f v l l.length xss):SlAt (fun b=>base≤b∧b<W.heap.size) W sz r v (l.map f):=by
 rcases h.row.own.2 with⟨h1,h2⟩ | ⟨g,cap,cur,e1,h3,h4,h5,h6,h7,h8⟩
 · have hl:l=[]:=List.eq_nil_of_length_eq_zero (by rw [←h.len];exact h2)
   subst hl;exact⟨none,0,h1,Nat.le_refl _,by decide,fun h=>absurd rfl h⟩
 · unfold maxLen at h6
   refine⟨some ⟨g,0,none⟩,cap,by rw [e1,List.length_map,h.len],by rw [List.length_map];have:=h.len;omega,by omega,fun _=>⟨g,0,rfl,⟨h3,(Array.getElem?_eq_some_iff.1 h4).1⟩,fun i x hx=>?_⟩⟩;have hi:i<l.length:=by have h9:=(List.getElem?_eq_some_iff.1 hx).1;rw [List.length_map] at h9;exact h9
   have hxi:i<xss.length:=by rw [h.len];exact hi
   have hc:=List.getElem?_eq_getElem hxi;rw [List.getElem?_map,List.getElem?_eq_getElem hi] at hx;cases hx;have hd:=h.done i _ _ hi hc (List.getElem?_eq_getElem hi);obtain⟨g',c',e2,-,-,-,hcs,-⟩:=h.row.at hc h0;rw [e1] at e2;cases e2;refine⟨_,hr.out _ _ _ _ _ _ (fun b hb=>⟨(h.low b hb).1,(h.low b hb).2.1⟩) (Stays.refl _ _) hd,h.row.wid _ (List.mem_of_getElem? hc),?_⟩;rw [Nat.zero_add];exact hcs
end
theorem NumB_of {S:Nat→Prop}{w:World}{cs:List Value}{x:DBlock}(h:rBlock S w cs x):NumB x:=by
 have all:∀{α:Type} {r:Rp α} {v:Value} {sz:Nat} {l:List α},SlAt S w sz r v l→∀x∈l,∃cs,r S w cs x:=fun h x hx=>by
  obtain⟨ao,c,-,-,-,h4⟩:=h;obtain⟨b,off,-,-,h7⟩:=h4 (fun e=>by rw [e] at hx;cases hx);obtain⟨i,hi,rfl⟩:=List.getElem_of_mem hx;obtain⟨cs,h8,-⟩:=h7 i _ (List.getElem?_eq_getElem hi);exact⟨cs,h8⟩
 obtain⟨p,l,e,-,hp,hl,he⟩:=h;obtain⟨tv,-,ht,hk,ho⟩:=he;refine⟨hk,ho,fun t h=>?_,fun q hq=>?_,fun y hy=>?_⟩
 · obtain⟨cs,h1,h2⟩:=all ht t h
   exact h2
 · obtain⟨cs,sv,-,hs,hd⟩:=all hp q hq
   refine⟨hd,fun v hv=>?_⟩;obtain⟨cs,-,h2⟩:=all hs v hv;exact h2
 · obtain⟨cs,av,-,ha,h1,h2,h3,h4,h5⟩:=all hl y hy
   refine⟨h1,h2,h3,h4,h5,fun v hv=>?_⟩;obtain⟨cs,-,h6⟩:=all ha v hv;exact h6
theorem NumU_of {S:Nat→Prop}{w:World}{v:Value}{gs:List DGlobal}{fs:List DFunc}(h:SlAt S w 4 rFunc v fs):NumU ⟨gs,fs⟩:=fun f hf x hx=>by
 obtain⟨ao,c,-,-,-,h4⟩:=h;obtain⟨b,off,-,-,h7⟩:=h4 (fun e=>by rw [show fs=[] from e] at hf;cases hf);obtain⟨i,hi,rfl⟩:=List.getElem_of_mem (show f∈fs from hf);obtain⟨cs,⟨bv,-,hb,-⟩,-⟩:=h7 i _ (List.getElem?_eq_getElem hi);obtain⟨ao2,c2,-,-,-,g4⟩:=hb;obtain⟨b2,off2,-,-,g7⟩:=g4 (fun e=>by rw [e] at hx;cases hx);obtain⟨j,hj,rfl⟩:=List.getElem_of_mem hx;obtain⟨cs2,hc2,-⟩:=g7 j _ (List.getElem?_eq_getElem hj);exact NumB_of hc2

end Go.Proofs.YtnkogppgacappaaGreatDoor

namespace Go.Proofs.YtnkogppgacappaaGreatDoor
open Go.RowKit

theorem eight {l:List Value}(h:l.length=8):∃a0 a1 a2 a3 a4 a5 a6 a7,l=[a0,a1,a2,a3,a4,a5,a6,a7]:=by
 match l,h with
 | [a0,a1,a2,a3,a4,a5,a6,a7],_=>exact⟨a0,a1,a2,a3,a4,a5,a6,a7,rfl⟩
def idxP(E:List (List Value))(P:List Value→Bool):Int:=match E.findIdx? P with | some k=>k | none => -1
def DelC(P:List Value→Bool)(c1 c2:Value)(E:List (List Value))(w:World):Prop :=
 ∀a0 a1 a2 a3 a4 a5 a6 a7,[a0,a1,a2,a3,a4,a5,a6,a7]∈E→Calls Tryz.prog 38 #[.agg #[a0,a1,a2,a3,a4,a5,a6,a7],c1,c2] w fun e w'=>e = .returned (.bool (P [a0,a1,a2,a3,a4,a5,a6,a7]))∧Below w.heap.size w w'

set_option maxRecDepth 100000 in
set_option maxHeartbeats 2000000 in
theorem insIndex_any(base:Nat)(a:Option Addr)(n c:Nat)(E:List (List Value))(w:World)(hr:Row1 w base 80 8 (.slice a n c) E)(hE:E.length=n)(hn:n≤1048576)(P:List Value→Bool)(c1 c2:Value)(HC:∀w',Below w.heap.size w w'→DelC P c1 c2 E w') :
 Calls Tryz.prog 67 #[.slice a n c,.func (.func 38) #[] #[c1,c2]] w fun e w'=>e = .returned (.int .i64 (idxP E P))∧Below w.heap.size w w':=by
 have Hr:=hid hr;have HC:=hid HC;have HE:=hid hE;clear hr hE;go_enter Tryz.func67,Tryz.ntmps67;go_wp2_with fail;go_loopw [8] (fun s8 wr=>∃k:Nat,k≤n∧s8 = .int .i64 (k:Int)∧(∀(j:Nat) x,j<k→E[j]?=some x→P x=false)∧Below w.heap.size w wr) (fun s8 _=>n - (intOf s8).toNat)
 case atStart=>exact⟨0,Nat.zero_le _,rfl,fun j x hj=>by omega,Below.refl _ _⟩
 case round =>
  obtain⟨k,hk,rfl,hall,hb⟩:=hrel;have Hall:=hid hall;have Hb:=hid hb;clear hall hb
  by_cases hkn:k<n
  · have hkl:k<E.length:=by rw [HE.out];exact hkn
    obtain⟨cs,hcs⟩:∃cs,E[k]?=some cs:=⟨_,List.getElem?_eq_getElem hkl⟩
    have hmem:=List.mem_of_getElem? hcs;obtain⟨a0,a1,a2,a3,a4,a5,a6,a7,rfl⟩:=eight (Hr.out.wid cs hmem);obtain⟨g,c',hv,-,-,-,hat,-⟩:=(Hr.out.off (Kp.of Hb.out)).at hcs (by decide);have ha:a=some ⟨g,0,none⟩:=by injection hv
    subst ha;obtain⟨d0,d1,d2,d3,d4,d5,d6,d7⟩:=hat.get8;have zg:=cell_lt d0;have Hcall:=hid (HC.out wr Hb.out a0 a1 a2 a3 a4 a5 a6 a7 hmem);have Hcs:=hid hcs;clear hkl hcs hmem hv hat
    by_cases hP:P [a0,a1,a2,a3,a4,a5,a6,a7]=true
    · have hi:idxP E P=(k:Int):=by
       unfold idxP;rw [idx_some Hcs.out hP fun j hj x hx=>Hall.out j x hj hx]
      have Hi:=hid hi;have HP:=hid hP;clear hi hP;go_wp2_with (go_at_call 38;refine Hcall.out.mono ?_;rintro e w2 ⟨rfl,hb2⟩;rw [HP.out]);go_ret;exact⟨ret_int Hi.out.symm,Hb.out.trans (hb2.mono Hb.out.size)⟩
    · have hP0:P [a0,a1,a2,a3,a4,a5,a6,a7]=false:=by simpa using hP
      have HP:=hid hP0;clear hP hP0;go_wp2_with (go_at_call 38;refine Hcall.out.mono ?_;rintro e w2 ⟨rfl,hb2⟩;rw [HP.out]);go_roundw
      case rel =>
       refine⟨k+1,by omega,by go_num,fun j x hj hx=>?_,Hb.out.trans (hb2.mono Hb.out.size)⟩;rcases Nat.lt_succ_iff_lt_or_eq.1 hj with h | h
       · exact Hall.out j x h hx
       · subst h;rw [Hcs.out] at hx;cases hx;exact HP.out
      case measure=>simp [intOf];omega
  · have hi:idxP E P = -1:=by
     unfold idxP;rw [idx_none fun j x hx=>Hall.out j x (by have h1:=(List.getElem?_eq_some_iff.1 hx).1;have:=HE.out;omega) hx]
    have Hi:=hid hi;clear hi;go_wp2_with fail;go_ret;exact⟨ret_int Hi.out.symm,Hb.out⟩

theorem Row1.set8 {W:World}{base:Nat}{e:TypeId}{v:Value}{xss:List (List Value)}(h:Row1 W base e 8 v xss){g n c i:Nat}(hv:v = .slice (some ⟨g,0,none⟩) n c)(hi:i<xss.length)(u0 u1 u2 u3 u4 u5 u6 u7:Value) :
 Row1 ((((((((W.setCell ⟨g,i * 8,none⟩ u0).setCell ⟨g,i * 8+1,none⟩ u1).setCell ⟨g,i * 8+2,none⟩ u2).setCell ⟨g,i * 8+3,none⟩ u3).setCell ⟨g,i * 8+4,none⟩ u4).setCell ⟨g,i * 8+5,none⟩ u5).setCell ⟨g,i * 8+6,none⟩ u6).setCell ⟨g,i * 8+7,none⟩ u7) base e 8 v (xss.set i [u0,u1,u2,u3,u4,u5,u6,u7]):=by
 have hx:=List.getElem?_eq_getElem hi;obtain⟨a0,a1,a2,a3,a4,a5,a6,a7,hh⟩:=eight (h.wid _ (List.mem_of_getElem? hx));rw [hh] at hx;have s:∀cs:List Value,(xss.set i cs)[i]?=some cs:=fun cs=>List.getElem?_set_self hi;have r0:=h.set (j:=0) hv hx (by decide) u0;have r1:=r0.set (j:=1) hv (s _) (by decide) u1;rw [List.set_set] at r1;have r2:=r1.set (j:=2) hv (s _) (by decide) u2;rw [List.set_set] at r2;have r3:=r2.set (j:=3) hv (s _) (by decide) u3;rw [List.set_set] at r3;have r4:=r3.set (j:=4) hv (s _) (by decide) u4;rw [List.set_set] at r4;have r5:=r4.set (j:=5) hv (s _) (by decide) u5;rw [List.set_set] at r5;have r6:=r5.set (j:=6) hv (s _) (by decide) u6;rw [List.set_set] at r6;have r7:=r6.set (j:=7) hv (s _) (by decide) u7;rw [List.set_set] at r7;exact r7
theorem run_clear_many {Q : Program} {w : World} (t e ty : TypeId) (z : Value) (zs : List Value) (ht : Q.underlying t = some (.slice e)) (hv : ∀ w, (zeroValue e).run Q w = .ok z w) (hz : z.cells = zs.toArray) (h1 : ∀ u ∈ zs, u.oneCell' = true) (h0 : 0 < zs.length)
 (g o c m:Nat) {T:TypeId} {cur:List Value} (hr:rowOf w g T cur) (hfit:o+m * zs.length≤cur.length) :
 (Builtin.zeroCells zs.toArray m).toList.length=m * zs.length∧(Builtin.clear_ #[t] ty #[.slice (some ⟨g,o,none⟩) m c]).run Q w = .ok (.tuple #[]) (w.setRow g (splice cur o (Builtin.zeroCells zs.toArray m).toList).toArray):=by
 have hlen:(Builtin.zeroCells zs.toArray m).toList.length=m * zs.length:=by simp [Builtin.zeroCells]
 have hone:∀u∈(Builtin.zeroCells zs.toArray m).toList,u.oneCell'=true:=fun u hu=>by
  simp only [Builtin.zeroCells,List.size_toArray,Array.toList_map,List.mem_map,Array.toList_range,List.mem_range] at hu;obtain⟨k,hk,rfl⟩:=hu;have hk2:k % zs.length<zs.length:=Nat.mod_lt _ h0;have e:(zs.toArray)[k % zs.length]! = zs[k % zs.length]:=by simp [hk2]
  rw [e];exact h1 _ (List.getElem_mem hk2)
 have hst:=run_storeCells_at Q g o T (Builtin.zeroCells zs.toArray m).toList 0 cur.toArray w hr (by rw [hlen];simpa using hfit) hone;refine⟨hlen,?_⟩;rw [splice_list];simp only [Nat.add_zero] at hst;cases m with
 | zero =>
   have e0:(Builtin.zeroCells zs.toArray 0).toList=[]:=by simp [Builtin.zeroCells]
   rw [e0,List.append_nil,List.length_nil,Nat.add_zero,List.take_append_drop,setRow_self w g cur.toArray T (0,0) hr];simp [Builtin.clear_,run_underlying ht]
 | succ m=>simp [Builtin.clear_,run_underlying ht,hv,hz,hst]
theorem clear_own {W:World}{base n c i g:Nat}{xss:List (List Value)}(h:Row1 W base 80 8 (.slice (some ⟨g,0,none⟩) n c) xss)(hn:xss.length=n)(hi:i≤n) :
 ∃c2:Array Value,(∀ty cc,(Builtin.clear_ #[70] ty #[.slice (some ⟨g,i * 8,none⟩) (n - i) cc]).run Tryz.prog W = .ok (.tuple #[]) (W.setRow g c2))∧(W.setRow g c2).ownsRow base 80 8 (.slice (some ⟨g,0,none⟩) i c) i (xss.take i).flatten:=by
 subst hn;rcases h.own.2 with⟨e,-⟩ | ⟨g',cap,cur,e,h3,h4,h5,h6,h7,h8⟩
 · cases e
 · cases e
   have hr:rowOf W g 80 cur.toList:=by unfold rowOf;simpa using h4
   have hcl:cur.toList.length=c * 8:=by simpa using h7
   have key:∀ty cc,_:=fun ty cc =>
    run_clear_many (Q := Tryz.prog) (w := W) 70 80 ty (.agg #[.int .i64 0, .int .i64 0, .bool false, .int .i64 0, .bool false, .int .i64 0, .int .i64 0, .slice none 0 0]) [.int .i64 0, .int .i64 0, .bool false, .int .i64 0, .bool false, .int .i64 0, .int .i64 0, .slice none 0 0] Tryz.underlying70 Tryz.zeroValue80 rfl (fun u hu => by
     simp only [List.mem_cons, List.not_mem_nil, or_false] at hu
     rcases hu with rfl | rfl | rfl | rfl | rfl | rfl | rfl | rfl <;> rfl) (by decide) g (i * 8) cc (xss.length - i) hr (by rw [hcl]; show i * 8 + (xss.length - i) * 8 ≤ c * 8; omega)
   have hz:=(key 0 0).1;have hz2:(Builtin.zeroCells [Value.int .i64 0,.int .i64 0,.bool false,.int .i64 0,.bool false,.int .i64 0,.int .i64 0,.slice none 0 0].toArray (xss.length - i)).toList.length=(xss.length - i) * 8:=hz;refine⟨_,fun ty cc=>(key ty cc).2,?_⟩;have hfl:(xss.take i).flatten.length=i * 8:=by
    rw [flat_len (sz:=8) (xss.take i) (fun j cs hj=>h.wid cs (List.mem_of_mem_take (List.mem_of_getElem? hj))),List.length_take,Nat.min_eq_left hi]
   refine⟨hfl,.inr ⟨g,c,_,rfl,h3,setRow_heap W g _ _ _ _ h4,by omega,h6,?_,?_⟩⟩
   · simp only [List.size_toArray,splice_list,List.length_append,List.length_take,List.length_drop,hz2,hcl]
     omega
   · rw [splice_list]
     have hsp:cur.toList.take (xss.length * 8)=(xss.take i).flatten++(xss.drop i).flatten:=by
      rw [h8,←List.flatten_append,List.take_append_drop]
     have htk:cur.toList.take (i * 8)=(xss.take i).flatten:=by
      have h9:=congrArg (List.take (i * 8)) hsp;rw [List.take_take,Nat.min_eq_left (show i * 8≤xss.length * 8 by omega),List.take_append_of_le_length (Nat.le_of_eq hfl.symm),←hfl,List.take_length] at h9;rw [←hfl];exact h9
     simp only [List.append_assoc];rw [List.take_append_of_le_length (by rw [List.length_take,hcl];omega),List.take_take,Nat.min_self];exact htk

def InsSh(cs:List Value):Prop:=∃(o d:Int) (ar:Bool) (an:Int) (br:Bool) (bn yf:Int) (s:Option Addr) (m k:Nat),cs=[.int .i64 o,.int .i64 d,.bool ar,.int .i64 an,.bool br,.int .i64 bn,.int .i64 yf,.slice s m k]
def keptP(P:List Value→Bool)(E:List (List Value)):List (List Value):=E.filter fun x=>!P x
structure DelSt (E xss:List (List Value))(P:List Value→Bool)(i j:Nat):Prop where
 len:xss.length=E.length
 front:xss.take i=keptP P (E.take j)
 cnt:(keptP P (E.take j)).length=i
 rest:xss.drop j=E.drop j
section
variable {E xss : List (List Value)} {P : List Value → Bool} {i j : Nat}
theorem DelSt.le(h:DelSt E xss P i j):i≤j:=by
 have h1:=h.cnt;have h2:=List.length_filter_le (fun x=>!P x) (E.take j);rw [List.length_take] at h2;unfold keptP at h1;omega
theorem DelSt.at(h:DelSt E xss P i j)(_hj:j<E.length):xss[j]?=E[j]?:=by
 have h1:=congrArg (·[0]?) h.rest;simp only [List.getElem?_drop,Nat.add_zero] at h1;exact h1
theorem keptP_snoc(_hj:j<E.length){x:List Value}(hx:E[j]?=some x):keptP P (E.take (j+1))=keptP P (E.take j)++if P x=true then [] else [x]:=by
 unfold keptP;rw [List.take_add_one,hx,List.filter_append]
 congr 1
 cases h:P x <;> simp [h]
theorem DelSt.skip(h:DelSt E xss P i j)(hj:j<E.length){x:List Value}(hx:E[j]?=some x)(hP:P x=true):DelSt E xss P i (j+1):=by
 have e:=keptP_snoc (P:=P) hj hx;rw [if_pos hP,List.append_nil] at e;exact⟨h.len,by rw [e];exact h.front,by rw [e];exact h.cnt,by rw [←List.drop_drop,←List.drop_drop,h.rest]⟩
theorem DelSt.keep(h:DelSt E xss P i j)(hj:j<E.length){x:List Value}(hx:E[j]?=some x)(hP:P x=false):DelSt E (xss.set i x) P (i+1) (j+1):=by
 have hij:=h.le;have e:=keptP_snoc (P:=P) hj hx;rw [if_neg (by rw [hP];simp)] at e;have hil:i<xss.length:=by rw [h.len];omega
 refine⟨by rw [List.length_set];exact h.len,?_,by rw [e,List.length_append,h.cnt];rfl,?_⟩
 · rw [e,←h.front,List.take_add_one,List.getElem?_set_self hil,List.take_set,List.set_eq_of_length_le (by rw [List.length_take];omega)];rfl
 · rw [List.drop_set_of_lt (by omega),←List.drop_drop,←List.drop_drop,h.rest]
theorem DelSt.start(hE:E.findIdx? P=some i):DelSt E E P i (i+1):=by
 rw [List.findIdx?_eq_some_iff_getElem] at hE;obtain⟨hi,h1,h2⟩:=hE;have h3:keptP P (E.take i)=E.take i:=by
  unfold keptP;refine List.filter_eq_self.2 fun a ha=>?_;obtain⟨k,hk,rfl⟩:=List.getElem_of_mem ha;rw [List.length_take] at hk;have:=h2 k (by omega);rw [List.getElem_take];simpa using this
 have e:=keptP_snoc (P:=P) hi (List.getElem?_eq_getElem hi);rw [if_pos h1,List.append_nil,h3] at e;exact⟨rfl,by rw [e],by rw [e,List.length_take];omega,rfl⟩
end

theorem kp_row(w:World)(g:Nat){n c:Nat}(cs:Array Value):Kp (fun b=>(Value.slice (some ⟨g,0,none⟩) n c).ownBlock≠some b) w (w.setRow g cs) :=
 have h:=grownBy_setRow w g cs
 ⟨h.os,h.tape,h.output,h.size,fun b hb hf=>h.block b hb (fun e=>hf e.symm)⟩

set_option maxRecDepth 100000 in
set_option maxHeartbeats 4000000 in
theorem insDelete_any(base:Nat)(a:Option Addr)(n c:Nat)(E:List (List Value))(w:World)(hr:Row1 w base 80 8 (.slice a n c) E)(hE:E.length=n)(hn:n≤1048576)(hS:∀cs∈E,InsSh cs)(P:List Value→Bool)(c1 c2:Value)(HC:∀w',Kp (fun b=>(Value.slice a n c).ownBlock≠some b) w w'→DelC P c1 c2 E w') :
 Calls Tryz.prog 37 #[.slice a n c,.func (.func 38) #[] #[c1,c2]] w fun e w'=>∃m,m=(keptP P E).length∧e = .returned (.slice a m c) ∧
  Row1 w' base 80 8 (.slice a m c) (keptP P E)∧Kp (fun b=>(Value.slice a n c).ownBlock≠some b) w w':=by
 have hix:=insIndex_any base a n c E w hr hE hn P c1 c2 (fun w' h=>HC w' (Kp.of h));have Hr:=hid hr;have HC:=hid HC;have HE:=hid hE;have HS:=hid hS;obtain⟨ix,hixe⟩:∃ix,ix=idxP E P:=⟨_,rfl⟩
 rw [←hixe] at hix;have Hix:=hid hix;have Hixe:=hid hixe;clear hr hE hS hix hixe;go_enter Tryz.func37,Tryz.ntmps37;cases hf:E.findIdx? P with
 | none =>
   have hi:ix = -1:=by rw [Hixe.out];unfold idxP;rw [hf]
   subst hi;have hkeep:keptP P E=E:=by
    unfold keptP;rw [List.findIdx?_eq_none_iff] at hf;exact List.filter_eq_self.2 fun x hx=>by rw [hf x hx];rfl
   have Hkeep:=hid hkeep;clear hf hkeep;go_wp2_with (go_at_call 67;refine Hix.out.mono ?_;rintro e w2 ⟨rfl,hb2⟩;have Hb2:=hid hb2;clear hb2);go_ret;refine⟨n,?_,rfl,?_,Kp.of Hb2.out⟩
   · rw [Hkeep.out];exact HE.out.symm
   · rw [Hkeep.out];exact Hr.out.off (Kp.of Hb2.out)
 | some k =>
   have hi:ix=(k:Int):=by rw [Hixe.out];unfold idxP;rw [hf]
   subst hi;have hst0:=DelSt.start hf;have hkn:k<n:=by
    rw [List.findIdx?_eq_some_iff_getElem] at hf;rw [←HE.out];exact hf.1
   have Hst0:=hid hst0;obtain⟨g,hg⟩:∃g,a=some ⟨g,0,none⟩:=by
    obtain⟨g,c',hv,-⟩:=Hr.out.at (i:=0) (List.getElem?_eq_getElem (by rw [HE.out];omega)) (by decide)
    exact⟨g,by injection hv⟩
   subst hg;have hnc:n≤c:=by
    rcases Hr.out.own.2 with⟨e,-⟩ | ⟨g',cap,cur,e,-,-,h5,-⟩
    · cases e
    · cases e;rw [HE.out] at h5;exact h5
   have hcm:c≤9223372036854775807:=by
    rcases Hr.out.own.2 with⟨e,-⟩ | ⟨g',cap,cur,e,-,-,-,h6,-⟩
    · cases e
    · cases e;unfold maxLen at h6;omega
   clear hf hst0;go_wp2_with (go_at_call 67;refine Hix.out.mono ?_;rintro e w2 ⟨rfl,hb2⟩;have Hb2:=hid hb2;clear hb2);go_loopw [5,6] (fun s5 s6 wr=>∃(i j:Nat) (xss:List (List Value)),s5 = .int .i64 (i:Int)∧s6 = .int .i64 (j:Int)∧j≤n∧i<j∧DelSt E xss P i j∧Row1 wr base 80 8 (.slice (some ⟨g,0,none⟩) n c) xss∧Kp (fun b=>(Value.slice (some ⟨g,0,none⟩) n c).ownBlock≠some b) w wr) (fun _ s6 _=>n - (intOf s6).toNat)
   case atStart=>exact⟨k,k+1,E,rfl,by go_num,by omega,by omega,Hst0.out,Hr.out.off (Kp.of Hb2.out),Kp.of Hb2.out⟩
   case round =>
    obtain⟨wo,hwo⟩:∃wo:World,wo=wr:=⟨_,rfl⟩
    subst hwo;obtain⟨i,j,xss,rfl,rfl,hjn,hij,hst,hrow,hkp⟩:=hrel;have Hst:=hid hst;have Hrow:=hid hrow;have Hkp:=hid hkp;clear hst hrow hkp
    by_cases hjl:j<n
    · have hjE:j<E.length:=by rw [HE.out];exact hjl
      obtain⟨cs,hcs⟩:∃cs,E[j]?=some cs:=⟨_,List.getElem?_eq_getElem hjE⟩
      have hmem:=List.mem_of_getElem? hcs;obtain⟨v0,v1,v2,v3,v4,v5,v6,vs,vm,vk,rfl⟩:=HS.out cs hmem;have hxj:xss[j]?=some [.int .i64 v0,.int .i64 v1,.bool v2,.int .i64 v3,.bool v4,.int .i64 v5,.int .i64 v6,.slice vs vm vk]:=(Hst.out.at hjE).trans hcs;obtain⟨g',c',hv,-,-,-,hat,-⟩:=Hrow.out.at hxj (by decide);have hg':g=g':=by injection hv with e1;injection e1 with e2;injection e2
      subst hg';obtain⟨d0,d1,d2,d3,d4,d5,d6,d7⟩:=hat.get8;have zg:=cell_lt d0;have Hcs:=hid hcs;have Hmem:=hid hmem;have HjE:=hid hjE;clear hjE hcs hmem hxj hv hat;go_upto_region 8 with (fail)
      obtain⟨BB,hBB⟩:∃BB,BB=wo.heap.size:=⟨_,rfl⟩
      obtain⟨W4,hW4⟩:∃W4,W4=wo.alloc (.cells #[.int .i64 v0,.int .i64 v1,.bool v2,.int .i64 v3,.bool v4,.int .i64 v5,.int .i64 v6,.slice vs vm vk] 80):=⟨_,rfl⟩
      have hl4:W4.heap[BB]?=some (.cells #[.int .i64 v0,.int .i64 v1,.bool v2,.int .i64 v3,.bool v4,.int .i64 v5,.int .i64 v6,.slice vs vm vk] 80 (0,0)):=by rw [hW4,hBB];exact heap_alloc_new _ _
      have hb4:Below wo.heap.size wo W4:=by rw [hW4];(repeat (first | exact Below.refl _ _ | refine Below.alloc ?_ (by first|omega|(simp<;>omega)) _ | refine Below.setCell ?_ (by first|omega|(simp<;>omega)) _ | refine below_drewN ?_ _ | refine Below.drew ?_))
      rw [←hW4,←hBB];obtain⟨b0,b1,b2,b3,b4,b5,b6,b7⟩:=(cells_of (cs:=[_,_,_,_,_,_,_,_]) hl4).get8;rw [Nat.zero_add] at b1 b2 b3 b4 b5 b6 b7;have zB:=cell_lt b0;have Hb4:=hid hb4;have Hcall:=hid (HC.out W4 (Hkp.out.trans (Kp.of hb4)) (.int .i64 v0) (.int .i64 v1) (.bool v2) (.int .i64 v3) (.bool v4) (.int .i64 v5) (.int .i64 v6) (.slice vs vm vk) Hmem.out);clear hBB hW4 hl4 hb4 d0 d1 d2 d3 d4 d5 d6 d7 zg
      by_cases hP:P [.int .i64 v0,.int .i64 v1,.bool v2,.int .i64 v3,.bool v4,.int .i64 v5,.int .i64 v6,.slice vs vm vk]=true
      · have HP:=hid hP
        clear hP;go_wp2_with (go_at_call 38;refine Hcall.out.mono ?_;rintro e w5 ⟨rfl,hb5⟩;rw [HP.out];have Hb5:=hid hb5;clear hb5);go_roundw
        case rel=>exact⟨i,j+1,xss,rfl,by go_num,by omega,by omega,Hst.out.skip HjE.out Hcs.out HP.out,(Hrow.out.off (Kp.of Hb4.out)).off (Kp.of Hb5.out),(Hkp.out.trans (Kp.of Hb4.out)).trans (Kp.of Hb5.out)⟩
        case measure=>simp [intOf];omega
      · have hP0:P [.int .i64 v0,.int .i64 v1,.bool v2,.int .i64 v3,.bool v4,.int .i64 v5,.int .i64 v6,.slice vs vm vk]=false:=by simpa using hP
        have HP:=hid hP0;clear hP hP0;have hil:i<xss.length:=by rw [Hst.out.len,HE.out];omega
        obtain⟨g2,c2',hv2,-,-,-,hat2,hz2⟩:=Hrow.out.at (List.getElem?_eq_getElem hil) (by decide)
        have hg2:g=g2:=by injection hv2 with e1;injection e1 with e2;injection e2
        subst hg2;obtain⟨x0,x1,x2,x3,x4,x5,x6,x7,hxe⟩:=eight (Hrow.out.wid _ (List.getElem_mem hil));rw [hxe] at hat2;obtain⟨q0,q1,q2,q3,q4,q5,q6,q7⟩:=hat2.get8;have zg:=cell_lt q0;have Hz2:=hid hz2;have Hil:=hid hil;have HQ:Hid (∀V,Below wo.heap.size wo V→(V.cell? ⟨g,i * 8,none⟩=some x0∧V.cell? ⟨g,i * 8+1,none⟩=some x1∧V.cell? ⟨g,i * 8+2,none⟩=some x2∧V.cell? ⟨g,i * 8+3,none⟩=some x3∧V.cell? ⟨g,i * 8+4,none⟩=some x4∧V.cell? ⟨g,i * 8+5,none⟩=some x5∧V.cell? ⟨g,i * 8+6,none⟩=some x6∧V.cell? ⟨g,i * 8+7,none⟩=some x7)∧∀o,V.frozen? ⟨g,o,none⟩=false):=fun V hV =>
         ⟨⟨cell_later' q0 hV,cell_later' q1 hV,cell_later' q2 hV,cell_later' q3 hV,cell_later' q4 hV,cell_later' q5 hV,cell_later' q6 hV,cell_later' q7 hV⟩,fun o=>(hV.frozen (p:=⟨g,o,none⟩) zg).trans (Hz2.out o)⟩
        clear hil hv2 hat2 hz2 hxe q0 q1 q2 q3 q4 q5 q6 q7 zg
        go_wp2_with (go_at_call 38; refine Hcall.out.mono ?_; rintro e w5 ⟨rfl, hb5⟩; rw [HP.out]; have Hb5 := hid hb5
                     have b0 := cell_later' b0 hb5; have b1 := cell_later' b1 hb5; have b2 := cell_later' b2 hb5; have b3 := cell_later' b3 hb5; have b4 := cell_later' b4 hb5; have b5 := cell_later' b5 hb5; have b6 := cell_later' b6 hb5; have b7 := cell_later' b7 hb5
                     have zB := cell_lt b0
                     obtain ⟨⟨q0, q1, q2, q3, q4, q5, q6, q7⟩, hz⟩ := HQ.out w5 (Hb4.out.trans (hb5.mono Hb4.out.size))
                     have z0 := hz (i * 8); have z1 := hz (i * 8 + 1); have z2 := hz (i * 8 + 2); have z3 := hz (i * 8 + 3); have z4 := hz (i * 8 + 4); have z5 := hz (i * 8 + 5); have z6 := hz (i * 8 + 6); have z7 := hz (i * 8 + 7)
                     have zg := cell_lt q0
                     clear hb5 hz)
        go_roundw
        case rel =>
         have r5:=(Hrow.out.off (Kp.of Hb4.out)).off (Kp.of Hb5.out);have r9:=r5.set8 rfl Hil.out (.int .i64 v0) (.int .i64 v1) (.bool v2) (.int .i64 v3) (.bool v4) (.int .i64 v5) (.int .i64 v6) (.slice vs vm vk);exact⟨i+1,j+1,_,by go_num,by go_num,by omega,by omega,Hst.out.keep HjE.out Hcs.out HP.out,r9,((Hkp.out.trans (Kp.of Hb4.out)).trans (Kp.of Hb5.out)).trans ((kp_more (kp_more (kp_more (kp_more (kp_more (kp_more (kp_more (kp_one _ g _ _) _ _) _ _) _ _) _ _) _ _) _ _) _ _).less fun b h e=>h (by rw [e];rfl))⟩
        case measure=>simp [intOf];omega
    · have hjn2:n=j:=by omega
      subst hjn2;have htake:E.take n=E:=List.take_of_length_le (by rw [HE.out];exact Nat.le_refl _);have hfr:=Hst.out.front;have hcn:=Hst.out.cnt;rw [htake] at hfr hcn;obtain⟨cur2,hrun,hown⟩:=clear_own (i:=i) Hrow.out (by rw [Hst.out.len,HE.out]) (by omega);have Hrun:=hid hrun;have Hown:=hid hown;have Hfr:=hid hfr;have Hcn:=hid hcn;clear hrun hown hfr hcn htake hjl hjn;go_wp2_with fail;rw [Hrun.out];go_wp2_with fail;go_ret;refine⟨i,Hcn.out.symm,rfl,⟨?_,fun cs hcs=>Hr.out.wid cs (List.mem_filter.1 (show cs∈E.filter fun x=>!P x from hcs)).1⟩,Hkp.out.trans (kp_row wo g cur2)⟩;have h1:=Hown.out;rw [Hfr.out] at h1;rw [Hcn.out];exact h1

end Go.Proofs.YtnkogppgacappaaGreatDoor
