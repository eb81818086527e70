/- The words of the memory that never change, plainly. still.within; turnerysame.Bools; turneryref5.WordsOf; turneryref6.StillFirst. A region without a defer statement, inside a round: what serves outside a round serves in it. -/
import Derived.Test.YtnkogppgacappaaGreatDoorPSsa0
import Derived.Test.YtnkogppgacappaaGreatDoorPCloneR
import Derived.Test.YtnkogppgacappaaGreatDoorPSameU
import Derived.BigRegion
import Derived.Lib.QuietBelowIn
import Derived.Sort.BigQuietIn
import Derived.RangeFuncCalls
namespace Go.Proofs.YtnkogppgacappaaGreatDoor
open Go.RowKit

def wordsG(g:DGlobal):List Int:=g.init++List.replicate (g.size - g.init.length).toNat 0
def wordsK(gs:List DGlobal)(k:Nat):List Int:=(gs.take k).flatMap wordsG
def wordsL(gs:List DGlobal):List Int:=wordsK gs gs.length
theorem wordsK_succ {gs:List DGlobal}{k:Nat}(h:k<gs.length):wordsK gs (k+1)=wordsK gs k++wordsG gs[k]:=by
 unfold wordsK;rw [List.take_succ_eq_append_getElem h,List.flatMap_append];simp
theorem wordsG_len {g:DGlobal}(h:(g.init.length:Int)≤g.size):((wordsG g).length:Int)=g.size:=by
 unfold wordsG;rw [List.length_append,List.length_replicate];omega
theorem wordsK_len {gs:List DGlobal}(h:∀g∈gs,(g.init.length:Int)≤g.size):∀k,k≤gs.length→((wordsK gs k).length:Int)=wordsUp gs k:=by
 intro k
 induction k with
 | zero=>intro _;simp [wordsK,wordsUp]
 | succ k ih =>
   intro hk;rw [wordsK_succ hk,wordsUp_succ hk,List.length_append,Int.natCast_add,ih (by omega),wordsG_len (h _ (List.getElem_mem hk))]

def stFirst : List DGlobal → Int → Int × Bool
 | [],_=>(0,false)
 | g :: gs,p=>if 0≤p∧p<g.size then (g.init.getD p.toNat 0,true) else stFirst gs (p - g.size)
theorem stFirst_at : ∀ (gs : List DGlobal), (∀ g ∈ gs, (g.init.length : Int) ≤ g.size) → ∀ (p : Nat), p < (gs.flatMap wordsG).length → stFirst gs p = ((gs.flatMap wordsG).getD p 0, true)
 | [],_,p,hp=>by simp at hp
 | g :: gs,h,p,hp=>by
   have hg:=wordsG_len (h g (by simp));rw [List.flatMap_cons] at hp ⊢;unfold stFirst
   by_cases hlt:(p:Int)<g.size
   · rw [if_pos ⟨by omega,hlt⟩,Int.toNat_natCast]
     have hpl:p<(wordsG g).length:=by omega
     rw [List.getD_eq_getElem?_getD (l:=wordsG g++_),List.getElem?_append_left hpl];unfold wordsG
     by_cases hi:p<g.init.length
     · rw [List.getElem?_append_left hi,List.getD_eq_getElem?_getD]
     · rw [List.getElem?_append_right (by omega),List.getElem?_replicate,if_pos (by omega),List.getD_eq_getElem?_getD,List.getElem?_eq_none (by omega)];rfl
   · rw [if_neg (by omega)]
     have hpl:(wordsG g).length≤p:=by omega
     rw [List.length_append] at hp;have e:(p:Int) - g.size=((p - (wordsG g).length:Nat):Int):=by omega
     rw [e,stFirst_at gs (fun x hx=>h x (by simp [hx])) _ (by omega)];rw [List.getD_eq_getElem?_getD (l:=wordsG g++_),List.getElem?_append_right hpl,←List.getD_eq_getElem?_getD]

def wildB(i:DIns):Bool:=decide (i.op=19)&&i.a.reg
def hurtB(mem:List Int)(p:Nat)(i:DIns):Bool:=decide (i.op=19)&&(!i.a.reg&&(decide (i.a.n=(p:Int))&&(i.b.reg||decide (i.b.n≠mem.getD p 0))))
def insF(f:DFunc):List DIns:=f.blocks.flatMap (·.list)
def insU(fs:List DFunc):List DIns:=fs.flatMap insF
def calmL(mem:List Int)(l:List DIns):List Bool:=(List.range mem.length).map fun p=>!(l.any (hurtB mem p))
def stillF(mem:List Int)(l:List DIns):List Bool:=if l.any wildB=true then List.replicate mem.length false else calmL mem l
def spoilB(first:Int)(p:Nat)(i:DIns):Bool:=decide (i.op=19)&&(i.a.reg||(decide (i.a.n=(p:Int))&&(i.b.reg||decide (i.b.n≠first))))
def refStill(gs:List DGlobal)(l:List DIns)(n:Nat):List Bool:=(List.range n).map fun (p:Nat)=>!(l.any (spoilB (stFirst gs (p:Int)).1 p))

theorem spoil_eq(mem:List Int)(p:Nat)(i:DIns):spoilB (mem.getD p 0) p i=(wildB i||hurtB mem p i):=by
 unfold spoilB wildB hurtB;cases decide (i.op=19) <;> cases i.a.reg <;> simp
theorem any_or' {α:Type}(f g:α→Bool)(l:List α):l.any (fun x=>f x||g x)=(l.any f||l.any g):=by
 induction l with
 | nil=>rfl
 | cons a l ih=>simp only [List.any_cons,ih];cases f a <;> cases g a <;> cases l.any f <;> simp
theorem still_eq {gs:List DGlobal}(h:∀g∈gs,(g.init.length:Int)≤g.size)(l:List DIns):refStill gs l (wordsL gs).length=stillF (wordsL gs) l:=by
 have hw:wordsL gs=gs.flatMap wordsG:=by unfold wordsL wordsK;rw [List.take_length]
 have key:∀p:Nat,p<(wordsL gs).length→(!(l.any (spoilB (stFirst gs (p:Int)).1 p)))=!(l.any wildB||l.any (hurtB (wordsL gs) p)):=fun p hp=>by
  rw [←any_or'];have e:(stFirst gs (p:Int)).1=(wordsL gs).getD p 0:=by rw [hw] at hp ⊢;rw [stFirst_at gs h p hp]
  rw [e]
  congr 2
  funext i
  exact spoil_eq _ _ _
 unfold stillF refStill
 by_cases hw':l.any wildB=true
 · rw [if_pos hw']
   refine List.ext_getElem? fun p=>?_
   by_cases hp:p<(wordsL gs).length
   · rw [List.getElem?_map,List.getElem?_range hp,List.getElem?_replicate,if_pos hp,Option.map_some,key p hp,hw'];rfl
   · rw [List.getElem?_eq_none (by simp;omega),List.getElem?_eq_none (by simp;omega)]
 · rw [if_neg hw']
   unfold calmL;refine List.map_congr_left fun p hp=>?_;rw [key p (by simpa using hp),show l.any wildB=false by simpa using hw',Bool.false_or]

theorem calmL_nil(mem:List Int):calmL mem []=List.replicate mem.length true:=by
 unfold calmL;refine List.ext_getElem? fun p=>?_
 by_cases hp:p<mem.length
 · rw [List.getElem?_map,List.getElem?_range hp,List.getElem?_replicate,if_pos hp];rfl
 · rw [List.getElem?_eq_none (by simp;omega),List.getElem?_eq_none (by simp;omega)]
theorem calmL_len(mem:List Int)(l:List DIns):(calmL mem l).length=mem.length:=by unfold calmL;simp
theorem calmL_snoc(mem:List Int)(l:List DIns)(i:DIns):calmL mem (l++[i])=(List.range mem.length).map fun p=>if hurtB mem p i=true then false else !(l.any (hurtB mem p)):=by
 unfold calmL;refine List.map_congr_left fun p _=>?_;rw [List.any_append];cases h:hurtB mem p i <;> simp [h]
theorem calm_same {mem:List Int}{l:List DIns}{i:DIns}(h:∀p,p<mem.length→hurtB mem p i=false):calmL mem (l++[i])=calmL mem l:=by
 rw [calmL_snoc];unfold calmL;refine List.map_congr_left fun p hp=>?_;rw [h p (by simpa using hp)];rfl
theorem calm_set {mem:List Int}{l:List DIns}{i:DIns}{q:Nat}(h1:i.op=19)(h2:i.a.reg=false)(h3:i.a.n=(q:Int))(h4:i.b.reg=true∨i.b.n≠mem.getD q 0):calmL mem (l++[i])=(calmL mem l).set q false:=by
 rw [calmL_snoc];unfold calmL;refine List.ext_getElem? fun p=>?_
 by_cases hp:p<mem.length
 · rw [List.getElem?_map,List.getElem?_range hp,Option.map_some]
   by_cases hpq:p=q
   · subst hpq
     rw [List.getElem?_set_self (by simpa using hp)];have:hurtB mem p i=true:=by
      unfold hurtB;rw [h1,h2,h3];rcases h4 with h4 | h4
      · simp [h4]
      · simp only [decide_true,Bool.not_false,Bool.true_and,Bool.or_eq_true,decide_eq_true_eq];exact .inr h4
     rw [if_pos this]
   · rw [List.getElem?_set_ne (by omega),List.getElem?_map,List.getElem?_range hp,Option.map_some]
     have:hurtB mem p i=false:=by
      unfold hurtB;rw [h1,h2,h3,show decide ((q:Int)=(p:Int))=false by simp;omega];simp
     rw [if_neg (by rw [this];simp)]
 · rw [List.getElem?_eq_none (by simp;omega),List.getElem?_eq_none (by simp;omega)]

end Go.Proofs.YtnkogppgacappaaGreatDoor

namespace Go.Proofs.YtnkogppgacappaaGreatDoor
open Go.RowKit

def inB(r:Bool)(n m:Int):Bool:=!r&&(decide (0≤n)&&decide (n<m))

set_option maxHeartbeats 1000000 in
theorem swithin_any(r:Bool)(n m:Int)(w:World) :
 Calls Tryz.prog 39 #[.agg #[.bool r,.int .i64 n],.int .i64 m] w fun e w'=>e = .returned (.bool (inB r n m))∧Below w.heap.size w w':=by
 cases r with
 | true =>
   have Hr:Hid (inB true n m=false):=rfl;go_enter Tryz.func39,Tryz.ntmps39;go_wp2_with fail;go_ret;exact⟨ret_bool Hr.out.symm,by (repeat (first | exact Below.refl _ _ | refine Below.alloc ?_ (by first|omega|(simp<;>omega)) _ | refine Below.setCell ?_ (by first|omega|(simp<;>omega)) _ | refine below_drewN ?_ _ | refine Below.drew ?_))⟩
 | false =>
   by_cases h0:0≤n
   · by_cases h1:n<m
     · have Hr:Hid (inB false n m=true):=by show _=_;unfold inB;simp [h0,h1]
       go_enter Tryz.func39,Tryz.ntmps39;go_wp2_with fail;go_ret;exact⟨ret_bool Hr.out.symm,by (repeat (first | exact Below.refl _ _ | refine Below.alloc ?_ (by first|omega|(simp<;>omega)) _ | refine Below.setCell ?_ (by first|omega|(simp<;>omega)) _ | refine below_drewN ?_ _ | refine Below.drew ?_))⟩
     · have Hr:Hid (inB false n m=false):=by show _=_;unfold inB;simp [h1]
       go_enter Tryz.func39,Tryz.ntmps39;go_wp2_with fail;go_ret;exact⟨ret_bool Hr.out.symm,by (repeat (first | exact Below.refl _ _ | refine Below.alloc ?_ (by first|omega|(simp<;>omega)) _ | refine Below.setCell ?_ (by first|omega|(simp<;>omega)) _ | refine below_drewN ?_ _ | refine Below.drew ?_))⟩
   · have Hr:Hid (inB false n m=false):=by show _=_;unfold inB;simp [h0]
     go_enter Tryz.func39,Tryz.ntmps39;go_wp2_with fail;go_ret;exact⟨ret_bool Hr.out.symm,by (repeat (first | exact Below.refl _ _ | refine Below.alloc ?_ (by first|omega|(simp<;>omega)) _ | refine Below.setCell ?_ (by first|omega|(simp<;>omega)) _ | refine below_drewN ?_ _ | refine Below.drew ?_))⟩

theorem bool_at {S:Nat→Prop}{w:World}{a:Option Addr}{n c:Nat}{l:List Bool}(h:SlAt S w 1 rBool (.slice a n c) l){t:Nat}(ht:t<l.length):∃b off,a=some ⟨b,off,none⟩∧w.cell? ⟨b,off+t,none⟩=some (.bool l[t]):=by
 obtain⟨b,off,cs,ha,-,hr,-,hcs⟩:=h.get ht;have e:cs=[.bool l[t]]:=hr;subst e;have d:=hcs.get1;rw [Nat.mul_one] at d;exact⟨b,off,ha,d⟩

theorem wordsUp_bd {gs:List DGlobal}(h:∀g∈gs,0≤g.size∧g.size≤200):∀k,k≤gs.length→0≤wordsUp gs k∧wordsUp gs k≤200 * k:=by
 intro k
 induction k with
 | zero=>intro _;simp [wordsUp]
 | succ k ih =>
   intro hk;have:=ih (by omega);have h2:=h _ (List.getElem_mem hk);rw [wordsUp_succ hk];omega

set_option maxRecDepth 100000 in
set_option maxHeartbeats 1000000 in
theorem wordsOf_any {S:Nat→Prop}(ga fa:Option Addr)(gc fn fc:Nat)(gs:List DGlobal)(w:World)(hg:SlAt S w 3 rGlobal (.slice ga gs.length gc) gs)(hn:gs.length≤10)(hsz:∀g∈gs,0≤g.size∧g.size≤200) :
 Calls Tryz.prog 76 #[.agg #[.slice ga gs.length gc,.slice fa fn fc]] w fun e w'=>e = .returned (.int .i64 (wordsUp gs gs.length))∧Below w.heap.size w w':=by
 have Hg:=hid hg;have Hsz:=hid hsz;clear hg hsz;go_enter Tryz.func76,Tryz.ntmps76;go_wp2_with fail;obtain⟨W,hW⟩:∃W,W=w.alloc (.cells #[.slice ga gs.length gc,.slice fa fn fc] 25):=⟨_,rfl⟩
 have hbW:Below w.heap.size w W:=by rw [hW];(repeat (first | exact Below.refl _ _ | refine Below.alloc ?_ (by first|omega|(simp<;>omega)) _ | refine Below.setCell ?_ (by first|omega|(simp<;>omega)) _ | refine below_drewN ?_ _ | refine Below.drew ?_))
 have g0:W.cell? ⟨w.heap.size,0,none⟩=some (.slice ga gs.length gc):=by rw [hW];simp
 have z0:w.heap.size<W.heap.size:=cell_lt g0;rw [←hW];have HbW:=hid hbW;clear hW hbW;go_loop [3,4] (fun s i=>∃k:Nat,k≤gs.length∧i = .int .i64 k∧s = .int .i64 (wordsUp gs k)) (fun _ i=>gs.length - (intOf i).toNat)
 case atStart=>exact⟨0,Nat.zero_le _,rfl,rfl⟩
 case round =>
  obtain⟨k,hk,rfl,rfl⟩:=hrel;have hbd:=wordsUp_bd Hsz.out k hk
  by_cases hkl:k<gs.length
  · obtain⟨b,off,ia,ic,rfl,hcs,-,-⟩:=global_at (Hg.out.later rGlobal_mono HbW.out) hkl
    obtain⟨-,c1,-⟩:=hcs.get3;have zb:b<W.heap.size:=cell_lt c1;have hs:=Hsz.out _ (List.getElem_mem hkl);have Hst:Hid (wordsUp gs (k+1)=wordsUp gs k+gs[k].size):=wordsUp_succ hkl;clear hcs;obtain⟨t,ht⟩:∃t,t=wordsUp gs k:=⟨_,rfl⟩
    rw [←ht] at hbd Hst ⊢;clear ht;go_wp2_with fail;go_round
    case rel=>exact⟨k+1,by omega,by go_num,by rw [Hst.out]⟩
    case measure=>simp [intOf];omega
  · obtain rfl:k=gs.length:=by omega
    go_wp2_with fail;go_ret;exact⟨rfl,HbW.out⟩

theorem stFirst_drop {gs:List DGlobal}{k:Nat}(hk:k<gs.length)(p:Int):stFirst (gs.drop k) p=if 0≤p∧p<gs[k].size then (gs[k].init.getD p.toNat 0,true) else stFirst (gs.drop (k+1)) (p - gs[k].size):=by
 rw [List.drop_eq_getElem_cons hk];rfl

set_option maxRecDepth 100000 in
set_option maxHeartbeats 2000000 in
theorem stillFirst_any {S:Nat→Prop}(ga fa:Option Addr)(gc fn fc:Nat)(gs:List DGlobal)(p:Int)(w:World)(hg:SlAt S w 3 rGlobal (.slice ga gs.length gc) gs)(hn:gs.length≤10)(hsz:∀g∈gs,0≤g.size∧g.size≤200)(hp : -200≤p∧p≤2000) :
 Calls Tryz.prog 43 #[.agg #[.slice ga gs.length gc,.slice fa fn fc],.int .i64 p] w fun e w'=>e = .returned (.tuple #[.int .i64 (stFirst gs p).1,.bool (stFirst gs p).2])∧Below w.heap.size w w':=by
 have Hg:=hid hg;have Hsz:=hid hsz;clear hg hsz;go_enter Tryz.func43,Tryz.ntmps43;go_wp2_with fail;obtain⟨W,hW⟩:∃W,W=w.alloc (.cells #[.slice ga gs.length gc,.slice fa fn fc] 25):=⟨_,rfl⟩
 have hbW:Below w.heap.size w W:=by rw [hW];(repeat (first | exact Below.refl _ _ | refine Below.alloc ?_ (by first|omega|(simp<;>omega)) _ | refine Below.setCell ?_ (by first|omega|(simp<;>omega)) _ | refine below_drewN ?_ _ | refine Below.drew ?_))
 have g0:W.cell? ⟨w.heap.size,0,none⟩=some (.slice ga gs.length gc):=by rw [hW];simp
 rw [←hW];have HbW:=hid hbW;have G0:=hid g0;clear hW hbW g0;go_loopw [1,6] (fun s i wr=>∃(k:Nat) (q:Int),k≤gs.length∧i = .int .i64 k∧s = .int .i64 q∧stFirst (gs.drop k) q=stFirst gs p ∧ -200 - 200 * (k:Int)≤q∧q≤2000∧Below W.heap.size W wr) (fun _ i _=>gs.length - (intOf i).toNat)
 case atStart=>exact⟨0,p,Nat.zero_le _,rfl,rfl,rfl,by omega,by omega,Below.refl _ _⟩
 case round =>
  obtain⟨k,q,hk,rfl,rfl,he,hq1,hq2,hb⟩:=hrel;have g0:=cell_later' G0.out hb;have z0:w.heap.size<wr.heap.size:=cell_lt g0;have Hb:=hid hb;have He:=hid he;have Hw:Hid (Below w.heap.size w wr):=HbW.out.trans (hb.mono HbW.out.size);clear hb he
  by_cases hkl:k<gs.length
  · obtain⟨b,off,ia,ic,rfl,hcs,hin,-⟩:=global_at (Hg.out.later rGlobal_mono Hw.out) hkl
    obtain⟨c0,c1,c2⟩:=hcs.get3;have zb:b<wr.heap.size:=cell_lt c1;have hs:=Hsz.out _ (List.getElem_mem hkl);have hst:=stFirst_drop hkl q;have Hin:=hid hin;clear hcs hin
    by_cases hlt:0≤q∧q<gs[k].size
    · obtain⟨h0,h1⟩:=hlt
      rw [if_pos ⟨h0,h1⟩,He.out] at hst;have Hst:=hid hst;clear hst
      by_cases hi:q<(gs[k].init.length:Int)
      · obtain⟨m,rfl⟩:=Int.eq_ofNat_of_zero_le h0
        have hm:m<gs[k].init.length:=by omega
        obtain⟨ib,ioff,rfl,i0⟩:=int_at Hin.out hm;have zi:ib<wr.heap.size:=cell_lt i0;have Hv:Hid ((stFirst gs p)=(gs[k].init[m],true)):=by
         show _=_;rw [Hst.out,Int.toNat_natCast,List.getD_eq_getElem?_getD,List.getElem?_eq_getElem hm];rfl
        go_wp2_with fail;go_ret2;rw [Hv.out];exact⟨rfl,by have h:=Hw.out;(have hz0:=(h).size;have hy0:=hz0;(try simp at hy0);repeat (first | exact Below.refl _ _ | refine Below.trans ?_ ((h).mono (by first|omega|(simp<;>omega))) | refine Below.alloc ?_ (by first|omega|(simp<;>omega)) _ | refine Below.setCell ?_ (by first|omega|(simp<;>omega)) _ | refine below_drewN ?_ _ | refine Below.drew ?_))⟩
      · have Hv:Hid ((stFirst gs p)=(0,true)):=by
         show _=_;rw [Hst.out,List.getD_eq_getElem?_getD,List.getElem?_eq_none (by omega)];rfl
        go_wp2_with fail;go_ret2;rw [Hv.out];exact⟨rfl,by have h:=Hw.out;(have hz0:=(h).size;have hy0:=hz0;(try simp at hy0);repeat (first | exact Below.refl _ _ | refine Below.trans ?_ ((h).mono (by first|omega|(simp<;>omega))) | refine Below.alloc ?_ (by first|omega|(simp<;>omega)) _ | refine Below.setCell ?_ (by first|omega|(simp<;>omega)) _ | refine below_drewN ?_ _ | refine Below.drew ?_))⟩
    · rw [if_neg hlt,He.out] at hst
      have Hst:=hid hst;clear hst
      by_cases h0:0≤q
      · have h1:gs[k].size≤q:=by omega
        clear hlt;go_wp2_with fail;go_roundw
        case rel=>exact⟨k+1,_,by omega,by go_num,rfl,Hst.out.symm,by omega,by omega,by have h:=Hb.out;(have hz0:=(h).size;have hy0:=hz0;(try simp at hy0);repeat (first | exact Below.refl _ _ | refine Below.trans ?_ ((h).mono (by first|omega|(simp<;>omega))) | refine Below.alloc ?_ (by first|omega|(simp<;>omega)) _ | refine Below.setCell ?_ (by first|omega|(simp<;>omega)) _ | refine below_drewN ?_ _ | refine Below.drew ?_))⟩
        case measure=>simp [intOf];omega
      · clear hlt
        go_wp2_with fail;go_roundw
        case rel=>exact⟨k+1,_,by omega,by go_num,rfl,Hst.out.symm,by omega,by omega,by have h:=Hb.out;(have hz0:=(h).size;have hy0:=hz0;(try simp at hy0);repeat (first | exact Below.refl _ _ | refine Below.trans ?_ ((h).mono (by first|omega|(simp<;>omega))) | refine Below.alloc ?_ (by first|omega|(simp<;>omega)) _ | refine Below.setCell ?_ (by first|omega|(simp<;>omega)) _ | refine below_drewN ?_ _ | refine Below.drew ?_))⟩
        case measure=>simp [intOf];omega
  · have hkn:k=gs.length:=by omega
    have Hv:Hid ((stFirst gs p)=(0,false)):=by
     show _=_;rw [←He.out,hkn,List.drop_length];rfl
    clear hkn;go_wp2_with fail;go_ret2;rw [Hv.out];exact⟨rfl,Hw.out⟩

end Go.Proofs.YtnkogppgacappaaGreatDoor

namespace Go.Proofs.YtnkogppgacappaaGreatDoor
open Go.RowKit Go.Sort

def undeferred(ops:Array Oper):Bool:=ops.all fun o=>match o.op with | .defer _=>false | _=>true

theorem undeferred_spec {ops:Array Oper}(h:undeferred ops=true){i:Nat}{o:Oper}(ho:ops[i]?=some o):∀c,o.op ≠ .defer c:=by
 intro c hc;unfold undeferred at h;rw [Array.all_eq_true] at h;obtain⟨hi,he⟩:=Array.getElem?_eq_some_iff.1 ho;have:=h i hi;rw [he,hc] at this;cases this

theorem uponIn_round {F : Fence} {n l : Nat} {P : Program} {o : Oper} {a : Act} {K K' : Act → World → Prop} {Q : Exit → Act → World → Prop} (hK : ∀ a w, K a w → K' a w) (r : Result Next)
 (h:o.uponIn F n P a K Q r):o.uponIn (F.inRound l) n P a K' Q r:=by
 cases r with
 | ok x w' =>
   cases x <;> simp only [Oper.uponIn] at h ⊢ <;>
    first
     | exact hK _ _ h
     | exact⟨h.1,CallsIn.inRound l (CallsIn.mono h.2 (fun e w'' he=>by cases e <;> first | exact hK _ _ he | exact he))⟩
     | exact⟨h.1,RowsIn.mono h.2 (fun _ _ he=>hK _ _ he)⟩
     | exact⟨h.1,RoundIn.mono h.2 (fun e w'' he=>by cases e <;> first | exact hK _ _ he | exact he)⟩
 | halt x w'=>cases x <;> simp only [Oper.uponIn] at h ⊢ <;> exact h

theorem wpOpIn_round {F : Fence} {n l : Nat} {P : Program} {ops : Array Oper} {Q : Exit → Act → World → Prop} (hd : undeferred ops = true) {i : Nat} {a : Act} {w : World} {K K' : Act → World → Prop}
 (hK:∀a w,K a w→K' a w) (h:wpOpIn F n P ops Q i K a w):wpOpIn (F.inRound l) n P ops Q i K' a w:=by
 unfold wpOpIn at *;split
 · rename_i ho;simp only [ho] at h;exact hK _ _ h
 · rename_i o ho
   simp only [ho] at h;split
   · rename_i hw
     simp only [hw,if_true] at h;unfold Oper.wpIn at *;rw [Oper.semAt_eq _ _ _ (undeferred_spec hd ho)] at *;exact⟨h.1,uponIn_round hK _ h.2⟩
   · rename_i hw
     simp only [hw] at h;exact⟨h.1,hK _ _ h.2⟩

theorem wpAnyIn_round {F:Fence}{n l:Nat}{P:Program}{md:Region.Mode}{ops:Array Oper}{Q:Exit→Act→World→Prop}(hd:undeferred ops=true) :
 ∀(fuel:Nat) (listed:Array Bool) (a:Act) (w:World),wpAnyIn F n P md ops Q fuel listed a w→wpAnyIn (F.inRound l) n P md ops Q fuel listed a w
 | 0,_,_,_,h=>h
 | fuel+1,_,_,_,h=>⟨h.1,fun i hi=>wpOpIn_round hd (fun a' w' h'=>wpAnyIn_round hd fuel _ a' w' h') (h.2 i hi)⟩

theorem wpIn_region_quiet_round {F : Fence} {n r : Nat} {P : Program} {id : Nat} {Q : Exit → Act → World → Prop} {a : Act} {w : World} {l : List Oper} (hro : F.round = none) (hm : P.follows .mixedOrders = true) (hB : Region.lexB .any l.toArray = true) (hd : undeferred l.toArray = true)
 (h:wpQuietIn F n P l.toArray (fun w'=>∃p:Regrown,w'=grow (redrawn w p.d) p.os) (fun a'=>∀w',(∃p:Regrown,w'=grow (redrawn w p.d) p.os)→Q .normal a' w') l a):(Code.region id l.toArray true).wpIn (F.inRound r) n P Q a w:=by
 have hB':=hB;simp only [Region.lexB,Bool.and_eq_true] at hB';refine wpIn_region_any hm (wpAnyIn_round hd _ _ _ _ (wpAnyIn_of_quiet (C:=fun w'=>∃p:Regrown,w'=grow (redrawn w p.d) p.os) (Q:=fun a'=>∀w',(∃p:Regrown,w'=grow (redrawn w p.d) p.os)→Q .normal a' w') hro (fun _ w' hw' h=>h w' hw') _ _ _ _ ⟨⟨w.drawn+1,#[]⟩,by rw [grow_empty];rfl⟩ ?_));have:=wpAnyQIn_lex (F:=F) (n:=n) (P:=P) (C:=fun w'=>∃p:Regrown,w'=grow (redrawn w p.d) p.os) (md := .any) hB'.1 l 0 (Array.replicate l.toArray.size false) a (by simp) (by simpa using hB'.2) h;simpa using this

end Go.Proofs.YtnkogppgacappaaGreatDoor
