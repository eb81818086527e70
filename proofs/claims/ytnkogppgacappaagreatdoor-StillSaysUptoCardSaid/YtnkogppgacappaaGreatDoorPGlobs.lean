/- append of a make: a row of the call's own, grown by zeros. No function of the program in sight. still.words: the words of the memory, as they are at first. The memory of a checked unit. -/
import Derived.Test.YtnkogppgacappaaGreatDoorPBack
import Derived.Test.YtnkogppgacappaaGreatDoorPRound
import Derived.Test.YtnkogppgacappaaGreatDoorPSsa0
namespace Go.Proofs.YtnkogppgacappaaGreatDoor
open Go.RowKit

theorem zeroCells_one(z:Value)(m:Nat):Builtin.zeroCells #[z] m=(List.replicate m z).toArray:=by
 apply Array.ext
 · simp [Builtin.zeroCells]
 · intro i h1 h2
   simp [Builtin.zeroCells,Nat.mod_one]
theorem wrap_nat {m:Nat}(h:m≤9223372036854775807):IntKind.i64.wrap (m:Int)=(m:Int):=IntWalk.i64_in _ (by omega)

section
variable {P : Program} (w : World)
theorem run_append_zeros (base : Nat) (t u ty e : TypeId) (i : TypeInfo) (z : Value) (bytes : Nat) (ht : P.underlying t = some (.slice e)) (hu : P.underlying u = some (.int .i64)) (hi : P.info? e = some i) (hz : i.zero = some z)
 (hsize:i.size=1) (hby:i.bytes=bytes) (hzs:z.cells=#[z]) (hz1:z.oneCell'=true)
 (v:Value) (n:Nat) (xs:List Value) (hown:w.ownsRow base e 1 v n xs) (m:Nat)
 (h63:n+m≤maxLen) (hbytes:(n+m) * bytes≤140737488355328) (hbase:base≤w.heap.size) :
 ∃v' w',(Builtin.append_ #[t,u] ty #[v,.int .i64 (m:Int)]).run P w = .ok v' w'∧w'.ownsRow base e 1 v' (n+m) (xs++List.replicate m z)∧w.grownBy w' v.ownBlock ∧
   (v' = .slice none 0 0↔v = .slice none 0 0∧m=0):=by
 subst hby;have hsmall:n+m≤9223372036854775807:=by simp only [maxLen] at h63;omega
 have hmw:=wrap_nat (m:=m) (by omega);have hmb:m * i.bytes≤140737488355328:=Nat.le_trans (Nat.mul_le_mul_right _ (Nat.le_add_left m n)) hbytes;have h48:¬(281474976710656<(m:Int) * (i.bytes:Int)):=by
  have:((m * i.bytes:Nat):Int)=(m:Int) * (i.bytes:Int):=by simp
  omega
 have hlen:(xs++List.replicate m z).length=(n+m) * 1:=by rw [List.length_append,hown.1,List.length_replicate];omega
 have hnm:¬((m:Int)<0):=by omega
 have hmw0:IntKind.i64.wrap 0=0:=wrap_nat (m:=0) (by omega);have hap:∀W:World,(if m=0 then (pure #[]:Sem (Array Value)) else pure (Builtin.zeroCells #[z] m)).run P W = .ok (List.replicate m z).toArray W:=fun W=>by
  by_cases hm0:m=0
  · subst hm0;rfl
  · rw [if_neg hm0,zeroCells_one];rfl
 have grown:∀(old:Nat),old<n+m→∀(row:Option Nat),
  (w.drew.alloc (.cells (xs.toArray ++ (List.replicate m z).toArray ++ Builtin.zeroCells #[z] (grownCap w (n + m) old e - (n + m))) e)).ownsRow base e 1
    (.slice (some ⟨w.heap.size,0,none⟩) (n+m) (grownCap w (n+m) old e)) (n+m) (xs++List.replicate m z) ∧
  w.grownBy (w.drew.alloc (.cells (xs.toArray++(List.replicate m z).toArray++Builtin.zeroCells #[z] (grownCap w (n+m) old e - (n+m))) e)) row:=by
  intro old ho row;have hge:=grownCap_ge w (n+m) old e;have hcm:grownCap w (n+m) old e≤maxLen:=grownCap_le_maxLen w (n+m) old e h63;have hxl:=hown.1;refine⟨⟨hlen,.inr ⟨w.heap.size,_,_,rfl,hbase,heap_alloc_new w.drew _,hge,hcm,?_,?_⟩⟩,⟨rfl,rfl,rfl,by simp,fun k hk _=>Below.heap_alloc w.drew _ _ hk⟩⟩
  · simp only [Array.size_append,List.size_toArray,size_zeroCells,List.length_replicate,List.length_cons,List.length_nil,Nat.zero_add,Nat.mul_one]
    omega
  · simp only [Array.toList_append,List.append_assoc]
    rw [←List.append_assoc,←hlen];exact List.take_left
 rcases hown.2 with⟨rfl,rfl⟩ | ⟨g,cap,cur,rfl,hbg,hg,hnc,hcm,hcs,htake⟩
 · have hx:xs=[]:=List.eq_nil_of_length_eq_zero (by simpa using hown.1)
   subst hx
   by_cases hm:m=0
   · subst hm
     refine⟨.slice none 0 0,w,?_,World.ownsRow_nil w base e 1,⟨rfl,rfl,rfl,Nat.le_refl _,fun _ _ _=>rfl⟩,by simp⟩;simp [Builtin.append_,run_underlying ht,run_underlying hu,sizeOf,typeInfo,hi,asInt,asIntOf,hmw0]
   · have h48':¬(281474976710656<Builtin.nextslicecap m 0 * i.bytes):=by rw [nextslicecap_zero (by omega)];omega
     have hgr:=grown 0 (by omega) (Value.ownBlock (.slice none 0 0));simp only [Nat.zero_add,List.nil_append,Array.empty_append] at hgr ⊢;refine⟨_,_,?_,hgr.1,hgr.2,by simp [hm]⟩;have h63':¬(9223372036854775807<(m:Int)):=by omega
     simp [Builtin.append_,run_underlying ht,run_underlying hu,sizeOf,typeInfo,zeroValue,hi,hz,asInt,asIntOf,hmw,h48,hnm,hm,hsize,hzs,h63',h48',Question.forced,run_firstCells_none,zeroCells_one,newRow,grownCap]
 · by_cases hroom:n+m≤cap
   · have hfit:n+(List.replicate m z).length≤cur.size:=by rw [List.length_replicate,hcs];omega
     have hst:=run_storeCells_at P g n e (List.replicate m z) 0 cur w hg (by simpa using hfit) (fun u hu=>by rw [List.eq_of_mem_replicate hu];exact hz1);simp only [Nat.add_zero] at hst;refine⟨.slice (some ⟨g,0,none⟩) (n+m) cap,w.setRow g (cur.toList.take n++List.replicate m z++cur.toList.drop (n+(List.replicate m z).length)).toArray,?_,⟨hlen,.inr ⟨g,cap,_,rfl,hbg,setRow_heap w g cur _ e _ hg,hroom,hcm,?_,?_⟩⟩,⟨rfl,rfl,rfl,by simp,fun k _ hk=>setRow_other w g k _ (fun e=>hk (by simp [Value.ownBlock,e]))⟩,by simp⟩
     · by_cases hm0:m=0
       · subst hm0
         simp [Builtin.append_,run_underlying ht,run_underlying hu,sizeOf,typeInfo,zeroValue,hi,hz,asInt,asIntOf,hmw0,hnc,storeCells];rw [setRow_self w g cur e (0,0) hg]
       · simp [Builtin.append_,run_underlying ht,run_underlying hu,sizeOf,typeInfo,zeroValue,hi,hz,asInt,asIntOf,hmw,h48,hnm,hm0,hsize,hzs,hroom,zeroCells_one,Addr.add_lit,hst]
     · simp only [List.size_toArray,List.length_append,List.length_take,List.length_drop,Array.length_toList,List.length_replicate]
       omega
     · have h2:cur.toList.take n=xs:=by simpa using htake
       show (cur.toList.take n++List.replicate m z++_).take _=_;rw [h2,←hlen];exact List.take_left
   · have holds:∀j u,xs[j]?=some u→w.cell? ((⟨g,0,none⟩:Addr).add j)=some u:=hown.cells (g:=g) rfl
     have hm0:m≠0:=by omega
     have hn:¬(n+m≤cap):=hroom;have h63':¬(9223372036854775807<((n:Int)+(m:Int))):=by omega
     have h48':¬(281474976710656<Builtin.nextslicecap (n+m) cap * i.bytes):=by
      have:=growslice_fits (need:=n+m) (old:=cap) (bytes:=i.bytes) (by omega) hbytes;omega
     have hfo:=run_firstCells_some (P:=P) w.drew 1 n ⟨g,0,none⟩ n cap xs hown.1 (by simpa using holds);have hgr:=grown cap (by omega) (Value.ownBlock (.slice (some ⟨g,0,none⟩) n cap));refine⟨_,_,?_,hgr.1,hgr.2,by simp⟩;simp [Builtin.append_,run_underlying ht,run_underlying hu,sizeOf,typeInfo,zeroValue,hi,hz,asInt,asIntOf,hmw,h48,hnm,hm0,hsize,hzs,hn,h63',h48',Question.forced,hfo,zeroCells_one,newRow,grownCap]

theorem wpList_append_zeros {ops : Array Oper} {rest : List Oper} {o : Oper} {a : Act} {Q : Exit → Act → World → Prop} (hgd : o.guard = none) (s x : Operand) (t u : TypeId)
 (ho:o.op = .call { callee := .builtin .append,args:=#[s,x],argTypes:=#[t,u] })
 (base:Nat) (e:TypeId) (i:TypeInfo) (z:Value) (bytes:Nat) (ht:P.underlying t=some (.slice e)) (hu:P.underlying u=some (.int .i64)) (hi:P.info? e=some i) (hz:i.zero=some z)
 (hsize:i.size=1) (hby:i.bytes=bytes) (hzs:z.cells=#[z]) (hz1:z.oneCell'=true)
 (v:Value) (n:Nat) (xs:List Value) (hs:a.eval s=v) (hown:w.ownsRow base e 1 v n xs) (m:Nat) (hx:a.eval x = .int .i64 (m:Int))
 (h63:n+m≤maxLen) (hbytes:(n+m) * bytes≤140737488355328) (hbase:base≤w.heap.size)
 (h:∀v' w',w'.ownsRow base e 1 v' (n+m) (xs++List.replicate m z)→w.grownBy w' v.ownBlock→(v' = .slice none 0 0↔v = .slice none 0 0∧m=0)→wpList P ops Q rest (a.put o.dst v') w'):wpList P ops Q (o :: rest) a w :=
 wpList_plain hgd fun _ hK=>by
  obtain⟨v',w',hr,h2,h3,h4⟩:=run_append_zeros (P:=P) w base t u o.type e i z bytes ht hu hi hz hsize hby hzs hz1 v n xs hown m h63 hbytes hbase;unfold Oper.wp execOp;simp only [ho,resolve,invoke,builtin,Sem.run_bind,Sem.run_pure,Result.andThen_ok,List.map_toArray,List.map_cons,List.map_nil,hs,hx,hr];exact hK _ _ (h v' w' h2 h3 h4)
end

end Go.Proofs.YtnkogppgacappaaGreatDoor

namespace Go.Proofs.YtnkogppgacappaaGreatDoor
open Go.RowKit

def OwnInts(base:Nat)(w:World)(v:Value)(l:List Int):Prop:=w.ownsRow base 3 1 v l.length (l.map fun x => .int .i64 x)∧∀x∈l,I64 x
theorem OwnInts.nil(base:Nat)(w:World):OwnInts base w (.slice none 0 0) []:=⟨World.ownsRow_nil w base _ 1,fun x h=>by simp at h⟩
theorem OwnInts.shape {base:Nat}{w:World}{v:Value}{l:List Int}(h:OwnInts base w v l):∃a c,v = .slice a l.length c:=by
 rcases h.1.2 with⟨rfl,h2⟩ | ⟨g,cap,cur,rfl,-⟩
 · exact⟨none,0,by rw [h2]⟩
 · exact⟨_,_,rfl⟩
theorem OwnInts.later {base:Nat}{w w':World}{v:Value}{l:List Int}(h:OwnInts base w v l)(hb:Below w.heap.size w w'):OwnInts base w' v l :=
 ⟨h.1.kept (grown_below (B:=0) hb none (Nat.zero_le _)) (by cases v.ownBlock <;> simp),h.2⟩
theorem OwnInts.sl {base:Nat}{w:World}{v:Value}{l:List Int}(h:OwnInts base w v l):SlAt (iv base w.heap.size) w 1 rInt v l:=by
 obtain⟨h1,h2⟩:=h;have hc:=fun g hg=>h1.cells (g:=g) hg;rcases id h1.2 with⟨rfl,hl⟩ | ⟨g,cap,cur,rfl,hg,hgg,hn,hm,-⟩
 · have hl0:l=[]:=List.length_eq_zero_iff.1 hl
   subst hl0;exact⟨none,0,rfl,Nat.le_refl _,by decide,fun h=>absurd rfl h⟩
 · unfold maxLen at hm
   refine⟨_,cap,rfl,hn,by omega,fun hne=>⟨g,0,rfl,⟨hg,(Array.getElem?_eq_some_iff.1 hgg).1⟩,fun i x hx=>?_⟩⟩;obtain⟨hi,rfl⟩:=List.getElem?_eq_some_iff.1 hx;have hb:=h2 _ (List.getElem_mem hi);refine⟨_,⟨rfl,hb.1,hb.2⟩,rfl,fun j u hj=>?_⟩
   match j,hj with
   | 0,hj =>
     cases hj;have hcell:=hc g rfl i (.int .i64 l[i]) (by rw [List.getElem?_map,List.getElem?_eq_getElem hi];rfl);rw [show (⟨g,0,none⟩:Addr).add i=⟨g,i,none⟩ by unfold Addr.add;split <;> simp_all] at hcell;rw [Nat.zero_add,Nat.mul_one,Nat.add_zero];exact hcell
   | j+1,hj=>simp at hj
theorem sl_news {S:Nat→Prop}{w:World}{b off n c:Nat}{l:List Int}(h:SlAt S w 1 rInt (.slice (some ⟨b,off,none⟩) n c) l):∀(j:Nat) u,(l.map fun x=>Value.int .i64 x)[j]?=some u→w.cell? ((⟨b,off,none⟩:Addr).add j)=some u:=by
 intro j u hj;rw [List.getElem?_map] at hj;cases hq:l[j]? with
 | none=>rw [hq] at hj;cases hj
 | some x =>
   rw [hq] at hj;cases hj;obtain⟨hi,rfl⟩:=List.getElem?_eq_some_iff.1 hq;obtain⟨b',off',e,hc⟩:=int_at h hi;cases e;rw [show (⟨b,off,none⟩:Addr).add j=⟨b,off+j,none⟩ by unfold Addr.add;split <;> simp_all];exact hc

theorem wpList_append_ints {w : World} {ops : Array Oper} {rest : List Oper} {o : Oper} {a : Act} {Q : Exit → Act → World → Prop} (hgd : o.guard = none) (s x : Operand)
 (ho:o.op = .call { callee := .builtin .append,args:=#[s,x],argTypes:=#[33,33] })
 (base:Nat) (v:Value) (l:List Int) (hs:a.eval s=v) (hown:OwnInts base w v l) {S:Nat→Prop} (sa:Option Addr) (m c:Nat) (L:List Int) (hx:a.eval x = .slice sa m c) (hsl:SlAt S w 1 rInt (.slice sa m c) L) (hm:L.length=m)
 (hn:l.length+m≤1048576) (hbase:base≤w.heap.size)
 (h:∀v' w',OwnInts base w' v' (l++L)→w.grownBy w' v.ownBlock→wpList Tryz.prog ops Q rest (a.put o.dst v') w') :
 wpList Tryz.prog ops Q (o :: rest) a w:=by
 subst hm;obtain⟨ii,hii,hz0,hz1,hz2⟩:=info_parts infoInt';have hi64:∀x∈L,I64 x:=fun x hx=>by
  obtain⟨i,hi,rfl⟩:=List.getElem_of_mem hx;obtain⟨-,-,cs9,-,-,⟨-,h1,h2⟩,-⟩:=hsl.get hi;exact⟨h1,h2⟩
 have hall:∀x∈l++L,I64 x:=fun x hx=>(List.mem_append.1 hx).elim (hown.2 x) (hi64 x);refine wpList_plain hgd fun K hK=>?_;cases sa with
 | none =>
   have hl:=hsl.none;subst hl;rw [List.append_nil] at h hall;have hrun:(Builtin.append_ #[33,33] o.type #[v,.slice none 0 c]).run Tryz.prog w = .ok v w:=by
    rcases hown.1.2 with⟨rfl,-⟩ | ⟨g,cap,cur,rfl,-,-,hnc,-⟩
    · simp [Builtin.append_,run_underlying Tryz.underlying33,sizeOf,typeInfo,hii,Builtin.lenOf,Builtin.firstCells]
    · simp [Builtin.append_,run_underlying Tryz.underlying33,sizeOf,typeInfo,hii,Builtin.lenOf,Builtin.firstCells,hnc,storeCells]
   unfold Oper.wp execOp;simp only [ho,resolve,invoke,builtin,Sem.run_bind,Sem.run_pure,Result.andThen_ok,List.map_toArray,List.map_cons,List.map_nil,hs,hx,List.length_nil,hrun];exact hK _ _ (h v w hown ⟨rfl,rfl,rfl,Nat.le_refl _,fun _ _ _=>rfl⟩)
 | some ad =>
   cases hL:L with
   | nil =>
     subst hL;rw [List.append_nil] at h hall;obtain⟨v',w',hr,h2,h3,-⟩:=run_append_own (P:=Tryz.prog) w base 33 o.type 3 ii (.int .i64 0) 1 8 Tryz.underlying33 hii hz0 hz1 hz2 rfl (by decide) v l.length _ hown.1 ad 0 c [] rfl (fun j u hj=>by simp at hj) (fun u hu=>by simp at hu) (by unfold maxLen;omega) (by omega) hbase;unfold Oper.wp execOp;simp only [ho,resolve,invoke,builtin,Sem.run_bind,Sem.run_pure,Result.andThen_ok,List.map_toArray,List.map_cons,List.map_nil,hs,hx,List.length_nil,hr];exact hK _ _ (h v' w' ⟨by simpa using h2,hall⟩ h3)
   | cons y L' =>
     obtain⟨b,off,hab,-⟩:=int_at hsl (t:=0) (by rw [hL];simp);cases hab;obtain⟨v',w',hr,h2,h3,-⟩:=run_append_own (P:=Tryz.prog) w base 33 o.type 3 ii (.int .i64 0) 1 8 Tryz.underlying33 hii hz0 hz1 hz2 rfl (by decide) v l.length _ hown.1 ⟨b,off,none⟩ L.length c (L.map fun x => .int .i64 x) (by simp) (sl_news hsl) (fun u hu=>by obtain⟨x,-,rfl⟩:=List.mem_map.1 hu;rfl) (by unfold maxLen;omega) (by omega) hbase;unfold Oper.wp execOp;simp only [ho,resolve,invoke,builtin,Sem.run_bind,Sem.run_pure,Result.andThen_ok,List.map_toArray,List.map_cons,List.map_nil,hs,hx,hr];exact hK _ _ (h v' w' ⟨by rw [List.length_append,List.map_append];exact h2,hall⟩ h3)
theorem wpList_append_zs {w : World} {ops : Array Oper} {rest : List Oper} {o : Oper} {a : Act} {Q : Exit → Act → World → Prop} (hgd : o.guard = none) (s x : Operand)
 (ho:o.op = .call { callee := .builtin .append,args:=#[s,x],argTypes:=#[33,3] })
 (base:Nat) (v:Value) (l:List Int) (hs:a.eval s=v) (hown:OwnInts base w v l) (m:Nat) (hx:a.eval x = .int .i64 (m:Int))
 (hn:l.length+m≤1048576) (hbase:base≤w.heap.size)
 (h:∀v' w',OwnInts base w' v' (l++List.replicate m 0)→w.grownBy w' v.ownBlock→wpList Tryz.prog ops Q rest (a.put o.dst v') w') :
 wpList Tryz.prog ops Q (o :: rest) a w:=by
 obtain⟨ii,hii,hz0,hz1,hz2⟩:=info_parts infoInt';refine wpList_append_zeros w hgd s x 33 3 ho base 3 ii (.int .i64 0) 8 Tryz.underlying33 Tryz.underlying3 hii hz0 hz1 hz2 rfl rfl v l.length _ hs hown.1 m hx (by unfold maxLen;omega) (by omega) hbase ?_;intro v' w' h2 h3 _;refine h v' w' ⟨?_,fun x hx=>(List.mem_append.1 hx).elim (hown.2 x) (fun h=>by rw [List.eq_of_mem_replicate h];exact⟨by decide,by decide⟩)⟩ h3;rw [List.length_append,List.map_append,List.length_replicate,List.map_replicate];exact h2

set_option maxRecDepth 100000 in
set_option maxHeartbeats 4000000 in
theorem words_any {S:Nat→Prop}(ga fa:Option Addr)(gc fn fc:Nat)(gs:List DGlobal)(w:World)(hg:SlAt S w 3 rGlobal (.slice ga gs.length gc) gs)(hn:gs.length≤10)(hsz:∀g∈gs,0≤g.size∧g.size≤200∧(g.init.length:Int)≤g.size) :
 Calls Tryz.prog 34 #[.agg #[.slice ga gs.length gc,.slice fa fn fc]] w fun e w'=>∃v,e = .returned v∧OwnInts w.heap.size w' v (wordsL gs)∧Below w.heap.size w w':=by
 have Hg:=hid hg;have Hsz:=hid hsz;clear hg hsz;obtain⟨ii,hii,hiz0,hiz1,hiz2⟩:=info_parts infoInt';go_enter Tryz.func34,Tryz.ntmps34;go_wp2_with fail;obtain⟨W,hW⟩:∃W,W=w.alloc (.cells #[.slice ga gs.length gc,.slice fa fn fc] 25):=⟨_,rfl⟩
 have hbW:Below w.heap.size w W:=by rw [hW];(repeat (first | exact Below.refl _ _ | refine Below.alloc ?_ (by first|omega|(simp<;>omega)) _ | refine Below.setCell ?_ (by first|omega|(simp<;>omega)) _ | refine below_drewN ?_ _ | refine Below.drew ?_))
 have g0:W.cell? ⟨w.heap.size,0,none⟩=some (.slice ga gs.length gc):=by rw [hW];simp
 have hWs:W.heap.size=w.heap.size+1:=by rw [hW];simp
 rw [←hW];have HbW:=hid hbW;have HWs:=hid hWs;clear hW hbW g0 hWs;go_loopw [3,9] (fun v3 i wr=>∃(k:Nat) (v:Value),v=v3∧k≤gs.length∧i = .int .i64 k∧OwnInts W.heap.size wr v (wordsK gs k)∧Below W.heap.size W wr) (fun _ i _=>gs.length - (intOf i).toNat)
 case atStart=>exact⟨0,_,rfl,Nat.zero_le _,rfl,OwnInts.nil _ _,Below.refl _ _⟩
 case round =>
  obtain⟨k,v,rfl,hk,rfl,ho,hb⟩:=hrel;have Ho:=hid ho;have Hb:=hid hb;have Hw:Hid (Below w.heap.size w wr):=HbW.out.trans (hb.mono HbW.out.size);have zW:W.heap.size≤wr.heap.size:=hb.size;clear ho hb
  by_cases hkl:k<gs.length
  · obtain⟨b,off,ia,ic,rfl,hcs,hin,-⟩:=global_at (Hg.out.later rGlobal_mono Hw.out) hkl
    obtain⟨c0,c1,c2⟩:=hcs.get3;have zb:b<wr.heap.size:=cell_lt c0;have hs:=Hsz.out _ (List.getElem_mem hkl);have hs2:=(hs.2.2)
    have hw1:=wordsK_len (gs:=gs) (fun g hg=>(Hsz.out g hg).2.2) k hk;have hw2:=wordsUp_bd (gs:=gs) (fun g hg=>⟨(Hsz.out g hg).1,(Hsz.out g hg).2.1⟩) k hk;have hwl:(wordsK gs k).length≤2000:=by omega
    have Hwl:=hid hwl;have Hin:=hid hin;have Hi64:Hid (∀x∈gs[k].init,I64 x):=fun x hx=>by
     obtain⟨i,hi,rfl⟩:=List.getElem_of_mem hx;obtain⟨-,-,cs9,-,-,⟨-,h1,h2⟩,-⟩:=hin.get hi;exact⟨h1,h2⟩
    have Hstep:Hid (wordsK gs (k+1)=wordsK gs k++gs[k].init++List.replicate (gs[k].size - gs[k].init.length).toNat 0):=by
     show _=_;rw [wordsK_succ hkl,wordsG,List.append_assoc]
    obtain⟨m,hm⟩:∃m,gs[k].init.length=m:=⟨_,rfl⟩
    obtain⟨z,hz⟩:∃z,gs[k].size=z:=⟨_,rfl⟩
    rw [hm] at c2 hs2;rw [hz] at hs hs2 c1;have Hin2:Hid (SlAt S wr 1 rInt (.slice ia m ic) gs[k].init):=by have h:=Hin.out;rw [hm] at h;exact h
    have Hm:=hid hm;have Hz:=hid hz;have hm2:m≤200:=by omega
    obtain⟨q,hq⟩:∃q:Nat,z - (m:Int)=(q:Int):=Int.eq_ofNat_of_zero_le (by omega);have hq2:q≤200:=by omega
    have Hq:=hid hq;have hzq:z=(m:Int)+(q:Int):=by omega
    have Hzq:=hid hzq;clear hcs hin hw1 hw2 hwl hm hz hq hs hs2 hzq;rw [Hzq.out] at c1
    go_wp2_with (first
     | (at_builtin; refine wpList_append_ints rfl _ _ rfl W.heap.size v (wordsK gs k) rfl ?_ ia m ic gs[k].init rfl (Hin2.out.later rInt_mono (by (repeat (first | exact Below.refl _ _ | refine Below.alloc ?_ (by first|omega|(simp<;>omega)) _ | refine Below.setCell ?_ (by first|omega|(simp<;>omega)) _ | refine below_drewN ?_ _ | refine Below.drew ?_)))) Hm.out ?_ ?_ ?_
        · exact Ho.out.later (by (repeat (first | exact Below.refl _ _ | refine Below.alloc ?_ (by first|omega|(simp<;>omega)) _ | refine Below.setCell ?_ (by first|omega|(simp<;>omega)) _ | refine below_drewN ?_ _ | refine Below.drew ?_)))
        · have := Hwl.out; omega
        · simp; omega
        intro v2 w2 ho2 hg2
        have Ho2 := hid ho2
        have hb2 : Below W.heap.size W w2 := by
         refine Below.grown ?_ hg2 (by simp; omega) (fun g hg => (Ho.out.1.lt g hg).1)
         have h := Hb.out
         (have hz0 := (h).size; have hy0 := hz0; (try simp at hy0); repeat (first | exact Below.refl _ _ | refine Below.trans ?_ ((h).mono (by first|omega|(simp<;>omega))) | refine Below.alloc ?_ (by first|omega|(simp<;>omega)) _ | refine Below.setCell ?_ (by first|omega|(simp<;>omega)) _ | refine below_drewN ?_ _ | refine Below.drew ?_))
        have Hb2 := hid hb2
        have hvb : some wr.heap.size ≠ v.ownBlock := fun e => by have := (Ho.out.1.lt _ e.symm).2; omega
        have b1 : w2.cell? ⟨wr.heap.size, 1, none⟩ = some (.int .i64 ((m : Int) + (q : Int))) := hg2.cell (a := ⟨wr.heap.size, 1, none⟩) (by simp) hvb
        have b2 : w2.cell? ⟨wr.heap.size, 2, none⟩ = some (.slice ia m ic) := hg2.cell (a := ⟨wr.heap.size, 2, none⟩) (by simp) hvb
        have zb2 : wr.heap.size < w2.heap.size := cell_lt b1
        have hll : (wordsK gs k ++ gs[k].init).length + q ≤ 1048576 := by
         rw [List.length_append, Hm.out]; have := Hwl.out; omega
        have Hll := hid hll
        clear ho2 hg2 hb2 hvb hll c0 c1 c2)
     | (at_builtin; refine wpList_append_zs rfl _ _ rfl W.heap.size v2 (wordsK gs k ++ gs[k].init) rfl Ho2.out q (show Value.int .i64 ((m : Int) + (q : Int) - (m : Int)) = .int .i64 (q : Int) by rw [show (m : Int) + (q : Int) - (m : Int) = (q : Int) by omega]) Hll.out ?_ ?_
        · omega
        intro v3 w3 ho3 hg3
        have hb3 : Below W.heap.size W w3 := Below.grown Hb2.out hg3 (by omega) (fun g hg => (Ho2.out.1.lt g hg).1)
        have Hb3 := hid hb3
        have Hst : Hid (wordsK gs (k + 1) = wordsK gs k ++ gs[k].init ++ List.replicate q 0) := by
         show _ = _
         rw [Hstep.out, show (gs[k].size - (gs[k].init.length : Int)).toNat = q by rw [Hm.out, Hz.out, Hzq.out]; omega]
        have Ho3 : Hid (OwnInts W.heap.size w3 v3 (wordsK gs (k + 1))) := by show OwnInts _ _ _ _; rw [Hst.out]; exact ho3
        obtain ⟨a3, c3, rfl⟩ := Ho3.out.shape
        clear ho3 hg3 hb3))
    go_roundw
    case rel=>exact⟨k+1,_,rfl,by omega,by go_num,Ho3.out,Hb3.out⟩
    case measure=>simp [intOf];omega
  · have hkn:k=gs.length:=by omega
    have Ho9:Hid (OwnInts W.heap.size wr v (wordsL gs)):=by have h:=Ho.out;rw [hkn] at h;exact h
    clear hkn;obtain⟨a3,c3,rfl⟩:=Ho9.out.shape;go_wp2_with fail;go_ret;refine⟨_,rfl,?_,Hw.out⟩;have h:=Ho9.out;refine⟨⟨h.1.1,?_⟩,h.2⟩;rcases h.1.2 with h1 | ⟨g,cap,cur,e1,h2,h3⟩
    · exact .inl h1
    · exact .inr ⟨g,cap,cur,e1,by have:=HWs.out;omega,h3⟩

end Go.Proofs.YtnkogppgacappaaGreatDoor

namespace Go.Proofs.YtnkogppgacappaaGreatDoor
open Go.RowKit

theorem checkF_globs {u:DUnit}(h:(checkF u).1=0):u.globals.length≤10∧(∀g∈u.globals,0≤g.size∧g.size≤200∧(g.init.length:Int)≤g.size) ∧
 wordsUp u.globals u.globals.length=((wordsL u.globals).length:Int)∧(wordsL u.globals).length≤200:=by
 obtain⟨h1,-,h2,-,-⟩:=checkF_ok h;have h3:∀g∈u.globals,0≤g.size∧g.size≤200∧(g.init.length:Int)≤g.size:=by
  intro g hg;obtain⟨k,hk,rfl⟩:=List.getElem_of_mem hg;have h4:=h2 k;unfold globE at h4;rw [List.getElem?_eq_getElem hk] at h4;obtain⟨-,-,a1,a2,a3,-⟩:=globErr_ok h4;exact⟨by omega,a2,a3⟩
 have h4:((wordsL u.globals).length:Int)=wordsUp u.globals u.globals.length:=wordsK_len (fun g hg=>(h3 g hg).2.2) _ (Nat.le_refl _);have h5:=words_bound (Nat.le_refl u.globals.length) (fun j _=>h2 j);exact⟨h1,h3,h4.symm,by omega⟩

end Go.Proofs.YtnkogppgacappaaGreatDoor
