/- append, copy and clear on a row of a call's own, in place: what the row holds behind them. No function of the program in sight. slices.Delete of one value, slices.Insert of one value, in place. -/
import Derived.Test.YtnkogppgacappaaGreatDoorPGCopyL
import Derived.Laws.CopyOwn
import Derived.Test.YtnkogppgacappaaGreatDoorPBack
import Derived.Lib.Overlaps
import Derived.Laws.Externs
import Derived.BigRegion
import Derived.Deep.DeepCutAuto
import Derived.Deep.RegionLaw
namespace Go.Proofs.YtnkogppgacappaaGreatDoor
open Go.RowKit

def rowOf(w:World)(g:Nat)(T:TypeId)(cur:List Value):Prop:=w.heap[g]?=some (.cells cur.toArray T (0,0))
theorem rowOf_set {w:World}{g:Nat}{T:TypeId}{cur:List Value}(h:rowOf w g T cur)(c2:List Value):rowOf (w.setRow g c2.toArray) g T c2:=setRow_heap w g _ _ _ _ h
theorem grownBy_setRow(w:World)(g:Nat)(cs:Array Value):w.grownBy (w.setRow g cs) (some g):=⟨rfl,rfl,rfl,by simp [World.setRow],fun k _ hne=>setRow_other w g k cs (fun e=>hne (by rw [e]))⟩
theorem grownBy_same {a b c:World}{r:Option Nat}(h:a.grownBy b r)(k:b.grownBy c r):a.grownBy c r :=
 ⟨k.os.trans h.os,k.tape.trans h.tape,k.output.trans h.output,Nat.le_trans h.size k.size,fun x hx hne=>(k.block x (Nat.lt_of_lt_of_le hx h.size) hne).trans (h.block x hx hne)⟩
theorem grownBy_drew(w:World)(r:Option Nat):w.grownBy w.drew r:=⟨rfl,rfl,rfl,Nat.le_refl _,fun _ _ _=>rfl⟩
theorem rowOf_cell {w:World}{g:Nat}{T:TypeId}{cur:List Value}(h:rowOf w g T cur){i:Nat}{u:Value}(hi:cur[i]?=some u):w.cell? ⟨g,i,none⟩=some u:=by
 rw [cell_row h,List.getElem?_toArray];exact hi
theorem splice_list {α:Type}(L:List α)(off:Nat)(cs:List α):splice L off cs=L.take off++cs++L.drop (off+cs.length):=by unfold splice;rw [List.append_assoc]
section
variable {P : Program} {w : World}
theorem run_append_fit (t ty e : TypeId) (i : TypeInfo) (ht : P.underlying t = some (.slice e)) (hi : P.info? e = some i) (sz : Nat) (hz : i.size = sz)
 (g off n cap:Nat) (ad:Addr) (m c:Nat) (news:List Value) (hl:news.length=m * sz) (hnews:∀(j:Nat) u,news[j]?=some u→w.cell? (ad.add j)=some u) (h1:∀u∈news,u.oneCell'=true)
 {T:TypeId} {cur:List Value} (hr:rowOf w g T cur) (hroom:n+m≤cap) (hfit:off+n * sz+news.length≤cur.length) :
 (Builtin.append_ #[t,t] ty #[.slice (some ⟨g,off,none⟩) n cap,.slice (some ad) m c]).run P w = .ok (.slice (some ⟨g,off,none⟩) (n+m) cap) (w.setRow g (splice cur (off+n * sz) news).toArray):=by
 subst hz;have hfc:=run_firstCells_some (P:=P) w i.size m ad m c news hl hnews;have hst:=run_storeCells_at P g (off+n * i.size) T news 0 cur.toArray w hr (by simpa using hfit) h1;rw [splice_list];simp only [Nat.add_zero] at hst;simp [Builtin.append_,run_underlying ht,sizeOf,typeInfo,hi,Builtin.lenOf,hroom,hfc,Addr.add_lit,hst]
theorem run_copy_fit (dT sT ty elem : TypeId) (sz g o dLen dCap : Nat) (ad : Addr) (sLen sCap : Nat) {T : TypeId} {cur : List Value} (cs : List Value) (n : Nat)
 (hu:P.underlying dT=some (.slice elem)) (hs:(P.info? elem).map (·.size)=some sz) (hr:rowOf w g T cur) (hn:n=Nat.min sLen dLen) (hcs:cs.length=n * sz)
 (hsrc:∀(j:Nat) v,cs[j]?=some v→w.cell? (ad.add j)=some v) (hfit:o+cs.length≤cur.length) (h1:∀v∈cs,v.oneCell'=true) :
 (Builtin.copy_ #[dT,sT] ty #[.slice (some ⟨g,o,none⟩) dLen dCap,.slice (some ad) sLen sCap]).run P w = .ok (goInt n) (w.setRow g (splice cur o cs).toArray):=by
 have hl:=run_loadCells_list (P:=P) w ad cs hsrc;have hst:=run_storeCells_at P g o T cs 0 cur.toArray w hr (by simpa using hfit) h1;rw [splice_list];rw [hcs] at hl;cases hq:P.info? elem with
 | none=>simp [hq] at hs
 | some i =>
   have hi:i.size=sz:=by simpa [hq] using hs
   simp [Builtin.copy_,run_underlying hu,Builtin.lenOf,Builtin.firstCells,sizeOf,typeInfo,hq,hi,←hn,hl,hst]
theorem run_clear_one (t e ty : TypeId) (z : Value) (zs : List Value) (ht : P.underlying t = some (.slice e)) (hv : ∀ w, (zeroValue e).run P w = .ok z w) (hz : z.cells = zs.toArray) (h1 : ∀ u ∈ zs, u.oneCell' = true)
 (g o c:Nat) {T:TypeId} {cur:List Value} (hr:rowOf w g T cur) (hfit:o+zs.length≤cur.length) :
 (Builtin.clear_ #[t] ty #[.slice (some ⟨g,o,none⟩) 1 c]).run P w = .ok (.tuple #[]) (w.setRow g (splice cur o zs).toArray):=by
 have hst:=run_storeCells_at P g o T zs 0 cur.toArray w hr (by simpa using hfit) h1;have hzc:(Builtin.zeroCells z.cells 1).toList=zs:=by
  rw [hz];apply List.ext_getElem
  · simp [Builtin.zeroCells]
  · intro i h2 h3
    simp [Builtin.zeroCells,Nat.mod_eq_of_lt h3,List.getElem?_eq_getElem h3]
 rw [splice_list];simp [Builtin.clear_,run_underlying ht,hv,hzc,hst]
theorem wpList_append_run {ops : Array Oper} {rest : List Oper} {o : Oper} {a : Act} {Q : Exit → Act → World → Prop} (hgd : o.guard = none) (d s : Operand) (t t' : TypeId)
 (ho:o.op = .call { callee := .builtin .append,args:=#[d,s],argTypes:=#[t,t'] }) (v u:Value) (hd:a.eval d=v) (hs:a.eval s=u) {v':Value} {w':World}
 (hr:(Builtin.append_ #[t,t'] o.type #[v,u]).run P w = .ok v' w') (h:wpList P ops Q rest (a.put o.dst v') w'):wpList P ops Q (o :: rest) a w:=by
 refine wpList_plain hgd fun K hK=>?_;unfold Oper.wp execOp;simp only [ho,resolve,invoke,builtin,Sem.run_bind,Sem.run_pure,Result.andThen_ok,List.map_toArray,List.map_cons,List.map_nil,hd,hs,hr];exact hK _ _ h
theorem step_append_run {ops : Array Oper} {o : Oper} {a : Act} {K : Act → World → Prop} {Q : Exit → Act → World → Prop} {E : Prop} (hgd : o.guard = none) (d s : Operand) (t t' : TypeId)
 (ho:o.op = .call { callee := .builtin .append,args:=#[d,s],argTypes:=#[t,t'] }) (v u:Value) (hd:a.eval d=v) (hs:a.eval s=u) {v':Value} {w':World}
 (hr:(Builtin.append_ #[t,t'] o.type #[v,u]).run P w = .ok v' w') (h:K (a.put o.dst v') w'):if Region.wanted o (yielded ops a.tmps)=true then Oper.wp P o a w K Q else E:=by
 have hw:Region.wanted o (yielded ops a.tmps)=true:=by simp [Region.wanted,hgd]
 rw [if_pos hw];unfold Oper.wp execOp;simp only [ho,resolve,invoke,builtin,Sem.run_bind,Sem.run_pure,Result.andThen_ok,List.map_toArray,List.map_cons,List.map_nil,hd,hs,hr];exact h
end

end Go.Proofs.YtnkogppgacappaaGreatDoor

namespace Go.Proofs.YtnkogppgacappaaGreatDoor
open Go.RowKit

def delC(cur:List Value)(n k:Nat):List Value:=cur.take (k * 2)++(cur.drop ((k+1) * 2)).take ((n - (k+1)) * 2)
def insC(cur:List Value)(n j:Nat)(cs:List Value):List Value:=cur.take (j * 2)++cs++(cur.drop (j * 2)).take ((n - j) * 2)

set_option maxRecDepth 100000 in
set_option maxHeartbeats 2000000 in
theorem delete_any(g n c k:Nat)(cur:List Value)(w:World)(hr:rowOf w g 72 cur)(hlen:cur.length=c * 2)(hone:∀u∈cur.take (n * 2),u.oneCell'=true)(hkn:k<n)(hnc:n≤c)(hn:n≤1048576)(hc63:c≤9223372036854775807) :
 Calls Tryz.prog 131 #[.slice (some ⟨g,0,none⟩) n c,.int .i64 (k:Int),.int .i64 ((k:Int)+1)] w fun e w' =>
  e = .returned (.slice (some ⟨g,0,none⟩) (n - 1) c)∧w.grownBy w' (some g)∧∃cur',rowOf w' g 72 cur'∧cur'.length=c * 2∧cur'.take ((n - 1) * 2)=delC cur n k:=by
 obtain⟨i0,hi0,hz0,hz1,hz2⟩:=info_parts infoVal;obtain⟨news,hnews⟩:∃news,news=(cur.drop ((k+1) * 2)).take ((n - (k+1)) * 2):=⟨_,rfl⟩
 have hnl:news.length=(n - (k+1)) * 2:=by rw [hnews,List.length_take,List.length_drop];omega
 have hn1 : ∀ u ∈ news, u.oneCell' = true := fun u hu => hone u (by
  rw [hnews, show (n - (k + 1)) * 2 = n * 2 - (k + 1) * 2 by omega, ← List.drop_take] at hu
  exact List.mem_of_mem_drop hu)
 have hnc2:∀(j:Nat) u,news[j]?=some u→w.cell? ⟨g,(k+1) * 2+j,none⟩=some u:=fun j u hj=>by
  refine rowOf_cell hr ?_;rw [hnews,List.getElem?_take] at hj;split at hj
  · rw [List.getElem?_drop] at hj;exact hj
  · cases hj
 obtain⟨c1,hc1⟩:∃c1,c1=splice cur (k * 2) news:=⟨_,rfl⟩
 have hc1l:c1.length=c * 2:=by rw [hc1,length_splice _ _ _ (by omega),hlen]
 obtain⟨c2,hc2⟩:∃c2,c2=splice c1 ((n - 1) * 2) [Value.bool false,.int .i64 0]:=⟨_,rfl⟩
 have hc2l:c2.length=c * 2:=by rw [hc2,length_splice _ _ _ (by simp;omega),hc1l]
 have hfin:c2.take ((n - 1) * 2)=delC cur n k:=by
  have hk2:(cur.take (k * 2)).length=k * 2:=by rw [List.length_take];omega
  have e1:c2.take ((n - 1) * 2)=c1.take ((n - 1) * 2):=by
   have hl:(c1.take ((n - 1) * 2)).length=(n - 1) * 2:=by rw [List.length_take];omega
   rw [hc2,splice_list,List.append_assoc,List.take_append_of_le_length (by omega),List.take_take,Nat.min_self]
  rw [e1,hc1,splice_list];have hl2:(cur.take (k * 2)++news).length=(n - 1) * 2:=by rw [List.length_append,hk2,hnl];omega
  rw [List.take_append_of_le_length (by omega),←hl2,List.take_length,hnews];rfl
 have hrd:rowOf w.drew g 72 cur:=hr;have hW1:=rowOf_set hrd c1;have hW2:=rowOf_set hW1 c2;have hg1:w.grownBy (w.drew.setRow g c1.toArray) (some g):=grownBy_same (grownBy_drew w (some g)) (grownBy_setRow _ _ _);have hg2:=grownBy_same hg1 (grownBy_setRow (w.drew.setRow g c1.toArray) g c2.toArray);have hcl:∀ty cc,(Builtin.clear_ #[78] ty #[.slice (some ⟨g,(n - 1) * 2,none⟩) 1 cc]).run Tryz.prog (w.drew.setRow g c1.toArray) = .ok (.tuple #[]) ((w.drew.setRow g c1.toArray).setRow g c2.toArray):=fun ty cc=>by
  rw [hc2]
  exact run_clear_one _ _ ty (.agg #[.bool false, .int .i64 0]) [.bool false, .int .i64 0] Tryz.underlying78 Tryz.zeroValue72 rfl (fun u hu => by
   simp only [List.mem_cons, List.not_mem_nil, or_false] at hu
   rcases hu with rfl | rfl <;> rfl) g _ cc hW1 (by simp; omega)
 have Hr2:=hid hW2;have Hg2:=hid hg2;have Hfin:=hid hfin;have Hc2:Hid (c2.length=c * 2):=hc2l;have hw1:IntKind.i64.wrap ((k:Int)+1)=(k:Int)+1:=by rw [IntKind.wrap_i64];omega
 by_cases hck:c=k+1
 · have hap:∀ty,(Builtin.append_ #[78,78] ty #[.slice (some ⟨g,0,none⟩) k c,.slice (some ⟨g,0,none⟩) 0 0]).run Tryz.prog w.drew = .ok (.slice (some ⟨g,0,none⟩) k c) (w.drew.setRow g c1.toArray):=fun ty=>by
    have hn0:news=[]:=List.eq_nil_of_length_eq_zero (by rw [hnl];omega);have h:=run_append_fit (P:=Tryz.prog) (w:=w.drew) 78 ty 72 i0 Tryz.underlying78 hi0 2 hz1 g 0 k c ⟨g,0,none⟩ 0 0 news (by rw [hnl];omega) (fun j u hj=>by rw [hn0] at hj;simp at hj) hn1 hrd (by omega) (by rw [hnl];omega);rw [Nat.zero_add,←hc1] at h;exact h
   clear hr hlen hone hnl hn1 hnc2 hc1l hc2l hfin hrd hW1 hW2 hg1 hg2 hc1 hc2 hnews;obtain rfl:n=k+1:=by omega
   subst hck;rw [Nat.add_sub_cancel] at hcl;have hb2:(k:Int)≤(k:Int)+1:=by omega
   have hb6:(0:Int)≤(k:Int)+1:=by omega
   go_enter Tryz.func131,Tryz.ntmps131;go_wp2_with fail;go_region_law (refine step_append_run rfl _ _ 78 78 rfl _ _ (by simp [Act.eval,Act.put]) (by simp [Act.eval,Act.put]) (hap _) ?_)
   all_goals
    go_wp2_with (at_builtin;refine wpList_clear_run rfl _ 78 rfl _ rfl (hcl _ _) ?_);go_ret;exact⟨rfl,Hg2.out,c2,Hr2.out,Hc2.out,Hfin.out⟩
 · have hap:∀ty,(Builtin.append_ #[78,78] ty #[.slice (some ⟨g,0,none⟩) k c,.slice (some ⟨g,(k+1) * 2,none⟩) (n - (k+1)) (c - (k+1))]).run Tryz.prog w.drew = .ok (.slice (some ⟨g,0,none⟩) (n - 1) c) (w.drew.setRow g c1.toArray):=fun ty=>by
    have h:=run_append_fit (P:=Tryz.prog) (w:=w.drew) 78 ty 72 i0 Tryz.underlying78 hi0 2 hz1 g 0 k c ⟨g,(k+1) * 2,none⟩ (n - (k+1)) (c - (k+1)) news hnl (fun j u hj=>by rw [Addr.add_lit];exact hnc2 j u hj) hn1 hrd (by omega) (by rw [hnl];omega);rw [Nat.zero_add,←hc1,show k+(n - (k+1))=n - 1 by omega] at h;exact h
   have hcl2:∀ty cc,(Builtin.clear_ #[78] ty #[.slice (some ⟨g,(n - 1) * 2,none⟩) (n - (n - 1)) cc]).run Tryz.prog (w.drew.setRow g c1.toArray) = .ok (.tuple #[]) ((w.drew.setRow g c1.toArray).setRow g c2.toArray):=fun ty cc=>by
    rw [show n - (n - 1)=1 by omega];exact hcl ty cc
   clear hcl;have hcl:=hcl2;clear hcl2;have hb1:¬c=n - 1:=by omega
   have hb2:k≤c:=by omega
   have hb3:(k:Int)+1≤(n:Int):=by omega
   have hb4:((k:Int)+1).toNat=k+1:=by omega
   have hb5:k+1≤n:=by omega
   have hb6:(0:Int)≤(k:Int)+1:=by omega
   clear hr hlen hone hnl hn1 hnc2 hc1l hc2l hfin hrd hW1 hW2 hg1 hg2 hc1 hc2 hnews;go_enter Tryz.func131,Tryz.ntmps131;go_wp2_with fail;go_region_law (refine step_append_run rfl _ _ 78 78 rfl _ _ (by simp [Act.eval,Act.put]) (by simp [Act.eval,Act.put]) (hap _) ?_)
   all_goals
    go_wp2_with (at_builtin;refine wpList_clear_run rfl _ 78 rfl _ rfl (hcl _ _) ?_);go_ret;exact⟨rfl,Hg2.out,c2,Hr2.out,Hc2.out,Hfin.out⟩

theorem infoValS:(Tryz.prog.info? 72).map (·.size)=some 2:=by kernel_rfl
set_option maxRecDepth 100000 in
set_option maxHeartbeats 2000000 in
theorem insert_any (g n c j b : Nat) (r : Bool) (x : Int) (cur : List Value) (w : World) (hr : rowOf w g 72 cur) (hlen : cur.length = c * 2) (hone : ∀ u ∈ cur.take (n * 2), u.oneCell' = true) (hj : j ≤ n) (hnc : n + 1 ≤ c) (hn : n ≤ 1048576) (_hc63 : c ≤ 9223372036854775807)
 (hvb:w.heap[b]?=some (.cells #[.bool r,.int .i64 x] 72 (0,0))) (hne:b≠g) :
 Calls Tryz.prog 130 #[.slice (some ⟨g,0,none⟩) n c,.int .i64 (j:Int),.slice (some ⟨b,0,none⟩) 1 1] w fun e w' =>
  e = .returned (.slice (some ⟨g,0,none⟩) (n+1) c)∧w.grownBy w' (some g)∧∃cur',rowOf w' g 72 cur'∧cur'.length=c * 2∧cur'.take ((n+1) * 2)=insC cur n j [.bool r,.int .i64 x]:=by
 obtain⟨i0,hi0,hz0,hz1,hz2⟩:=info_parts infoVal;have hv1:∀u∈[Value.bool r,.int .i64 x],u.oneCell'=true:=fun u hu=>by
  simp only [List.mem_cons,List.not_mem_nil,or_false] at hu;rcases hu with rfl | rfl <;> rfl
 have hbc:∀(k:Nat) u,[Value.bool r,.int .i64 x][k]?=some u→w.cell? ((⟨b,0,none⟩:Addr).add k)=some u:=fun k u hk=>by
  rw [Addr.add_lit,Nat.zero_add,cell_row hvb];simpa using hk
 by_cases hjn:j=n
 · subst hjn
   obtain⟨c1,hc1⟩:∃c1,c1=splice cur (j * 2) [Value.bool r,.int .i64 x]:=⟨_,rfl⟩
   have hc1l:c1.length=c * 2:=by rw [hc1,length_splice _ _ _ (by simp;omega),hlen]
   have hap:∀ty,(Builtin.append_ #[78,78] ty #[.slice (some ⟨g,0,none⟩) j c,.slice (some ⟨b,0,none⟩) 1 1]).run Tryz.prog w = .ok (.slice (some ⟨g,0,none⟩) (j+1) c) (w.setRow g c1.toArray):=fun ty=>by
    have h:=run_append_fit (P:=Tryz.prog) (w:=w) 78 ty 72 i0 Tryz.underlying78 hi0 2 hz1 g 0 j c ⟨b,0,none⟩ 1 1 [.bool r,.int .i64 x] rfl hbc hv1 hr hnc (by simp;omega);rw [Nat.zero_add,←hc1] at h;exact h
   have hfin:c1.take ((j+1) * 2)=insC cur j j [.bool r,.int .i64 x]:=by
    unfold insC;have hk2:(cur.take (j * 2)).length=j * 2:=by rw [List.length_take];omega
    have hl2:(cur.take (j * 2)++[Value.bool r,.int .i64 x]).length=(j+1) * 2:=by rw [List.length_append,hk2];simp;omega
    rw [hc1,splice_list,List.take_append_of_le_length (by omega),←hl2,List.take_length];simp
   have HR:=hid (rowOf_set hr c1);have HG:=hid (grownBy_setRow w g c1.toArray);have HF:Hid (c1.length=c * 2∧c1.take ((j+1) * 2)=insC cur j j [.bool r,.int .i64 x]):=⟨hc1l,hfin⟩
   have hb1:¬c=j:=by omega
   clear hr hlen hone hv1 hbc hvb hc1 hc1l hfin;go_enter Tryz.func130,Tryz.ntmps130;go_wp2_with (at_builtin;refine wpList_append_run rfl _ _ 78 78 rfl _ _ rfl rfl (hap _) ?_);go_ret;exact⟨rfl,HG.out,c1,HR.out,HF.out.1,HF.out.2⟩
 · obtain⟨ms,hms⟩:∃ms,ms=(cur.drop (j * 2)).take ((n - j) * 2):=⟨_,rfl⟩
   have hml:ms.length=(n - j) * 2:=by rw [hms,List.length_take,List.length_drop];omega
   have hm1 : ∀ u ∈ ms, u.oneCell' = true := fun u hu => hone u (by
    rw [hms, show (n - j) * 2 = n * 2 - j * 2 by omega, ← List.drop_take] at hu
    exact List.mem_of_mem_drop hu)
   have hmc:∀(k:Nat) u,ms[k]?=some u→w.drew.cell? ((⟨g,j * 2,none⟩:Addr).add k)=some u:=fun k u hk=>by
    rw [Addr.add_lit];refine rowOf_cell (show rowOf w.drew g 72 cur from hr) ?_;rw [hms,List.getElem?_take] at hk;split at hk
    · rw [List.getElem?_drop] at hk;exact hk
    · cases hk
   obtain⟨c1,hc1⟩:∃c1,c1=splice cur ((j+1) * 2) ms:=⟨_,rfl⟩
   have hc1l:c1.length=c * 2:=by rw [hc1,length_splice _ _ _ (by rw [hml];omega),hlen]
   obtain⟨c2,hc2⟩:∃c2,c2=splice c1 (j * 2) [Value.bool r,.int .i64 x]:=⟨_,rfl⟩
   have hc2l:c2.length=c * 2:=by rw [hc2,length_splice _ _ _ (by simp;omega),hc1l]
   have hrd:rowOf w.drew g 72 cur:=hr;obtain⟨W1,hW1⟩:∃W1,W1=w.drew.setRow g c1.toArray:=⟨_,rfl⟩
   have hr1:rowOf W1 g 72 c1:=by rw [hW1];exact rowOf_set hrd c1
   have hcp1:∀ty dc sc,(Builtin.copy_ #[78,78] ty #[.slice (some ⟨g,(j+1) * 2,none⟩) (n - j) dc,.slice (some ⟨g,j * 2,none⟩) (n+1 - j) sc]).run Tryz.prog w.drew = .ok (goInt (n - j:Nat)) W1:=fun ty dc sc=>by
    rw [hW1,hc1];exact run_copy_fit _ _ ty 72 2 g _ _ dc ⟨g,j * 2,none⟩ _ sc ms (n - j) Tryz.underlying78 infoValS hrd (by simp only [Nat.min_def];split <;> omega) hml hmc (by rw [hml];omega) hm1
   have hb2:W1.heap[b]?=some (.cells #[.bool r,.int .i64 x] 72 (0,0)):=by
    rw [hW1,setRow_other _ _ _ _ hne];exact hvb
   have hcp2:∀ty dc,(Builtin.copy_ #[78,78] ty #[.slice (some ⟨g,j * 2,none⟩) (n+1 - j) dc,.slice (some ⟨b,0,none⟩) 1 1]).run Tryz.prog W1 = .ok (goInt (1:Nat)) (W1.setRow g c2.toArray):=fun ty dc=>by
    rw [hc2]
    exact run_copy_fit _ _ ty 72 2 g _ _ dc ⟨b, 0, none⟩ 1 1 [.bool r, .int .i64 x] 1 Tryz.underlying78 infoValS hr1 (by simp only [Nat.min_def]; split <;> omega) rfl (fun k u hk => by
     rw [Addr.add_lit, Nat.zero_add, cell_row hb2]
     simpa using hk) (by simp; omega) hv1
   have hov:∀lb cb,(callFunc 142 #[.slice (some ⟨b,0,none⟩) 1 1,.slice (some ⟨g,(j+1) * 2,none⟩) lb cb]).run Tryz.prog w = .ok (.value (.bool false)) w:=fun lb cb=>by
    rw [run_callFunc_extern Tryz.func142 (by kernel_rfl) (by kernel_rfl) (by kernel_rfl) (e := Extern.SlicesOverlaps.overlaps #[78, 78] #[4]) (by kernel_rfl),
     Lib.run_overlaps_apart w 78 4 72 Tryz.underlying78 2 Tryz.sizeOf72 ⟨b, 0, none⟩ ⟨g, (j + 1) * 2, none⟩ 1 1 lb cb hne 72 72 2 (c * 2) (by simp [World.shape?, hvb]) (by simp [World.shape?, show w.heap[g]? = _ from hr, hlen]) (by omega) (by simp [World.frozen?, hvb]) (by simp [World.frozen?, hvb])]
    rfl
   have hfin:c2.take ((n+1) * 2)=insC cur n j [.bool r,.int .i64 x]:=by
    have hk2:(cur.take (j * 2)).length=j * 2:=by rw [List.length_take];omega
    have e1:c1.take (j * 2)=cur.take (j * 2):=by
     rw [hc1,splice_list,List.append_assoc,List.take_append_of_le_length (by rw [List.length_take];omega),List.take_take,Nat.min_eq_left (by omega)]
    have e2:(c1.drop (j * 2+2)).take ((n - j) * 2)=ms:=by
     have hl:(cur.take ((j+1) * 2)).length=j * 2+2:=by rw [List.length_take];omega
     rw [hc1,splice_list,List.append_assoc,←hl,List.drop_left,List.take_append_of_le_length (by omega),←hml,List.take_length]
    unfold insC;rw [hc2,splice_list,e1];have hl3:(cur.take (j * 2)++[Value.bool r,.int .i64 x]).length=j * 2+2:=by rw [List.length_append,hk2];rfl
    rw [List.take_append,hl3,List.take_of_length_le (by omega),show (n+1) * 2 - (j * 2+2)=(n - j) * 2 by omega];show _++((c1.drop (j * 2+2)).take _)=_;rw [e2,hms]
   have HR:=hid (rowOf_set hr1 c2);have HG:Hid (w.grownBy (W1.setRow g c2.toArray) (some g)):=by
    have h1:w.grownBy W1 (some g):=by rw [hW1];exact grownBy_same (grownBy_drew w (some g)) (grownBy_setRow _ _ _)
    exact grownBy_same h1 (grownBy_setRow _ _ _)
   have HF:Hid (c2.length=c * 2∧c2.take ((n+1) * 2)=insC cur n j [.bool r,.int .i64 x]):=⟨hc2l,hfin⟩
   have hw1:IntKind.i64.wrap ((j:Int)+1)=(j:Int)+1:=by rw [IntKind.wrap_i64];omega
   have hq1:¬c=j:=by omega
   have hq2:¬c=j+1:=by omega
   have hq3:j<n:=by omega
   have hq4:((j:Int)+1).toNat=j+1:=by omega
   have hq5:(0:Int)≤(j:Int)+1:=by omega
   have hq6:(j:Int)+1≤(n:Int)+1:=by omega
   have hq7:j+1≤n+1:=by omega
   have hq8:(j:Int)≤(n:Int)+1:=by omega
   clear hr hlen hone hv1 hbc hvb hc1 hc1l hfin hms hml hm1 hmc hc2 hc2l hrd hr1 hb2 hW1;go_enter Tryz.func130,Tryz.ntmps130;go_wp2_with (simp only [hov]);go_region_law (refine step_copy_run rfl _ _ 78 78 rfl _ _ (by simp [Act.eval,Act.put]) (by simp [Act.eval,Act.put]) (hcp1 _ _ _) ?_)
   all_goals
    go_wp2_with (at_builtin;refine wpList_copy_run rfl _ _ 78 78 rfl _ _ rfl rfl (hcp2 _ _) ?_);go_ret;exact⟨rfl,HG.out,c2,HR.out,HF.out.1,HF.out.2⟩

theorem flat_take {sz : Nat} : ∀ (xss : List (List Value)) (k : Nat), (∀ cs ∈ xss, cs.length = sz) → xss.flatten.take (k * sz) = (xss.take k).flatten
 | [],k,_=>by simp
 | ys :: xss,0,_=>by simp
 | ys :: xss,k+1,h=>by
   have hy:=h ys (List.mem_cons_self ..);rw [List.flatten_cons,List.take_succ_cons,List.flatten_cons,List.take_append,hy,List.take_of_length_le (by rw [hy,Nat.succ_mul];omega),show (k+1) * sz - sz=k * sz by rw [Nat.succ_mul];omega,flat_take xss k (fun cs hc=>h cs (List.mem_cons_of_mem _ hc))]
theorem flat_drop {sz : Nat} : ∀ (xss : List (List Value)) (k : Nat), (∀ cs ∈ xss, cs.length = sz) → xss.flatten.drop (k * sz) = (xss.drop k).flatten
 | [],k,_=>by simp
 | ys :: xss,0,_=>by simp
 | ys :: xss,k+1,h=>by
   have hy:=h ys (List.mem_cons_self ..);rw [List.flatten_cons,List.drop_succ_cons,List.drop_append,hy,List.drop_eq_nil_of_le (by rw [hy,Nat.succ_mul];omega),List.nil_append,show (k+1) * sz - sz=k * sz by rw [Nat.succ_mul];omega,flat_drop xss k (fun cs hc=>h cs (List.mem_cons_of_mem _ hc))]
theorem cellsV_wid(l:List DVal):∀cs∈l.map cellsV,cs.length=2:=fun cs hcs=>by
 obtain⟨x,_,rfl⟩:=List.mem_map.1 hcs;rfl
def delL(l:List DVal)(k:Nat):List DVal:=l.take k++l.drop (k+1)
def insL(l:List DVal)(j:Nat)(v:DVal):List DVal:=l.take j++[v]++l.drop j
theorem delL_len {l:List DVal}{k:Nat}(hk:k<l.length):(delL l k).length=l.length - 1:=by unfold delL;rw [List.length_append,List.length_take,List.length_drop];omega
theorem insL_len {l:List DVal}{j:Nat}(hj:j≤l.length)(v:DVal):(insL l j v).length=l.length+1:=by unfold insL;rw [List.length_append,List.length_append,List.length_take,List.length_drop];simp;omega
theorem delC_eq {cur:List Value}{n:Nat}{l:List DVal}{k:Nat}(h:cur.take (n * 2)=(l.map cellsV).flatten)(_hl:l.length=n)(hk:k<n):delC cur n k=((delL l k).map cellsV).flatten:=by
 have e1:cur.take (k * 2)=((l.take k).map cellsV).flatten:=by
  rw [List.map_take,←flat_take _ _ (cellsV_wid l),←h,List.take_take,Nat.min_eq_left (by omega)]
 have e2:(cur.drop ((k+1) * 2)).take ((n - (k+1)) * 2)=((l.drop (k+1)).map cellsV).flatten:=by
  rw [List.map_drop,←flat_drop _ _ (cellsV_wid l),←h,List.drop_take,show n * 2 - (k+1) * 2=(n - (k+1)) * 2 by omega]
 unfold delC delL;rw [e1,e2,List.map_append,List.flatten_append]
theorem insC_eq {cur:List Value}{n:Nat}{l:List DVal}{j:Nat}(h:cur.take (n * 2)=(l.map cellsV).flatten)(_hl:l.length=n)(hj:j≤n)(v:DVal):insC cur n j (cellsV v)=((insL l j v).map cellsV).flatten:=by
 have e1:cur.take (j * 2)=((l.take j).map cellsV).flatten:=by
  rw [List.map_take,←flat_take _ _ (cellsV_wid l),←h,List.take_take,Nat.min_eq_left (by omega)]
 have e2:(cur.drop (j * 2)).take ((n - j) * 2)=((l.drop j).map cellsV).flatten:=by
  rw [List.map_drop,←flat_drop _ _ (cellsV_wid l),←h,List.drop_take,show n * 2 - j * 2=(n - j) * 2 by omega]
 unfold insC insL;rw [e1,e2,List.map_append,List.flatten_append,List.map_append,List.flatten_append];simp
theorem flat_one' {l:List (List Value)}(h:∀cs∈l,∀u∈cs,u.oneCell'=true):∀u∈l.flatten,u.oneCell'=true:=by
 intro u hu;obtain⟨cs,h1,h2⟩:=List.mem_flatten.1 hu;exact h cs h1 u h2
theorem cells_one(l:List DVal):∀u∈(l.map cellsV).flatten,u.oneCell'=true:=flat_one' fun cs hcs u hu=>by
 obtain⟨x,_,rfl⟩:=List.mem_map.1 hcs;simp only [cellsV,List.mem_cons,List.not_mem_nil,or_false] at hu;rcases hu with rfl | rfl <;> rfl
theorem vals_row {w:World}{base g n c:Nat}{l:List DVal}(h:w.ownsRow base 72 2 (.slice (some ⟨g,0,none⟩) n c) n (l.map cellsV).flatten):∃cur,rowOf w g 72 cur∧cur.length=c * 2∧cur.take (n * 2)=(l.map cellsV).flatten∧l.length=n∧n≤c∧c≤9223372036854775807∧base≤g:=by
 have h1:=h.1;rw [flat_len (l.map cellsV) (fun i cs hi=>cellsV_wid l cs (List.mem_of_getElem? hi)),List.length_map] at h1;rcases h.2 with⟨e,-⟩ | ⟨g',cap,cur,e,h3,h4,h5,h6,h7,h8⟩
 · cases e
 · cases e
   unfold maxLen at h6;exact⟨cur.toList,by unfold rowOf;rw [Array.toArray_toList];exact h4,by simpa using h7,h8,by omega,h5,by omega,h3⟩
theorem vals_own {w:World}{base g n c:Nat}{cur:List Value}{l:List DVal}(hr:rowOf w g 72 cur)(hl:cur.length=c * 2)(ht:cur.take (n * 2)=(l.map cellsV).flatten)(hn:l.length=n)(hnc:n≤c)(hc:c≤9223372036854775807)(hb:base≤g):w.ownsRow base 72 2 (.slice (some ⟨g,0,none⟩) n c) n (l.map cellsV).flatten:=by
 refine⟨?_,.inr ⟨g,c,cur.toArray,rfl,hb,hr,hnc,by unfold maxLen;exact hc,by simpa using hl,ht⟩⟩;rw [flat_len (l.map cellsV) (fun i cs hi=>cellsV_wid l cs (List.mem_of_getElem? hi)),List.length_map,hn]
theorem delete_row {base g n c k:Nat}{l:List DVal}{w:World}(h:w.ownsRow base 72 2 (.slice (some ⟨g,0,none⟩) n c) n (l.map cellsV).flatten)(hk:k<n)(hn:n≤1048576) :
 Calls Tryz.prog 131 #[.slice (some ⟨g,0,none⟩) n c,.int .i64 (k:Int),.int .i64 ((k:Int)+1)] w fun e w' =>
  e = .returned (.slice (some ⟨g,0,none⟩) (n - 1) c)∧w.grownBy w' (some g)∧w'.ownsRow base 72 2 (.slice (some ⟨g,0,none⟩) (n - 1) c) (n - 1) ((delL l k).map cellsV).flatten:=by
 obtain⟨cur,h1,h2,h3,h4,h5,h6,h7⟩:=vals_row h;refine (delete_any g n c k cur w h1 h2 (by rw [h3];exact cells_one l) hk h5 hn h6).mono ?_;rintro e w' ⟨rfl,hg,cur',g1,g2,g3⟩;refine⟨rfl,hg,vals_own g1 g2 ?_ (by rw [delL_len (by omega),h4]) (by omega) h6 h7⟩;rw [g3,delC_eq h3 h4 hk]
theorem insert_row {base g n c j b : Nat} {l : List DVal} (v : DVal) {w : World} (h : w.ownsRow base 72 2 (.slice (some ⟨g, 0, none⟩) n c) n (l.map cellsV).flatten) (hj : j ≤ n) (hnc : n + 1 ≤ c) (hn : n ≤ 1048576)
 (hvb:w.heap[b]?=some (.cells #[.bool v.reg,.int .i64 v.n] 72 (0,0))) (hne:b≠g) :
 Calls Tryz.prog 130 #[.slice (some ⟨g,0,none⟩) n c,.int .i64 (j:Int),.slice (some ⟨b,0,none⟩) 1 1] w fun e w' =>
  e = .returned (.slice (some ⟨g,0,none⟩) (n+1) c)∧w.grownBy w' (some g)∧w'.ownsRow base 72 2 (.slice (some ⟨g,0,none⟩) (n+1) c) (n+1) ((insL l j v).map cellsV).flatten:=by
 obtain⟨cur,h1,h2,h3,h4,h5,h6,h7⟩:=vals_row h;refine (insert_any g n c j b v.reg v.n cur w h1 h2 (by rw [h3];exact cells_one l) hj hnc hn h6 hvb hne).mono ?_;rintro e w' ⟨rfl,hg,cur',g1,g2,g3⟩;refine⟨rfl,hg,vals_own g1 g2 ?_ (by rw [insL_len (by omega),h4]) hnc h6 h7⟩;rw [g3];exact insC_eq h3 h4 hj v

end Go.Proofs.YtnkogppgacappaaGreatDoor
