/- tidy.ChainsOf: what the rows hold while one block goes into another one. tidy.ChainsOf: append of one own row onto another one; the steps of a merge, in memory. tidy.ChainsOf: the walk. -/
import Derived.Test.YtnkogppgacappaaGreatDoorPMrg1
import Derived.Laws.OwnMore
import Derived.Test.YtnkogppgacappaaGreatDoorPRename
import Derived.Test.YtnkogppgacappaaGreatDoorPGCopy
namespace Go.Proofs.YtnkogppgacappaaGreatDoor
open Go.RowKit

def addB(bs:List DBlock)(b t:Nat):DBlock:={ blkOf bs b with list:=(blkOf bs b).list++(blkOf bs t).list }
def addC(bs:List DBlock)(V:Pth→Value)(b t:Nat):Pth→List (List Value):=updP (elemsP bs V) (.list b) (elemsP bs V (.list b)++elemsP bs V (.list t))
theorem addC_ne {bs:List DBlock}{V:Pth→Value}{b t:Nat}(q:Pth)(h:∀i,q ≠ .list i):addC bs V b t q=elemsP bs V q:=updP_ne _ _ (h b)
theorem addB_fin(bs:List DBlock)(b t:Nat)(hb:b<bs.length)(i:Nat):(blkOf (bs.set b (addB bs b t)) i).fin=(blkOf bs i).fin:=by
 rw [blkOf_set hb];split
 · rename_i e;subst e;rfl
 · rfl
theorem rows_added {W:World}{base:Nat}{bs:List DBlock}{V:Pth→Value}{b t:Nat}(h:RowsAt W base (okP bs) V (addC bs V b t))(hn:∀x∈bs,NumB x)(hb:b<bs.length)(ht:t<bs.length) :
 SlAt (fun x=>base≤x∧x<W.heap.size) W 6 rBlock (V .blks) (bs.set b (addB bs b t)):=by
 have hbo:∀c,blkOf (bs.set b (addB bs b t)) c=if c=b then addB bs b t else blkOf bs c:=blkOf_set hb _
 refine RowsAt.read (r:=rBlock) h (p := .blks) trivial (by rw [addC_ne _ (by simp)];simp [elemsP]) (fun c x hx=>?_);have hc:c<bs.length:=by have:=(List.getElem?_eq_some_iff.1 hx).1;simpa using this
 have hxo:=blkOf_at hx;have hnc:=hn _ (blkOf_mem hc);have hfin:x.fin=(blkOf bs c).fin:=by rw [←hxo,addB_fin bs b t hb]
 have hphi:x.phis=(blkOf bs c).phis:=by
  rw [←hxo,hbo];split
  · rename_i e;subst e;rfl
  · rfl
 refine⟨_,by rw [addC_ne _ (by simp)];show (bs.mapIdx _)[c]?=_;rw [mapIdx_at,blkOf_self bs hc];rfl,V (.phis c),V (.list c),_,rfl,?_,?_,V (.to c),by rw [hfin],?_,by rw [hfin];exact hnc.kind,by rw [hfin];exact hnc.on⟩
 · refine RowsAt.read (r:=rPhi) h (p := .phis c) hc (by rw [addC_ne _ (by simp),hphi];simp [elemsP]) (fun i p hp=>?_)
   rw [hphi] at hp;refine⟨_,by rw [addC_ne _ (by simp)];show ((blkOf bs c).phis.mapIdx _)[i]?=_;rw [mapIdx_at,hp];rfl,V (.src c i),rfl,?_,(hnc.phi p (List.mem_of_getElem? hp)).1⟩;have hpo:(blkOf bs c).phis.getD i noPhiP=p:=by rw [List.getD_eq_getElem?_getD,hp];rfl
   refine RowsAt.read (r:=rVal) h (p := .src c i) (show i<(blkOf bs c).phis.length from (List.getElem?_eq_some_iff.1 hp).1) (by rw [addC_ne _ (by simp)];simp only [elemsP];rw [hpo,List.length_map]) (fun j v hv=>?_);exact⟨cellsV v,by rw [addC_ne _ (by simp)];simp only [elemsP];rw [hpo,List.getElem?_map,hv];rfl,rfl,(hnc.phi p (List.mem_of_getElem? hp)).2 v (List.mem_of_getElem? hv)⟩
 · have ins:∀d,d<bs.length→∀i y,(blkOf bs d).list[i]?=some y→rIns (fun x=>base≤x∧x<W.heap.size) W (cellsI y (V (.args d i))) y:=fun d hd i y hy=>by
    obtain⟨n1,n2,n3,n4,n5,n6⟩:=(hn _ (blkOf_mem hd)).ins y (List.mem_of_getElem? hy);refine⟨_,rfl,?_,n1,n2,n3,n4,n5⟩;have hpo:(blkOf bs d).list.getD i noInsP=y:=by rw [List.getD_eq_getElem?_getD,hy];rfl
    refine RowsAt.read (r:=rVal) h (p := .args d i) (show i<(blkOf bs d).list.length from (List.getElem?_eq_some_iff.1 hy).1) (by rw [addC_ne _ (by simp)];simp only [elemsP];rw [hpo,List.length_map]) (fun j v hv=>?_);exact⟨cellsV v,by rw [addC_ne _ (by simp)];simp only [elemsP];rw [hpo,List.getElem?_map,hv];rfl,rfl,n6 v (List.mem_of_getElem? hv)⟩
   by_cases e:c=b
   · subst e
     have hxl:x.list=(blkOf bs c).list++(blkOf bs t).list:=by rw [←hxo,hbo,if_pos rfl];rfl
     have hC:addC bs V c t (.list c)=((blkOf bs c).list.mapIdx fun i x=>cellsI x (V (.args c i)))++((blkOf bs t).list.mapIdx fun i x=>cellsI x (V (.args t i))):=by unfold addC;rw [updP_self];rfl
     refine RowsAt.read (r:=rIns) h (p := .list c) hc (by rw [hC,hxl];simp) (fun i y hy=>?_);rw [hxl] at hy;rw [hC]
     by_cases hi:i<(blkOf bs c).list.length
     · rw [List.getElem?_append_left hi] at hy
       exact⟨_,by rw [List.getElem?_append_left (by simpa using hi),mapIdx_at,hy];rfl,ins c hc i y hy⟩
     · rw [List.getElem?_append_right (by omega)] at hy
       refine⟨_,by rw [List.getElem?_append_right (by simp;omega),List.length_mapIdx,mapIdx_at,hy];rfl,ins t ht _ y hy⟩
   · have hxl:x.list=(blkOf bs c).list:=by rw [←hxo,hbo,if_neg e]
     have hC:addC bs V b t (.list c)=elemsP bs V (.list c):=updP_ne _ _ (by simp [e]);refine RowsAt.read (r:=rIns) h (p := .list c) hc (by rw [hC,hxl];simp [elemsP]) (fun i y hy=>?_);rw [hxl] at hy;rw [hC];exact⟨_,by show ((blkOf bs c).list.mapIdx _)[i]?=_;rw [mapIdx_at,hy];rfl,ins c hc i y hy⟩
 · refine RowsAt.read (r:=rInt) h (p := .to c) hc (by rw [addC_ne _ (by simp),hfin];simp [elemsP]) (fun i u hu=>?_)
   rw [hfin] at hu;exact⟨[.int .i64 u],by rw [addC_ne _ (by simp)];show ((blkOf bs c).fin.to.map _)[i]?=_;rw [List.getElem?_map,hu];rfl,rfl,hnc.to u (List.mem_of_getElem? hu)⟩

def mrgP (bs : List DBlock) (b t : Nat) : Pth → Pth
 | .to c=>if c=b then .to t else .to c
 | .args c i=>if c=b∧(blkOf bs b).list.length≤i then .args t (i - (blkOf bs b).list.length) else .args c i
 | q=>q
def mrgV(bs:List DBlock)(b t:Nat)(V:Pth→Value):Pth→Value:=updP (updP (updP (fun q=>V (mrgP bs b t q)) (.phis t) (.slice none 0 0)) (.list t) (.slice none 0 0)) (.to t) (.slice none 0 0)
theorem RwSt.map {W3 W:World}{base:Nat}{X:Nat→Prop}{ok ok':Pth→Prop}{V:Pth→Value}{C:Pth→List (List Value)}(h:RwSt W3 W base X ok V C)(f:Pth→Pth)(ht:∀p,(f p).ty=p.ty∧(f p).sz=p.sz)(ho:∀p,ok' p→ok (f p))(hi:∀p q,ok' p→ok' q→f p=f q→p=q):RwSt W3 W base X ok' (fun p=>V (f p)) (fun p=>C (f p)) :=
 ⟨h.rows.map f ht ho hi,fun p hp=>h.off (f p) (ho p hp),h.low,h.kept,h.old,h.le⟩
theorem merge_rows {W3 W : World} {base : Nat} {X : Nat → Prop} {bs : List DBlock} {V : Pth → Value} {b : Nat} {C : Pth → List (List Value)} (hok : ChOk bs) (hb : b < bs.length) (hm : mayM bs b = true)
 (h:RwSt W3 W base X (okP bs) V C) (hC:∀q,q ≠ .blks→C q=srcC (renA bs (toJ bs b) b) V (addC bs V b (toJ bs b)) q)
 (hblk:C .blks=((elemsP bs V .blks).set b (cellsB (mrgB bs (toJ bs b) b) (V (.phis b)) (V (.list b)) (V (.to (toJ bs b))))).set (toJ bs b) (cellsB emptyB (.slice none 0 0) (.slice none 0 0) (.slice none 0 0))) :
 RwSt W3 W base X (okP (mergeF bs b)) (mrgV bs b (toJ bs b) V) (elemsP (mergeF bs b) (mrgV bs b (toJ bs b) V)):=by
 obtain⟨h1,h2,h3,h4,h5,h6⟩:=mayM_facts hok hb hm;obtain⟨t,ht⟩:∃t,t=toJ bs b:=⟨_,rfl⟩
 rw [←ht] at h2 h3 h5 hC hblk ⊢;have hat:∀c,blkOf (mergeF bs b) c=if c=t then emptyB else if c=b then mrgB bs t b else blkOf (renA bs t b) c:=fun c=>by rw [ht];exact mergeF_at hb (by rw [←ht];exact h5) c
 have hren:=fun c=>renA_fin (b:=b) hok.ok h5 c;have hl:=mergeF_len bs b;have hphl:∀c,c≠t→(blkOf (mergeF bs b) c).phis=(blkOf (renA bs t b) c).phis:=fun c hc=>by
  rw [hat,if_neg hc];split
  · rename_i e;subst e;rfl
  · rfl
 have hm1 := h.map (ok' := fun q => okP (mergeF bs b) q ∧ q ≠ .phis t ∧ q ≠ .list t ∧ q ≠ .to t) (mrgP bs b t) (fun p => by
  cases p <;> first
   | exact ⟨rfl, rfl⟩
   | (simp only [mrgP]; split <;> exact ⟨rfl, rfl⟩)) (fun q hq => by
  obtain ⟨hq, n1, n2, n3⟩ := hq
  cases q with
  | blks => exact trivial
  | phis c => have : c < _ := hq; show c < bs.length; omega
  | src c i =>
    have hq' : i < (blkOf (mergeF bs b) c).phis.length := hq
    by_cases hc : c = t
    · rw [hat, if_pos hc] at hq'; exact absurd hq' (Nat.not_lt_zero _)
    · rw [hphl c hc, (hren c).2.2] at hq'; exact hq'
  | list c => have : c < _ := hq; show c < bs.length; omega
  | args c i =>
    have hq' : i < (blkOf (mergeF bs b) c).list.length := hq
    rw [hat] at hq'
    by_cases hc : c = t
    · rw [if_pos hc] at hq'; exact absurd hq' (Nat.not_lt_zero _)
    · rw [if_neg hc] at hq'
      by_cases hcb : c = b
      · rw [if_pos hcb] at hq'
        have hq2 : i < ((blkOf bs b).list ++ (blkOf bs t).list).length := hq'
        rw [List.length_append] at hq2
        simp only [mrgP]
        by_cases hi : (blkOf bs b).list.length ≤ i
        · rw [if_pos ⟨hcb, hi⟩]; show _ < _; omega
        · rw [if_neg (fun h => hi h.2), hcb]; show _ < _; omega
      · rw [if_neg hcb, (hren c).2.1] at hq'
        simp only [mrgP]
        rw [if_neg (fun h => hcb h.1)]; exact hq'
  | «to» c =>
    have hq' : c < (mergeF bs b).length := hq
    simp only [mrgP]
    split
    · exact h5
    · show c < bs.length; omega
  | vBlk => exact absurd hq id
  | vPhi => exact absurd hq id
  | vIns => exact absurd hq id) (fun p q hp hq e => by
  obtain ⟨hp, p1, p2, p3⟩ := hp
  obtain ⟨hq, q1, q2, q3⟩ := hq
  have hargs : ∀ c i, okP (mergeF bs b) (.args c i) → c ≠ t := fun c i h hc => by
   have h' : i < (blkOf (mergeF bs b) c).list.length := h
   rw [hat, if_pos hc] at h'; exact absurd h' (Nat.not_lt_zero _)
  cases p <;> cases q <;> first
   | exact e
   | exact absurd hp id
   | exact absurd hq id
   | (simp only [mrgP] at e; done)
   | (simp only [mrgP] at e; split at e <;> simp only [reduceCtorEq] at e; done)
   | (simp only [mrgP] at e; split at e <;> split at e <;> simp only [reduceCtorEq] at e; done)
   | (rename_i c d
      simp only [mrgP] at e
      have hc : c ≠ t := fun h => p3 (by rw [h])
      have hd : d ≠ t := fun h => q3 (by rw [h])
      by_cases e1 : c = b <;> by_cases e2 : d = b <;> simp only [e1, e2, if_true, if_false, Pth.to.injEq] at e
      · rw [e1, e2]
      · exact absurd e.symm hd
      · exact absurd e hc
      · rw [e])
   | (rename_i c i d j
      simp only [mrgP] at e
      have hc := hargs c i hp
      have hd := hargs d j hq
      by_cases e1 : c = b ∧ (blkOf bs b).list.length ≤ i <;> by_cases e2 : d = b ∧ (blkOf bs b).list.length ≤ j
      · rw [if_pos e1, if_pos e2] at e
        simp only [Pth.args.injEq, true_and] at e
        rw [e1.1, e2.1]; congr 1; omega
      · rw [if_pos e1, if_neg e2] at e
        simp only [Pth.args.injEq] at e
        exact absurd e.1.symm hd
      · rw [if_neg e1, if_pos e2] at e
        simp only [Pth.args.injEq] at e
        exact absurd e.1 hc
      · rw [if_neg e1, if_neg e2] at e
        exact e))
 have hm2:=((hm1.nil (.phis t) (fun h=>h.2.1 rfl)).nil (.list t) (fun h=>h.elim (fun h=>h.2.2.1 rfl) (by simp))).nil (.to t) (fun h=>h.elim (fun h=>h.elim (fun h=>h.2.2.2 rfl) (by simp)) (by simp));refine (hm2.less (ok':=okP (mergeF bs b)) fun q hq=>?_).congr (fun q _=>rfl) (fun q hq=>?_)
 · by_cases e1:q = .to t
   · exact .inr e1
   · by_cases e2:q = .list t
     · exact .inl (.inr e2)
     · by_cases e3:q = .phis t
       · exact .inl (.inl (.inr e3))
       · exact .inl (.inl (.inl ⟨hq,e3,e2,e1⟩))
 · have hV:∀q,q ≠ .phis t→q ≠ .list t→q ≠ .to t→mrgV bs b t V q=V (mrgP bs b t q):=fun q n1 n2 n3=>by
    unfold mrgV;rw [updP_ne _ _ n3,updP_ne _ _ n2,updP_ne _ _ n1]
   have hVt:mrgV bs b t V (.phis t) = .slice none 0 0∧mrgV bs b t V (.list t) = .slice none 0 0∧mrgV bs b t V (.to t) = .slice none 0 0:=by
    unfold mrgV;refine⟨?_,?_,updP_self _ _ _⟩
    · rw [updP_ne _ _ (by simp),updP_ne _ _ (by simp),updP_self]
    · rw [updP_ne _ _ (by simp),updP_self]
   by_cases e1:q = .to t
   · subst e1
     rw [updP_self];simp only [elemsP];rw [hat,if_pos rfl];rfl
   rw [updP_ne _ _ e1]
   by_cases e2:q = .list t
   · subst e2
     rw [updP_self];simp only [elemsP];rw [hat,if_pos rfl];rfl
   rw [updP_ne _ _ e2]
   by_cases e3:q = .phis t
   · subst e3
     rw [updP_self];simp only [elemsP];rw [hat,if_pos rfl];rfl
   rw [updP_ne _ _ e3];cases q with
   | blks =>
     show _=C .blks;rw [hblk];simp only [elemsP];apply List.ext_getElem?;intro c;rw [mapIdx_at,List.getElem?_set,List.length_set,List.length_mapIdx,List.getElem?_set,List.length_mapIdx,mapIdx_at]
     by_cases hc:c<bs.length
     · rw [blkOf_self (mergeF bs b) (by omega),blkOf_self bs hc,Option.map_some,Option.map_some,hat]
       by_cases ct:c=t
       · subst ct
         rw [if_pos rfl,if_pos rfl,if_pos hc,hVt.1,hVt.2.1,hVt.2.2]
       · rw [if_neg ct,if_neg (show ¬t=c from fun h=>ct h.symm),hV (.phis c) (by simp [ct]) (by simp) (by simp),hV (.list c) (by simp) (by simp [ct]) (by simp),hV (.to c) (by simp) (by simp) (by simp [ct])]
         by_cases cb:c=b
         · subst cb
           rw [if_pos rfl,if_pos rfl,if_pos hc];simp only [mrgP,if_true]
         · rw [if_neg cb,if_neg (show ¬b=c from fun h=>cb h.symm)]
           simp only [mrgP,if_neg cb,cellsB,(hren c).1]
     · rw [List.getElem?_eq_none (l:=mergeF bs b) (by omega),List.getElem?_eq_none (l:=bs) (by omega),if_neg (by omega),if_neg (by omega)];rfl
   | phis c =>
     have hct:c≠t:=fun h=>e3 (by rw [h]);show _=C (.phis c);rw [hC _ (by simp)];show _=addC bs V b t (.phis c);rw [addC_ne _ (by simp)];simp only [elemsP];rw [hphl c hct];apply List.ext_getElem?;intro i;rw [mapIdx_at,mapIdx_at,hV (.src c i) (by simp) (by simp) (by simp)];simp only [mrgP];rw [renA_at hok.ok h5];split
     · simp only [renB,List.getElem?_map,Option.map_map]
       congr 1
     · rfl
   | src c i =>
     have hct:c≠t:=fun h=>by
      have hq':i<(blkOf (mergeF bs b) c).phis.length:=hq;rw [hat,if_pos h] at hq';exact absurd hq' (Nat.not_lt_zero _)
     show _=C (.src c i);rw [hC _ (by simp)];simp only [srcC,elemsP];rw [hphl c hct]
   | list c =>
     have hct:c≠t:=fun h=>e2 (by rw [h]);show _=C (.list c);rw [hC _ (by simp)];show _=addC bs V b t (.list c);simp only [elemsP];rw [hat,if_neg hct]
     by_cases cb:c=b
     · subst cb
       rw [if_pos rfl];unfold addC;rw [updP_self];simp only [mrgB,elemsP];apply List.ext_getElem?;intro i;rw [mapIdx_at,hV (.args c i) (by simp) (by simp) (by simp)];simp only [mrgP,true_and]
       by_cases hi:i<(blkOf bs c).list.length
       · rw [List.getElem?_append_left hi,List.getElem?_append_left (by simpa using hi),mapIdx_at,if_neg (by omega)]
       · rw [List.getElem?_append_right (by omega),List.getElem?_append_right (by simp;omega),List.length_mapIdx,mapIdx_at,if_pos (by omega)]
     · rw [if_neg cb]
       unfold addC;rw [updP_ne _ _ (by simp [cb])];simp only [elemsP];rw [(hren c).2.1];apply List.ext_getElem?;intro i;rw [mapIdx_at,mapIdx_at,hV (.args c i) (by simp) (by simp) (by simp)];simp only [mrgP];rw [if_neg (fun h=>cb h.1)]
   | args c i =>
     have hct:c≠t:=fun h=>by
      have hq':i<(blkOf (mergeF bs b) c).list.length:=hq;rw [hat,if_pos h] at hq';exact absurd hq' (Nat.not_lt_zero _)
     show _=C (mrgP bs b t (.args c i));simp only [elemsP];rw [hat,if_neg hct]
     by_cases cb:c=b
     · subst cb
       rw [if_pos rfl];simp only [mrgP,true_and,mrgB]
       by_cases hi:(blkOf bs c).list.length≤i
       · rw [if_pos hi,hC _ (by simp)]
         show _=addC bs V c t (.args t _);rw [addC_ne _ (by simp)];simp only [elemsP];rw [List.getD_eq_getElem?_getD,List.getElem?_append_right hi,←List.getD_eq_getElem?_getD]
       · rw [if_neg hi,hC _ (by simp)]
         show _=addC bs V c t (.args c i);rw [addC_ne _ (by simp)];simp only [elemsP];rw [List.getD_eq_getElem?_getD,List.getElem?_append_left (by omega),←List.getD_eq_getElem?_getD]
     · rw [if_neg cb]
       simp only [mrgP];rw [if_neg (fun h=>cb h.1),hC _ (by simp)];show _=addC bs V b t (.args c i);rw [addC_ne _ (by simp)];simp only [elemsP];rw [(hren c).2.1]
   | «to» c =>
     have hct:c≠t:=fun h=>e1 (by rw [h]);show _=C (mrgP bs b t (.to c));simp only [elemsP];rw [hat,if_neg hct];simp only [mrgP]
     by_cases cb:c=b
     · subst cb
       rw [if_pos rfl,if_pos rfl,hC _ (by simp)];show _=addC bs V c t (.to t);rw [addC_ne _ (by simp)];rfl
     · rw [if_neg cb,if_neg cb,hC _ (by simp)]
       show _=addC bs V b t (.to c);rw [addC_ne _ (by simp)];simp only [elemsP];rw [(hren c).1]
   | vBlk=>exact absurd hq id
   | vPhi=>exact absurd hq id
   | vIns=>exact absurd hq id

end Go.Proofs.YtnkogppgacappaaGreatDoor

namespace Go.Proofs.YtnkogppgacappaaGreatDoor
open Go.RowKit

theorem run_append_zero {P:Program}{w:World}(base:Nat)(t ty e:TypeId)(i:TypeInfo)(size:Nat)(ht:P.underlying t=some (.slice e))(hi:P.info? e=some i)(v:Value)(n:Nat)(xs:List Value)(hown:w.ownsRow base e size v n xs)(xa:Option Addr)(c:Nat) :
 (Builtin.append_ #[t,t] ty #[v,.slice xa 0 c]).run P w = .ok v w:=by
 have hl:∀(x:Addr),(loadCells x 0).run P w = .ok #[] w:=fun x=>by simpa using run_loadCells_list (P:=P) w x [] (by simp)
 rcases hown.2 with⟨rfl,rfl⟩ | ⟨g,cap,cur,rfl,_,_,hnc,_⟩
 · cases xa <;> simp [Builtin.append_,run_underlying ht,sizeOf,typeInfo,hi,Builtin.lenOf,Builtin.firstCells,hl]
 · cases xa <;> simp [Builtin.append_,run_underlying ht,sizeOf,typeInfo,hi,Builtin.lenOf,Builtin.firstCells,hnc,storeCells,hl]
theorem run_append_rows {P : Program} {w : World} (base : Nat) (t ty e : TypeId) (i : TypeInfo) (z : Value) (size bytes : Nat) (ht : P.underlying t = some (.slice e)) (hi : P.info? e = some i) (hz : i.zero = some z)
 (hsize:i.size=size) (hby:i.bytes=bytes) (hzs:z.cells.size=size) (hsz:0<size)
 (v:Value) (n:Nat) (xs:List Value) (hown:w.ownsRow base e size v n xs) (xa:Option Addr) (m c:Nat) (news:List Value) (hl:news.length=m * size)
 (hnews:0<m→∃ad,xa=some ad∧∀(j:Nat) u,news[j]?=some u→w.cell? (ad.add j)=some u) (h1:∀u∈news,u.oneCell'=true)
 (h63:n+m≤maxLen) (hbytes:(n+m) * bytes≤140737488355328) (hbase:base≤w.heap.size) :
 ∃v' w',(Builtin.append_ #[t,t] ty #[v,.slice xa m c]).run P w = .ok v' w'∧w'.ownsRow base e size v' (n+m) (xs++news)∧w.grownBy w' v.ownBlock∧(v'.ownBlock=v.ownBlock∨v'.ownBlock=some w.heap.size):=by
 by_cases hm:m=0
 · subst hm
   have hn:news=[]:=List.eq_nil_of_length_eq_zero (by omega);subst hn;exact⟨v,w,run_append_zero base t ty e i size ht hi v n xs hown xa c,by rw [List.append_nil,Nat.add_zero];exact hown,⟨rfl,rfl,rfl,Nat.le_refl _,fun _ _ _=>rfl⟩,.inl rfl⟩
 · obtain⟨ad,rfl,hn⟩:=hnews (by omega)
   obtain⟨v',w',hrun,hown',hgrow,-,hat⟩:=run_append_own_at (P:=P) w base t ty e i z size bytes ht hi hz hsize hby hzs hsz v n xs hown ad m c news hl hn h1 h63 hbytes hbase;exact⟨v',w',hrun,hown',hgrow,hat⟩
theorem step_append_ex {P : Program} {w : World} {ops : Array Oper} {o : Oper} {a : Act} {K : Act → World → Prop} {Q : Exit → Act → World → Prop} {E : Prop} (hgd : o.guard = none) (d s : Operand) (t t' : TypeId)
 (ho:o.op = .call { callee := .builtin .append,args:=#[d,s],argTypes:=#[t,t'] }) (v u:Value) (hd:a.eval d=v) (hs:a.eval s=u) {R:Value→World→Prop}
 (hr:∀ty,∃v' w',(Builtin.append_ #[t,t'] ty #[v,u]).run P w = .ok v' w'∧R v' w') (h:∀v' w',R v' w'→K (a.put o.dst v') w'):if Region.wanted o (yielded ops a.tmps)=true then Oper.wp P o a w K Q else E:=by
 have hw:Region.wanted o (yielded ops a.tmps)=true:=by simp [Region.wanted,hgd]
 rw [if_pos hw];obtain⟨v',w',hrun,hR⟩:=hr o.type;unfold Oper.wp execOp;simp only [ho,resolve,invoke,builtin,Sem.run_bind,Sem.run_pure,Result.andThen_ok,List.map_toArray,List.map_cons,List.map_nil,hd,hs,hrun];exact h v' w' hR

section
variable {W3 W W' : World} {base : Nat} {X : Nat → Prop} {bs : List DBlock} {V : Pth → Value}
theorem RwSt.addList {b t R n bc : Nat} (h : RwSt W3 W base X (okP bs) V (elemsP bs V)) (hb : b < bs.length) (hv : V .blks = .slice (some ⟨R, 0, none⟩) n bc) {v' : Value} {m : Nat}
 (ho:W'.ownsRow base 80 8 v' m ((elemsP bs V (.list b)).flatten++(elemsP bs V (.list t)).flatten)) (hm:(elemsP bs V (.list b)).length+(elemsP bs V (.list t)).length=m)
 (hg:W.grownBy W' (V (.list b)).ownBlock) (hbk:∀k,v'.ownBlock=some k→(V (.list b)).ownBlock=some k∨W.heap.size≤k) :
 RwSt W3 (W'.setCell ⟨R,b * 6+1,none⟩ v') base X (okP bs) (updP V (.list b) v') (addC bs (updP V (.list b) v') b t):=by
 have hw:∀c,∀cs∈elemsP bs V (.list c),cs.length=8:=fun c cs hcs=>by
  simp only [elemsP] at hcs;obtain⟨i,hi⟩:=List.mem_iff_getElem?.1 hcs;rw [mapIdx_at] at hi;cases hx:(blkOf bs c).list[i]? with
  | none=>rw [hx] at hi;cases hi
  | some y=>rw [hx] at hi;cases hi;rfl
 have h1 := h.turn (p := .list b) hb (v' := v') (xss := elemsP bs V (.list b) ++ elemsP bs V (.list t)) (by rw [List.length_append, List.flatten_append, hm]; exact ho) (fun cs hcs => by
  rcases List.mem_append.1 hcs with h | h
  · exact hw b cs h
  · exact hw t cs h) hg hbk
 have hcr:(elemsP bs V .blks)[b]?=some (cellsB (blkOf bs b) (V (.phis b)) (V (.list b)) (V (.to b))):=by
  simp only [elemsP];rw [mapIdx_at,blkOf_self bs hb];rfl
 have h2:=h1.set (p := .blks) trivial (g:=R) (n:=n) (c:=bc) (i:=b) (j:=1) (by rw [updP_ne _ _ (by simp)];exact hv) (cs:=cellsB (blkOf bs b) (V (.phis b)) (V (.list b)) (V (.to b))) (by rw [updP_ne _ _ (by simp)];exact hcr) (by decide) v';have hl:∀c,elemsP bs (updP V (.list b) v') (.list c)=elemsP bs V (.list c):=fun c=>by simp [elemsP,updP]
 refine h2.congr (fun q _=>rfl) (fun q _=>?_)
 by_cases e:q = .blks
 · subst e
   rw [addC_ne _ (by simp),updP_self,updP_ne _ _ (by simp)];simp only [elemsP];apply List.ext_getElem?;intro c;rw [mapIdx_at,List.getElem?_set,List.length_mapIdx,mapIdx_at]
   by_cases ec:b=c
   · subst ec
     rw [if_pos rfl,if_pos hb,blkOf_self bs hb,Option.map_some,updP_self,updP_ne _ _ (by simp),updP_ne _ _ (by simp)];rfl
   · rw [if_neg ec,updP_ne _ _ (by simp),updP_ne _ _ (by simp;omega),updP_ne _ _ (by simp)]
 · rw [updP_ne _ _ e]
   by_cases e2:q = .list b
   · subst e2
     rw [updP_self];unfold addC;rw [updP_self,hl,hl]
   · rw [updP_ne _ _ e2]
     unfold addC;rw [updP_ne _ _ e2];cases q with
     | blks=>exact absurd rfl e
     | _=>simp [elemsP,updP]
theorem RwSt.set4 {ok:Pth→Prop}{C:Pth→List (List Value)}(h:RwSt W3 W base X ok V C)(hp:ok .blks){g n c i:Nat}(hv:V .blks = .slice (some ⟨g,0,none⟩) n c){a0 a1 a2 a3 a4 a5:Value}(hi:(C .blks)[i]?=some [a0,a1,a2,a3,a4,a5])(u2 u3 u4 u5:Value) :
 RwSt W3 ((((W.setCell ⟨g,i * 6+2,none⟩ u2).setCell ⟨g,i * 6+3,none⟩ u3).setCell ⟨g,i * 6+4,none⟩ u4).setCell ⟨g,i * 6+5,none⟩ u5) base X ok V (updP C .blks ((C .blks).set i [a0,a1,u2,u3,u4,u5])):=by
 have hil:i<(C .blks).length:=(List.getElem?_eq_some_iff.1 hi).1;have r2:=h.set (p := .blks) hp (g:=g) (n:=n) (c:=c) hv hi (j:=2) (by decide) u2;have r3:=r2.set (p := .blks) hp (g:=g) (n:=n) (c:=c) hv (cs:=[a0,a1,u2,a3,a4,a5]) (i:=i) (by rw [updP_self];exact List.getElem?_set_self hil) (j:=3) (by decide) u3;have r4:=r3.set (p := .blks) hp (g:=g) (n:=n) (c:=c) hv (cs:=[a0,a1,u2,u3,a4,a5]) (i:=i) (by rw [updP_self,updP_self,List.set_set];exact List.getElem?_set_self hil) (j:=4) (by decide) u4;have r5:=r4.set (p := .blks) hp (g:=g) (n:=n) (c:=c) hv (cs:=[a0,a1,u2,u3,u4,a5]) (i:=i) (by rw [updP_self,updP_self,updP_self,List.set_set,List.set_set];exact List.getElem?_set_self hil) (j:=5) (by decide) u5;refine r5.congr (fun q _=>rfl) (fun q _=>?_)
 by_cases e:q = .blks
 · subst e
   simp only [updP_self,List.set_set];rfl
 · simp only [updP_ne _ _ e]
theorem RwSt.set6 {ok:Pth→Prop}{C:Pth→List (List Value)}(h:RwSt W3 W base X ok V C)(hp:ok .blks){g n c i:Nat}(hv:V .blks = .slice (some ⟨g,0,none⟩) n c){a0 a1 a2 a3 a4 a5:Value}(hi:(C .blks)[i]?=some [a0,a1,a2,a3,a4,a5])(u0 u1 u2 u3 u4 u5:Value) :
 RwSt W3 ((((((W.setCell ⟨g,i * 6,none⟩ u0).setCell ⟨g,i * 6+1,none⟩ u1).setCell ⟨g,i * 6+2,none⟩ u2).setCell ⟨g,i * 6+3,none⟩ u3).setCell ⟨g,i * 6+4,none⟩ u4).setCell ⟨g,i * 6+5,none⟩ u5) base X ok V (updP C .blks ((C .blks).set i [u0,u1,u2,u3,u4,u5])):=by
 have hil:i<(C .blks).length:=(List.getElem?_eq_some_iff.1 hi).1;have r0:=h.set (p := .blks) hp (g:=g) (n:=n) (c:=c) hv hi (j:=0) (by decide) u0;have r1:=r0.set (p := .blks) hp (g:=g) (n:=n) (c:=c) hv (cs:=[u0,a1,a2,a3,a4,a5]) (i:=i) (by rw [updP_self];exact List.getElem?_set_self hil) (j:=1) (by decide) u1;have r2:=r1.set4 hp hv (a0:=u0) (a1:=u1) (a2:=a2) (a3:=a3) (a4:=a4) (a5:=a5) (i:=i) (by rw [updP_self,updP_self,List.set_set];exact List.getElem?_set_self hil) u2 u3 u4 u5;refine r2.congr (fun q _=>rfl) (fun q _=>?_)
 by_cases e:q = .blks
 · subst e
   simp only [updP_self,List.set_set]
 · simp only [updP_ne _ _ e]
end
theorem chainIn_stop {bs : List DBlock} {b : Nat} (h : mayM bs b = false) : ∀ f, chainIn f bs b = bs
 | 0=>rfl
 | f+1=>by unfold chainIn;rw [h];rfl
theorem chainIn_step {bs:List DBlock}{b:Nat}(hok:ChOk bs)(hb:b<bs.length)(h:mayM bs b=true):chainIn (jN bs) bs b=chainIn (jN (mergeF bs b)) (mergeF bs b) b:=by
 rw [←jN_merge hok hb h];show (if mayM bs b=true then _ else _)=_;rw [if_pos h]
theorem chainIn_ok {b : Nat} : ∀ (f : Nat) (bs : List DBlock), ChOk bs → b < bs.length → ChOk (chainIn f bs b) ∧ (chainIn f bs b).length = bs.length
 | 0,bs,h,_=>⟨h,rfl⟩
 | f+1,bs,h,hb=>by
   unfold chainIn
   by_cases hm:mayM bs b=true
   · rw [if_pos hm]
     have h1:=chainIn_ok f (mergeF bs b) (chOk_merge h hb hm) (by rw [mergeF_len];exact hb);exact⟨h1.1,by rw [h1.2,mergeF_len]⟩
   · rw [if_neg hm];exact⟨h,rfl⟩
theorem chainsTo_ok {bs : List DBlock} (h : ChOk bs) : ∀ k, k ≤ bs.length → ChOk (chainsTo bs k) ∧ (chainsTo bs k).length = bs.length
 | 0,_=>⟨h,rfl⟩
 | k+1,hk=>by
   obtain⟨h1,h2⟩:=chainsTo_ok h k (by omega);rw [chainsTo_succ];have h3:=chainIn_ok (b:=k) (jN (chainsTo bs k)) _ h1 (by omega);exact⟨h3.1,by rw [h3.2,h2]⟩

end Go.Proofs.YtnkogppgacappaaGreatDoor

namespace Go.Proofs.YtnkogppgacappaaGreatDoor
open Go.RowKit

set_option maxRecDepth 100000 in
set_option maxHeartbeats 8000000 in
theorem chains_any {S : Nat → Prop} (nm : ByteArray) (p r : Int) (bs : List DBlock) (V : Pth → Value) (base : Nat) (w : World) (hf : FunSt w base bs V) (hbase : base ≤ w.heap.size) (hok : ChOk bs)
 (hS:∀b,S b→b<w.heap.size∧∀q,okP bs q→(V q).ownBlock≠some b) :
 Calls Tryz.prog 73 #[.agg #[.string nm,.int .i64 p,.int .i64 r,V .blks]] w fun e w' =>
  ∃V',e = .returned (.agg #[.string nm,.int .i64 p,.int .i64 r,V' .blks])∧FunSt w' base (chainsF bs) V'∧Below base w w'∧Kept S w w' (chainsF bs) V':=by
 obtain⟨ba,bc,hbv⟩:=RowsAt.shape (p := .blks) hf trivial;obtain⟨n,hn⟩:∃n,n=bs.length:=⟨_,rfl⟩
 rw [show (elemsP bs V .blks).length=n by simp [elemsP,hn]] at hbv;have hn2:n≤1048576:=by rw [hn];exact hok.ok.len
 have Hf:=hid hf;have Hok:=hid hok;have HS:=hid hS;have Hn:=hid hn;have Hbv:=hid hbv;rw [hbv];clear hf hok hn hbv hS;go_enter Tryz.func73,Tryz.ntmps73;go_upto_region 1 with (fail)
 obtain⟨W,hW⟩:∃W,W=(w.alloc (.cells #[.string nm,.int .i64 p,.int .i64 r,.slice ba n bc] 38)).alloc (.cells #[.string ⟨#[]⟩,.int .i64 0,.int .i64 0,.slice none 0 0] 38):=⟨_,rfl⟩
 obtain⟨hWs,h0,h1⟩:=two_cells w (.cells #[.string nm,.int .i64 p,.int .i64 r,.slice ba n bc] 38) (.cells #[.string ⟨#[]⟩,.int .i64 0,.int .i64 0,.slice none 0 0] 38);rw [←hW] at hWs h0 h1 ⊢;have hbW:Below w.heap.size w W:=by rw [hW];(repeat (first | exact Below.refl _ _ | refine Below.alloc ?_ (by first|omega|(simp<;>omega)) _ | refine Below.setCell ?_ (by first|omega|(simp<;>omega)) _ | refine below_drewN ?_ _ | refine Below.drew ?_))
 obtain⟨UB,hUB⟩:∃UB,UB=w.heap.size:=⟨_,rfl⟩
 obtain⟨UO,hUO⟩:∃UO,UO=w.heap.size+1:=⟨_,rfl⟩
 rw [←hUO] at h1 ⊢;rw [←hUB] at h0 ⊢;have HUs:Hid (UB=w.heap.size∧UO=w.heap.size+1∧W.heap.size=w.heap.size+2):=⟨hUB,hUO,hWs⟩
 have HB:Hid (base≤w.heap.size):=hbase;have H0:=hid h0;have H1:=hid h1;have HbW:=hid hbW;obtain⟨X,hX⟩:∃X:Nat→Prop,X=fun x=>x=UB∨x=UO∨S x:=⟨_,rfl⟩
 have hst:RwSt W W base X (okP bs) V (elemsP bs V):=by
  refine RwSt.start (Hf.out.later hbW) (fun x hx=>?_) (fun q hq k hk hx=>?_) (by omega)
  · rw [hX] at hx
    rcases hx with h | h | h
    · omega
    · omega
    · have:=(HS.out x h).1
      omega
  · have:=(RowsAt.lt Hf.out hq k hk).2
    rw [hX] at hx;rcases hx with h | h | h
    · omega
    · omega
    · exact (HS.out k h).2 q hq hk
 have Hst:=hid hst;have HX:Hid (X UB∧X UO):=by rw [hX];exact⟨.inl rfl,.inr (.inl rfl)⟩
 have HXS:Hid (∀b,S b→X b):=by rw [hX];exact fun b hb => .inr (.inr hb)
 clear hW h0 h1 hbW hUB hUO hWs hbase hst hX;go_wp2_with fail;go_loopw [3] (fun s3 wr=>∃(b:Nat) (V1:Pth→Value),b≤n∧s3 = .int .i64 (b:Int)∧RwSt W wr base X (okP (chainsTo bs b)) V1 (elemsP (chainsTo bs b) V1)∧V1 .blks = .slice ba n bc) (fun s3 _=>n - (intOf s3).toNat)
 case atStart=>exact⟨0,V,Nat.zero_le _,rfl,Hst.out,Hbv.out⟩
 case round =>
  obtain⟨wo,hwo⟩:∃wo:World,wo=wr:=⟨_,rfl⟩
  subst hwo;obtain⟨b,V1,hb,rfl,hst1,hv1⟩:=hrel;have Hst1:=hid hst1;have Hv1:=hid hv1;obtain⟨hch,hcl⟩:=chainsTo_ok Hok.out b (by rw [←Hn.out];exact hb);obtain⟨l0,hl0⟩:∃l0,l0=chainsTo bs b:=⟨_,rfl⟩
  rw [←hl0] at hch hcl hst1;rw [←Hn.out] at hcl;have hubo:wo.heap[UB]?=some (.cells #[.string nm,.int .i64 p,.int .i64 r,.slice ba n bc] 38 (0,0)):=(hst1.kept UB HX.out.1).trans H0.out;obtain⟨c0,c1,c2,c3⟩:=(cells_of (cs:=[_,_,_,_]) hubo).get4;rw [Nat.zero_add] at c1 c2 c3
  by_cases hbn:b<n
  · obtain⟨R,rc,hRv,-,-,-,hRl⟩:=hst1.rows.addr (p := .blks) trivial (by simp [elemsP];omega)
    rw [hv1] at hRv;have hba:ba=some ⟨R,0,none⟩:=by injection hRv
    subst hba;have hbl0:b<l0.length:=by omega
    have Hl0:=hid hl0;have Hch:=hid hch;have Hcl:=hid hcl;clear hst1 hv1 hch hcl hl0 hubo hRv hRl c0 c1 c2;go_upto_region 5 with (fail)
    clear c3;go_loopg [5] (jN l0) (fun g s5 wr=>∃(l:List DBlock) (V2:Pth→Value),g=jN l∧chainIn (jN l) l b=chainIn (jN l0) l0 b∧ChOk l∧l.length=n∧RwSt W wr base X (okP l) V2 (elemsP l V2)∧V2 .blks = .slice (some ⟨R,0,none⟩) n bc)
    case atStart=>exact⟨l0,V1,rfl,rfl,Hch.out,Hcl.out,by rw [Hl0.out];exact Hst1.out,Hv1.out⟩
    case round =>
     obtain⟨wi,hwi⟩:∃wi:World,wi=wr:=⟨_,rfl⟩
     subst hwi;obtain⟨l,V2,hg,hci,hokl,hll,hst2,hv2⟩:=hrel;have hbl:b<l.length:=by omega
     obtain⟨x,hx⟩:∃x,x=blkOf l b:=⟨_,rfl⟩
     obtain⟨ta,tc,hvt⟩:=RowsAt.shape (p := .to b) hst2.rows hbl;obtain⟨tn,htn⟩:∃tn,tn=x.fin.to.length:=⟨_,rfl⟩
     rw [show (elemsP l V2 (.to b)).length=tn by simp [elemsP,htn,hx]] at hvt;obtain⟨la,lc,hvl⟩:=RowsAt.shape (p := .list b) hst2.rows hbl;obtain⟨ln,hln⟩:∃ln,ln=x.list.length:=⟨_,rfl⟩
     rw [show (elemsP l V2 (.list b)).length=ln by simp [elemsP,hln,hx]] at hvl;obtain⟨ek,hek⟩:∃ek,ek=x.fin.kind:=⟨_,rfl⟩
     have hcr:∀c,c<l.length→(elemsP l V2 .blks)[c]?=some (cellsB (blkOf l c) (V2 (.phis c)) (V2 (.list c)) (V2 (.to c))):=fun c hc=>by
      simp only [elemsP];rw [mapIdx_at,blkOf_self l hc];rfl
     have hatb:=hst2.rows.at (p := .blks) trivial (g:=R) (n:=n) (c:=bc) hv2 (hcr b hbl);have r2:wi.cell? ⟨R,b * 6+2,none⟩=some (.int .i64 ek):=by rw [hek,hx];exact hatb.1 2 _ rfl
     have r5:wi.cell? ⟨R,b * 6+5,none⟩=some (.slice ta tn tc):=by rw [←hvt];exact hatb.1 5 _ rfl
     have r1:wi.cell? ⟨R,b * 6+1,none⟩=some (.slice la ln lc):=by rw [←hvl];exact hatb.1 1 _ rfl
     have hubi:wi.heap[UB]?=some (.cells #[.string nm,.int .i64 p,.int .i64 r,.slice (some ⟨R,0,none⟩) n bc] 38 (0,0)):=(hst2.kept UB HX.out.1).trans H0.out;have Hci:=hid hci;have Hokl:=hid hokl;have Hll:=hid hll;have Hst2:=hid hst2;have Hv2:=hid hv2;have Hcr:=hid hcr;have Hx:=hid hx;have Hvt:=hid hvt;have Hvl:=hid hvl;have Hatb:=hid hatb;have Hubi:=hid hubi;have Hdat:Hid (tn=x.fin.to.length∧ln=x.list.length∧ek=x.fin.kind):=⟨htn,hln,hek⟩
     have Hg:=hid hg
     by_cases hk2:ek=2
     · have hq2:=eq_yes hk2
       have htn1:tn=1:=by rw [htn];exact hokl.jump x (by rw [hx];exact blkOf_mem hbl) (by rw [←hek];exact hk2)
       obtain⟨t,ht⟩:∃t,t=toJ l b:=⟨_,rfl⟩
       have htos:x.fin.to=[((t:Nat):Int)]∧t<l.length:=by
        match hh:x.fin.to,htn with
        | [u],_ =>
          have hu:=hokl.ok.toIn x (by rw [hx];exact blkOf_mem hbl) u (by rw [hh];simp);have e:((t:Nat):Int)=u:=by rw [ht];unfold toJ;rw [←hx,hh];simp;omega
          exact⟨by rw [e],by omega⟩
        | [],h=>rw [htn1] at h;simp at h
        | _ :: _ :: _,h=>rw [htn1] at h;simp at h
       have hcto:(elemsP l V2 (.to b))[0]?=some [.int .i64 (t:Int)]:=by
        simp only [elemsP];rw [←hx,htos.1];rfl
       obtain⟨G,gcap,hGv,-,-,-,-⟩:=hst2.rows.addr (p := .to b) hbl (Nat.lt_of_le_of_lt (Nat.zero_le _) (List.getElem?_eq_some_iff.1 hcto).1);rw [hvt] at hGv;have hta:ta=some ⟨G,0,none⟩:=by injection hGv
       subst hta;have t0:=(hst2.rows.at (p := .to b) hbl hvt hcto).1.get1;rw [show 0 * Pth.sz (.to b)=0 by simp] at t0;obtain⟨y,hy⟩:∃y,y=blkOf l t:=⟨_,rfl⟩
       obtain⟨pa,pc,hvp⟩:=RowsAt.shape (p := .phis t) hst2.rows htos.2;obtain⟨ya,yc,hvyl⟩:=RowsAt.shape (p := .list t) hst2.rows htos.2;obtain⟨za,zc,hvyt⟩:=RowsAt.shape (p := .to t) hst2.rows htos.2;obtain⟨pn,hpn⟩:∃pn,pn=y.phis.length:=⟨_,rfl⟩
       obtain⟨yn,hyn⟩:∃yn,yn=y.list.length:=⟨_,rfl⟩
       obtain⟨zn,hzn⟩:∃zn,zn=y.fin.to.length:=⟨_,rfl⟩
       rw [show (elemsP l V2 (.phis t)).length=pn by simp [elemsP,hpn,hy]] at hvp;rw [show (elemsP l V2 (.list t)).length=yn by simp [elemsP,hyn,hy]] at hvyl;rw [show (elemsP l V2 (.to t)).length=zn by simp [elemsP,hzn,hy]] at hvyt;obtain⟨yk,hyk⟩:∃yk,yk=y.fin.kind:=⟨_,rfl⟩
       obtain⟨yr,hyr⟩:∃yr,yr=y.fin.on.reg:=⟨_,rfl⟩
       obtain⟨ym,hym⟩:∃ym,ym=y.fin.on.n:=⟨_,rfl⟩
       have hatt:=hst2.rows.at (p := .blks) trivial (g:=R) (n:=n) (c:=bc) hv2 (hcr t htos.2);have hatt2:CellsAt wi R (t * 6) [.slice pa pn pc,.slice ya yn yc,.int .i64 yk,.bool yr,.int .i64 ym,.slice za zn zc]:=by
        have h:=hatt.1;rw [hvp,hvyl,hvyt,←hy] at h;rw [hyk,hyr,hym];exact h
       obtain⟨y0,y1,y2,y3,y4,y5⟩:=hatt2.get6;have c3:=(cells_of (cs:=[_,_,_,_]) hubi) 3 _ rfl;rw [Nat.zero_add] at c3;have htln:t<n:=by omega
       have Ht:Hid (t=toJ l b∧x.fin.to=[((t:Nat):Int)]∧t<l.length):=⟨ht,htos.1,htos.2⟩
       have Hy:=hid hy;have Hyd:Hid (pn=y.phis.length∧yn=y.list.length∧zn=y.fin.to.length∧yk=y.fin.kind∧yr=y.fin.on.reg∧ym=y.fin.on.n):=⟨hpn,hyn,hzn,hyk,hyr,hym⟩
       have Hyv:Hid (V2 (.phis t) = .slice pa pn pc∧V2 (.list t) = .slice ya yn yc∧V2 (.to t) = .slice za zn zc):=⟨hvp,hvyl,hvyt⟩
       have Hatt:=hid hatt;subst htn1;clear hg hci hokl hll hst2 hv2 hcr hx hvt htn hvl hln hek hatb hubi ht htos hcto hGv hy hvp hvyl hvyt hpn hyn hzn hyk hyr hym hatt hatt2;go_upto_region 8 with (fail)
       obtain⟨YB,hYB⟩:∃YB,YB=wi.heap.size:=⟨_,rfl⟩
       obtain⟨W4,hW4⟩:∃W4,W4=wi.alloc (.cells #[.slice pa pn pc,.slice ya yn yc,.int .i64 yk,.bool yr,.int .i64 ym,.slice za zn zc] 76):=⟨_,rfl⟩
       have hl4:W4.heap[YB]?=some (.cells #[.slice pa pn pc,.slice ya yn yc,.int .i64 yk,.bool yr,.int .i64 ym,.slice za zn zc] 76 (0,0)):=by rw [hW4,hYB];exact heap_alloc_new _ _
       rw [←hW4,←hYB];have hb4:Below wi.heap.size wi W4:=by rw [hW4];(repeat (first | exact Below.refl _ _ | refine Below.alloc ?_ (by first|omega|(simp<;>omega)) _ | refine Below.setCell ?_ (by first|omega|(simp<;>omega)) _ | refine below_drewN ?_ _ | refine Below.drew ?_))
       have h4s:W4.heap.size=YB+1:=by rw [hW4,hYB];simp
       have HYB:Hid (YB=wi.heap.size∧W4.heap.size=YB+1):=⟨hYB,h4s⟩
       obtain⟨w0,w1,w2,w3,w4,w5⟩:=(cells_of (cs:=[_,_,_,_,_,_]) hl4).get6;rw [Nat.zero_add] at w1 w2 w3 w4 w5;have Hl4:=hid hl4;have Hb4:=hid hb4;have hub4:W4.heap[UB]?=some (.cells #[.string nm,.int .i64 p,.int .i64 r,.slice (some ⟨R,0,none⟩) n bc] 38 (0,0)):=(hb4.block UB (Hst2.out.x_lt HX.out.1)).trans Hubi.out;obtain⟨c0,c1,c2,c3⟩:=(cells_of (cs:=[_,_,_,_]) hub4).get4;rw [Nat.zero_add] at c1 c2 c3;have Hub4:=hid hub4;clear hYB hW4 hl4 hb4 h4s hub4 y0 y1 y2 y3 y4 y5 r1 r2 r5 t0
       by_cases htb:t=b
       · have hq3:=eq_yesN htb
         have Hstop:Hid (mayM l b=false):=by
          show _=_;unfold mayM;rw [←Ht.out.1,decide_eq_false (fun h:t≠b=>h htb)];simp
         clear htb;go_wp2_with fail;go_roundw
         case rel=>exact⟨b+1,V2,by omega,by go_num,by rw [chainsTo_succ,←Hl0.out,←Hci.out,chainIn_stop Hstop.out];exact Hst2.out.later Hb4.out,Hv2.out⟩
         case measure=>simp [intOf];omega
       · have hq3:=eq_noN htb
         by_cases hp0:pn=0
         · subst hp0
           obtain⟨an,han⟩:∃an,an=(predsOf l 0 t).length:=⟨_,rfl⟩
           have Hga:Hid (Calls Tryz.prog 53 #[.agg #[.string nm,.int .i64 p,.int .i64 r,.slice (some ⟨R,0,none⟩) n bc]] W4 fun e w'=>∃ab aoff ac ra rc,e = .returned (.slice (some ⟨ab,aoff,none⟩) n ac)∧w'.cell? ⟨ab,aoff+t,none⟩=some (.slice ra an rc)∧Below W4.heap.size W4 w'):=by
            have hrd:=(show FunSt W4 base l V2 from (Hst2.out.later Hb4.out).rows).read Hokl.out.ok.num;rw [Hv2.out] at hrd;have hga:=gahead_any nm p r (some ⟨R,0,none⟩) bc l W4 (by rw [Hll.out];exact hrd) Hokl.out.ok.len Hokl.out.ok.hto;rw [Hll.out] at hga;refine hga.mono ?_;rintro e w' ⟨v,rfl,hv,hb⟩;obtain⟨aa,ac,rfl,-⟩:=id hv.val;rw [show (aheadF l).length=n by simp [aheadF,Hll.out]] at hv ⊢;have htl:t<(aheadF l).length:=by simp [aheadF,Hll.out];omega
            obtain⟨ab,aoff,cs,haa,-,hrr,-,hcsa⟩:=hv.get htl;rw [show (aheadF l)[t]=predsOf l 0 t from (List.getElem?_eq_some_iff.1 (ahead_at Ht.out.2.2)).2] at hrr;obtain⟨rv,rfl,hrv⟩:=hrr;obtain⟨ra,rc,rfl,-⟩:=id hrv.val;subst haa;have ha0:=hcsa.get1;rw [Nat.mul_one,←han] at ha0;exact⟨ab,aoff,ac,ra,rc,rfl,ha0,hb⟩
           by_cases han1:1<an
           · have hq5:decide ((1:Int)<(an:Int))=true:=decide_eq_true (by omega)
             have Hstop:Hid (mayM l b=false):=by
              show _=_;unfold mayM;rw [←Ht.out.1,←han,decide_eq_false (show ¬an≤1 by omega)];simp
             clear htb han1 han;go_wp2_with (go_at_call 53;refine Hga.out.mono ?_;rintro e w5 ⟨ab,aoff,ac,ra,rc,rfl,hac,hb5⟩;have Hb5:=hid hb5;clear hb5);go_roundw
             case rel=>exact⟨b+1,V2,by omega,by go_num,by rw [chainsTo_succ,←Hl0.out,←Hci.out,chainIn_stop Hstop.out];exact Hst2.out.later (Hb4.out.trans (Hb5.out.mono Hb4.out.size)),Hv2.out⟩
             case measure=>simp [intOf];omega
           · have hq5:decide ((1:Int)<(an:Int))=false:=decide_eq_false (by omega)
             have Hmay:Hid (mayM l b=true):=by
              show _=_;unfold mayM;rw [←Ht.out.1,←han,←Hx.out,←Hdat.out.2.2,←Hy.out,←Hyd.out.1,decide_eq_true hk2,decide_eq_true (show t≠b from htb),decide_eq_true (show an≤1 by omega)];rfl
             have Htb:Hid (t≠b):=htb;clear htb han1 han;go_upto_region 9 with (go_at_call 53;refine Hga.out.mono ?_;rintro e w5 ⟨ab,aoff,ac,ra,rc,rfl,hac,hb5⟩;have Hb5:=hid hb5;clear hb5)
             have hbw5:Below wi.heap.size wi w5:=Hb4.out.trans (Hb5.out.mono Hb4.out.size);have h5:RwSt W w5 base X (okP l) V2 (elemsP l V2):=Hst2.out.later hbw5;have w1':=cell_later' w1 Hb5.out;have r1':w5.cell? ⟨R,b * 6+1,none⟩=some (.slice la ln lc):=by
              have h:=Hatb.out.1 1 (V2 (.list b)) rfl;rw [Hvl.out] at h;exact cell_later' h hbw5
             have hRw:R<wi.heap.size:=(Hst2.out.rows.lt (p := .blks) trivial R (by rw [Hv2.out];rfl)).2;have rz':w5.frozen? ⟨R,b * 6+1,none⟩=false:=(hbw5.frozen (p:=⟨R,b * 6+1,none⟩) hRw).trans (Hatb.out.2 _);have hone:∀u∈(elemsP l V2 (.list t)).flatten,u.oneCell'=true:=by
              refine flat_one' fun cs hcs u hu=>?_;obtain⟨m,hm⟩:=List.mem_iff_getElem?.1 hcs;simp only [elemsP] at hm;rw [mapIdx_at] at hm;cases hz:(blkOf l t).list[m]? with
              | none=>rw [hz] at hm;cases hm
              | some z =>
                rw [hz] at hm;cases hm;obtain⟨xa,xc,hsh⟩:=RowsAt.shape (p := .args t m) Hst2.out.rows (show m<_ from (List.getElem?_eq_some_iff.1 hz).1);simp only [cellsI,List.mem_cons,List.not_mem_nil,or_false] at hu;rcases hu with rfl | rfl | rfl | rfl | rfl | rfl | rfl | rfl <;> first | rfl | (rw [hsh];rfl)
             have hlenb:(elemsP l V2 (.list b)).length=ln:=by simp [elemsP,←Hx.out,←Hdat.out.2.1]
             have hlent:(elemsP l V2 (.list t)).length=yn:=by simp [elemsP,←Hy.out,←Hyd.out.2.1]
             have hwt:∀cs∈elemsP l V2 (.list t),cs.length=8:=h5.rows.wid (.list t) Ht.out.2.2;obtain⟨i0,hi0,hz0,hz1,hz2⟩:=info_parts infoIns;have hownb:=h5.rows.own (.list b) hbl;have hownt:=h5.rows.own (.list t) Ht.out.2.2;rw [hlenb,Hvl.out] at hownb;rw [hlent,Hyv.out.2.1] at hownt;have hsml:=(Hokl.out.ok.small _ (blkOf_mem hbl)).list;have hsmt:=(Hokl.out.ok.small _ (blkOf_mem Ht.out.2.2)).list;rw [←Hx.out,←Hdat.out.2.1] at hsml;rw [←Hy.out,←Hyd.out.2.1] at hsmt;have Hrun:Hid (∀ty,∃v' w',(Builtin.append_ #[70,70] ty #[.slice la ln lc,.slice ya yn yc]).run Tryz.prog w5.drew = .ok v' w'∧w'.ownsRow base 80 8 v' (ln+yn) ((elemsP l V2 (.list b)).flatten++(elemsP l V2 (.list t)).flatten)∧w5.grownBy w' (Value.slice la ln lc).ownBlock∧(v'.ownBlock=(Value.slice la ln lc).ownBlock∨v'.ownBlock=some w5.heap.size)):=fun ty=>by
              obtain ⟨v', w', g1, g2, g3, g4⟩ := run_append_rows (P := Tryz.prog) (w := w5.drew) base 70 ty 80 i0 _ 8 _ Tryz.underlying70 hi0 hz0 hz1 hz2 rfl (by decide) (.slice la ln lc) ln (elemsP l V2 (.list b)).flatten (ownsRow_later hownb (Below.refl _ _).drew) ya yn yc (elemsP l V2 (.list t)).flatten (by rw [flat_len _ (fun i cs hi => hwt cs (List.mem_of_getElem? hi)), hlent]) (fun hm => by
               obtain ⟨g, c, e, -, -, -, -⟩ := h5.rows.addr (p := .list t) Ht.out.2.2 (by rw [hlent]; exact hm)
               rw [Hyv.out.2.1] at e
               have hya : ya = some ⟨g, 0, none⟩ := by injection e
               subst hya
               exact ⟨⟨g, 0, none⟩, rfl, fun j u hj => hownt.cells (g := g) rfl j u hj⟩) hone (by unfold maxLen; omega) (by omega) (Nat.le_trans (h5.base_le) (Nat.le_refl _))
              exact⟨v',w',g1,g2,grownBy_same (grownBy_drew w5 _) g3,g4⟩
             have Hne:Hid (R≠YB∧∀k,(Value.slice la ln lc).ownBlock=some k→k≠R∧k≠YB∧k≠UB):=by
              refine⟨by have:=HYB.out;omega,fun k hk=>⟨fun e=>?_,fun e=>?_,fun e=>?_⟩⟩
              · exact Hst2.out.rows.apart (.list b) .blks hbl trivial (by simp) k (by rw [Hvl.out];exact hk) (by rw [Hv2.out,e];rfl)
              · have:=(Hst2.out.rows.lt (p := .list b) hbl k (by rw [Hvl.out];exact hk)).2
                have:=HYB.out;omega
              · exact Hst2.out.off (.list b) hbl k (by rw [Hvl.out];exact hk) (by rw [e];exact HX.out.1)
             have HS0:Hid (w5.drew.cell? ⟨YB,1,none⟩=some (.slice ya yn yc)):=w1';have zY:YB<w5.heap.size:=cell_lt w1';have zR:R<w5.heap.size:=cell_lt r1';have H5:=hid h5;have Hbw5:=hid hbw5;have Hlen:Hid ((elemsP l V2 (.list b)).length=ln∧(elemsP l V2 (.list t)).length=yn):=⟨hlenb,hlent⟩
             clear hbw5 h5 hone hlenb hlent hwt hownb hownt hRw w0 w1 w2 w3 w4 c0 c1 c2 c3 hac hi0 hz0 hz1 hz2
             go_region_law
              ((refine step_append_ex rfl _ _ 70 70 rfl (.slice la ln lc) (.slice ya yn yc) rfl rfl Hrun.out ?_
                intro v9 w9 ⟨ho9, hg9, hat9⟩
                obtain ⟨va, vc, rfl⟩ := ownsRow_shape ho9
                have hk : ∀ x, x < w5.heap.size → (∀ k, (Value.slice la ln lc).ownBlock = some k → k ≠ x) → w9.heap[x]? = w5.heap[x]? := fun x h1 h2 => hg9.block x h1 (fun e => h2 x e.symm rfl)
                have n1 := (World.cell?_of_block (w := w5) (a := ⟨R, b * 6 + 1, none⟩) (hk R zR (fun k hk => (Hne.out.2 k hk).1))).trans r1'
                have nz := (World.frozen?_of_block (w := w5) (a := ⟨R, b * 6 + 1, none⟩) (hk R zR (fun k hk => (Hne.out.2 k hk).1))).trans rz'
                have n2 := (World.cell?_of_block (w := w5) (a := ⟨YB, 1, none⟩) (hk YB zY (fun k hk => (Hne.out.2 k hk).2.1))).trans w1'
                have HS9 := hid n2
                have HS10 : Hid ((w9.setCell ⟨R, b * 6 + 1, none⟩ (.slice va (ln + yn) vc)).cell? ⟨YB, 1, none⟩ = some (.slice ya yn yc)) := (cell_set_ne _ (fun e => Hne.out.1 e.symm) _ _).trans n2
                have Hk9 := hid hk
                have Ho9 := hid ho9
                have Hg9 := hid hg9
                have Hat9 := hid hat9
                clear hk ho9 hg9 hat9 n2))
             all_goals
              obtain⟨W10,hW10⟩:∃W10,W10=w9.setCell ⟨R,b * 6+1,none⟩ (.slice va (ln+yn) vc):=⟨_,rfl⟩
              have h10 := H5.out.addList (t := t) (R := R) (n := n) (bc := bc) (v' := .slice va (ln + yn) vc) hbl Hv2.out Ho9.out (by rw [Hlen.out.1, Hlen.out.2]) (by rw [Hvl.out]; exact Hg9.out) (fun k hk => by
               rw [Hvl.out]
               rcases Hat9.out with h | h
               · exact .inl (by rw [← h]; exact hk)
               · rw [h] at hk; cases hk; exact .inr (Nat.le_refl _))
              rw [←hW10] at h10;obtain⟨V3,hV3⟩:∃V3,V3=updP V2 (.list b) (.slice va (ln+yn) vc):=⟨_,rfl⟩
              rw [←hV3] at h10;have hv3:V3 .blks = .slice (some ⟨R,0,none⟩) n bc:=by rw [hV3,updP_ne _ _ (by simp)];exact Hv2.out
              have hY10:W10.heap[YB]?=some (.cells #[.slice pa 0 pc,.slice ya yn yc,.int .i64 yk,.bool yr,.int .i64 ym,.slice za zn zc] 76 (0,0)):=by
               rw [hW10,Below.heap_setCell _ _ _ _ (fun e=>Hne.out.1 (by rw [←show YB=R from e])),Hk9.out YB zY (fun k hk=>(Hne.out.2 k hk).2.1)];exact (Hb5.out.block YB (by have:=HYB.out;omega)).trans Hl4.out
              have hU10:W10.heap[UB]?=some (.cells #[.string nm,.int .i64 p,.int .i64 r,.slice (some ⟨R,0,none⟩) n bc] 38 (0,0)):=(h10.kept UB HX.out.1).trans H0.out;have hk10:RwSt W10 W10 base (fun z=>X z∨z=YB) (okP l) V3 (srcC l V3 (addC l V3 b t)):=by
               refine (h10.keep (fun z hz=>?_) (fun q hq k hk hz=>?_)).congr (fun q _=>rfl) (fun q _=>?_)
               · rcases hz with h | h
                 · exact h10.x_lt h
                 · rw [h];exact (Array.getElem?_eq_some_iff.1 hY10).1
               · rcases hz with h | h
                 · exact h10.off q hq k hk h
                 · by_cases e:q = .list b
                   · subst e
                     rw [hV3,updP_self] at hk;rcases Hat9.out with h2 | h2
                     · exact (Hne.out.2 k (by rw [←h2];exact hk)).2.1 h
                     · rw [h2] at hk;cases hk;omega
                   · rw [hV3,updP_ne _ _ e] at hk
                     have:=(Hst2.out.rows.lt hq k hk).2;have:=HYB.out;omega
               · cases q with
                 | src c j=>exact (addC_ne (.src c j) (by simp)).symm
                 | _=>rfl
              have hrd:=rows_added h10.rows Hokl.out.ok.num hbl Ht.out.2.2;rw [hv3] at hrd;have Hren:=hid (rename_any nm p r l (l.set b (addB l b t)) V3 (addC l V3 b t) (fun z=>X z∨z=YB) base UB R t b n bc W10 hU10 hk10 (.inl HX.out.1) (fun q hq=>addC_ne q hq) hv3 hrd (by rw [List.length_set];exact Hll.out) (fun c=>by rw [addB_fin l b t hbl c]) Hll.out Hokl.out.ok (by have:=Hll.out;omega) hbn);have H10:=hid h10;have HY10:=hid hY10;have HV3:=hid hV3;have Hv3:=hid hv3;have HW10:=hid hW10;clear h10 hY10 hU10 hk10 hrd hV3 hv3 hW10 n1 nz w1' r1' rz' zY zR;go_upto_region 11 with (rw [←HW10.out];go_at_call 108;refine Hren.out.mono ?_;rintro e w11 ⟨rfl,h11⟩;have H11:=hid h11;clear h11)
              have hY11:w11.heap[YB]?=some (.cells #[.slice pa 0 pc,.slice ya yn yc,.int .i64 yk,.bool yr,.int .i64 ym,.slice za zn zc] 76 (0,0)):=(H11.out.kept YB (.inr rfl)).trans HY10.out;have hU11:w11.heap[UB]?=some (.cells #[.string nm,.int .i64 p,.int .i64 r,.slice (some ⟨R,0,none⟩) n bc] 38 (0,0)):=(H11.out.kept UB (.inl HX.out.1)).trans ((H10.out.kept UB HX.out.1).trans H0.out);obtain⟨-,-,y2,y3,y4,y5⟩:=(cells_of (cs:=[_,_,_,_,_,_]) hY11).get6;rw [Nat.zero_add] at y2 y3 y4 y5;have hcr3:∀c,c<l.length→(srcC (renF l t b (blkOf l t).fin.to.length) V3 (addC l V3 b t) .blks)[c]?=some (cellsB (blkOf l c) (V3 (.phis c)) (V3 (.list c)) (V3 (.to c))):=fun c hc=>by
               show (addC l V3 b t .blks)[c]?=_;rw [addC_ne _ (by simp)];simp only [elemsP];rw [mapIdx_at,blkOf_self l hc];rfl
              have hatb3:=H11.out.rows.at (p := .blks) trivial (g:=R) (n:=n) (c:=bc) Hv3.out (hcr3 b hbl);obtain⟨-,-,b2,b3,b4,b5⟩:=hatb3.1.get6;have z2:=hatb3.2 (b * 6+2);have z3:=hatb3.2 (b * 6+3);have z4:=hatb3.2 (b * 6+4);have z5:=hatb3.2 (b * 6+5);have b2':w11.cell? ⟨R,b * 6+2,none⟩=some (.int .i64 (blkOf l b).fin.kind):=b2;have b3':w11.cell? ⟨R,b * 6+3,none⟩=some (.bool (blkOf l b).fin.on.reg):=b3;have b4':w11.cell? ⟨R,b * 6+4,none⟩=some (.int .i64 (blkOf l b).fin.on.n):=b4;have b5':w11.cell? ⟨R,b * 6+5,none⟩=some (V3 (.to b)):=b5;have Hcr3:=hid hcr3;have HU11:=hid hU11;clear hY11 hU11 hcr3 hatb3 b2 b3 b4 b5;go_upto_region 12 with (fail)
              obtain⟨W12,hW12⟩:∃W12,W12=(((w11.setCell ⟨R,b * 6+2,none⟩ (.int .i64 yk)).setCell ⟨R,b * 6+2+1,none⟩ (.bool yr)).setCell ⟨R,b * 6+2+2,none⟩ (.int .i64 ym)).setCell ⟨R,b * 6+2+3,none⟩ (.slice za zn zc):=⟨_,rfl⟩
              rw [←hW12];have h12:RwSt W10 W12 base (fun z=>X z∨z=YB) (okP l) V3 (updP (srcC (renF l t b (blkOf l t).fin.to.length) V3 (addC l V3 b t)) .blks (((srcC (renF l t b (blkOf l t).fin.to.length) V3 (addC l V3 b t)) .blks).set b [V3 (.phis b),V3 (.list b),.int .i64 yk,.bool yr,.int .i64 ym,.slice za zn zc])):=by
               rw [hW12];exact H11.out.set4 trivial Hv3.out (i:=b) (Hcr3.out b hbl) (.int .i64 yk) (.bool yr) (.int .i64 ym) (.slice za zn zc)
              have hct:(updP (srcC (renF l t b (blkOf l t).fin.to.length) V3 (addC l V3 b t)) .blks (((srcC (renF l t b (blkOf l t).fin.to.length) V3 (addC l V3 b t)) .blks).set b [V3 (.phis b),V3 (.list b),.int .i64 yk,.bool yr,.int .i64 ym,.slice za zn zc]) .blks)[t]?=some (cellsB (blkOf l t) (V3 (.phis t)) (V3 (.list t)) (V3 (.to t))):=by
               rw [updP_self,List.getElem?_set_ne (fun e=>Htb.out e.symm)];exact Hcr3.out t Ht.out.2.2
              have hatt3:=h12.rows.at (p := .blks) trivial (g:=R) (n:=n) (c:=bc) Hv3.out hct;obtain⟨t0,t1,t2,t3,t4,t5⟩:=hatt3.1.get6;have t0':W12.cell? ⟨R,t * 6,none⟩=some (V3 (.phis t)):=t0;have t1':W12.cell? ⟨R,t * 6+1,none⟩=some (V3 (.list t)):=t1;have t2':W12.cell? ⟨R,t * 6+2,none⟩=some (.int .i64 (blkOf l t).fin.kind):=t2;have t3':W12.cell? ⟨R,t * 6+3,none⟩=some (.bool (blkOf l t).fin.on.reg):=t3;have t4':W12.cell? ⟨R,t * 6+4,none⟩=some (.int .i64 (blkOf l t).fin.on.n):=t4;have t5':W12.cell? ⟨R,t * 6+5,none⟩=some (V3 (.to t)):=t5;have x0:=hatt3.2 (t * 6);have x1:=hatt3.2 (t * 6+1);have x2:=hatt3.2 (t * 6+2);have x3:=hatt3.2 (t * 6+3);have x4:=hatt3.2 (t * 6+4);have x5:=hatt3.2 (t * 6+5);have hU12:W12.heap[UB]?=some (.cells #[.string nm,.int .i64 p,.int .i64 r,.slice (some ⟨R,0,none⟩) n bc] 38 (0,0)):=(h12.kept UB (.inl HX.out.1)).trans ((H10.out.kept UB HX.out.1).trans H0.out);have c3:=(cells_of (cs:=[_,_,_,_]) hU12) 3 _ rfl;rw [Nat.zero_add] at c3;have h13:=h12.set6 trivial Hv3.out (i:=t) hct (.slice none 0 0) (.slice none 0 0) (.int .i64 1) (.bool false) (.int .i64 0) (.slice none 0 0)
              have h14 := merge_rows (b := b) Hokl.out hbl Hmay.out h13 (fun q hq => by
               rw [updP_ne _ _ hq, updP_ne _ _ hq, ← Ht.out.1]; rfl) (by
               rw [updP_self, updP_self, ← Ht.out.1]
               have e1 : srcC (renF l t b (blkOf l t).fin.to.length) V3 (addC l V3 b t) .blks = elemsP l V3 .blks := addC_ne .blks (by simp)
               have e2 : V3 (.to t) = .slice za zn zc := by rw [HV3.out, updP_ne _ _ (by simp)]; exact Hyv.out.2.2
               rw [e1, e2]
               unfold cellsB
               show _ = ((elemsP l V3 .blks).set b [V3 (.phis b), V3 (.list b), .int .i64 (blkOf l t).fin.kind, .bool (blkOf l t).fin.on.reg, .int .i64 (blkOf l t).fin.on.n, .slice za zn zc]).set t _
               rw [← Hy.out, ← Hyd.out.2.2.2.1, ← Hyd.out.2.2.2.2.1, ← Hyd.out.2.2.2.2.2]; rfl)
              have H15:=hid (H10.out.trans h14 (fun z hz => .inl hz));clear hW12 h12 hct hatt3 t0 t1 t2 t3 t4 t5 hU12 h13 h14 y2 y3 y4 y5 z2 z3 z4 z5 b2' b3' b4' b5';go_wp2_with fail;go_roundg (jN (mergeF l b))
              case measure =>
               have h1:=jN_merge Hokl.out hbl Hmay.out;have h2:=Hg.out;omega
              case rel =>
               refine⟨mergeF l b,mrgV l b (toJ l b) V3,rfl,by rw [←chainIn_step Hokl.out hbl Hmay.out];exact Hci.out,chOk_merge Hokl.out hbl Hmay.out,by rw [mergeF_len];exact Hll.out,H15.out,?_⟩;unfold mrgV;rw [updP_ne _ _ (by simp),updP_ne _ _ (by simp),updP_ne _ _ (by simp)];exact Hv3.out
         · have hq4:decide (0<pn)=true:=decide_eq_true (by omega)
           have Hstop:Hid (mayM l b=false):=by
            show _=_;unfold mayM;rw [←Ht.out.1,←Hy.out,←Hyd.out.1,decide_eq_false hp0];simp
           clear hp0 htb;go_wp2_with fail;go_roundw
           case rel=>exact⟨b+1,V2,by omega,by go_num,by rw [chainsTo_succ,←Hl0.out,←Hci.out,chainIn_stop Hstop.out];exact Hst2.out.later Hb4.out,Hv2.out⟩
           case measure=>simp [intOf];omega
     · have hq2:=eq_no hk2
       have Hstop:Hid (mayM l b=false):=by
        show _=_;unfold mayM;rw [←hx,←hek,decide_eq_false hk2];rfl
       clear hg hci hokl hll hst2 hv2 hcr hx hvt htn hvl hln hek hatb hubi hk2;go_wp2_with fail;go_roundw
       case rel=>exact⟨b+1,V2,by omega,by go_num,by rw [chainsTo_succ,←Hl0.out,←Hci.out,chainIn_stop Hstop.out];exact Hst2.out,Hv2.out⟩
       case measure=>simp [intOf];omega
  · have hbn2:b=n:=by omega
    subst hbn2;have huo:wo.heap[UO]?=some (.cells #[.string ⟨#[]⟩,.int .i64 0,.int .i64 0,.slice none 0 0] 38 (0,0)):=(hst1.kept UO HX.out.2).trans H1.out;obtain⟨o0,o1,o2,o3⟩:=(cells_of (cs:=[_,_,_,_]) huo).get4;rw [Nat.zero_add] at o1 o2 o3;have z0:=thawed huo 0;have z1:=thawed huo 1;have z2:=thawed huo 2;have z3:=thawed huo 3;have Ho4:Hid (CellsAt wo UO 0 [.string ⟨#[]⟩,.int .i64 0,.int .i64 0,.slice none 0 0]):=cells_of huo;clear hubo huo hbn hb hst1 hch hcl hl0 hv1;go_wp2_with fail;have hW5:=set4 (u0 := .string nm) (u1 := .int .i64 p) (u2 := .int .i64 r) (u3 := .slice ba b bc) Ho4.out;refine bodyPost_ret (func_res1 rfl rfl hW5) rfl ?_;have hxo:∀q,okP (chainsTo bs b) q→(V1 q).ownBlock≠some UO:=fun q hq e=>Hst1.out.off q hq UO e HX.out.2;have hrows:=((((Hst1.out.rows.setOff (o:=0) hxo (.string nm)).setOff (o:=1) hxo (.int .i64 p)).setOff (o:=2) hxo (.int .i64 r)).setOff (o:=3) hxo (.slice ba b bc))
    refine⟨V1,by rw [Hv1.out],by unfold chainsF;rw [←Hn.out];exact hrows,?_,?_⟩
    · have hbb:=(HbW.out.mono HB.out).trans Hst1.out.low
      have h2:base≤UO:=by have:=HUs.out;have:=HB.out;omega
      exact (((hbb.setCell (p:=⟨UO,0,none⟩) h2 _).setCell (p:=⟨UO,1,none⟩) h2 _).setCell (p:=⟨UO,2,none⟩) h2 _).setCell (p:=⟨UO,3,none⟩) h2 _
    · intro b2 hb2
      have hbl:=(HS.out b2 hb2).1;have h2:b2≠UO:=by have:=HUs.out;omega
      refine⟨?_,fun q hq e=>Hst1.out.off q (by unfold chainsF at hq;rw [←Hn.out] at hq;exact hq) b2 e (HXS.out b2 hb2)⟩;refine ((((Kp.refl (fun b=>b≠UO) wo).set (a:=⟨UO,0,none⟩) (fun h=>h rfl) _).set (a:=⟨UO,1,none⟩) (fun h=>h rfl) _).set (a:=⟨UO,2,none⟩) (fun h=>h rfl) _ |>.set (a:=⟨UO,3,none⟩) (fun h=>h rfl) _).block b2 ?_ h2 |>.trans ?_
      · exact Nat.lt_of_lt_of_le hbl (Nat.le_trans HbW.out.size Hst1.out.low.size)
      · exact (Hst1.out.kept b2 (HXS.out b2 hb2)).trans (HbW.out.block b2 hbl)

end Go.Proofs.YtnkogppgacappaaGreatDoor
