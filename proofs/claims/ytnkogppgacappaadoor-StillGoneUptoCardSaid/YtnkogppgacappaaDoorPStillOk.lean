/- tidy, plain: the first Keep does not mind how blocks are numbered; so tidy does not mind how weigh laid them. tidy, plain: done twice is done once. still.Do, plain: what is still is gone behind it; done twice it is done once. still.Do: of a checked unit; of any one, by its fault. -/
import Derived.Test.YtnkogppgacappaaDoorPLarge
import Derived.Test.YtnkogppgacappaaDoorPStillDo
import Derived.Test.YtnkogppgacappaaDoorPQuietO
namespace Go.Proofs.YtnkogppgacappaaDoor

theorem sorted_from2 {l m:List (Int×DVal)}(hp:m.Perm l)(hs:m.Pairwise fun x y=>x.1≤y.1)(hnd:(l.map Prod.fst).Nodup):m=l.mergeSort leF:=by
 refine List.Perm.eq_of_pairwise (le:=fun x y=>x.1≤y.1) ?_ hs ?_ (hp.trans (List.mergeSort_perm _ _).symm)
 · intro a b ha hb h1 h2
   have ha':a∈l:=hp.mem_iff.1 ha;have hb':b∈l:=(List.mergeSort_perm l leF).mem_iff.1 hb;have he:a.1=b.1:=by omega
   obtain⟨i,hi,rfl⟩:=List.getElem_of_mem ha';obtain⟨j,hj,rfl⟩:=List.getElem_of_mem hb';have hp:=List.pairwise_iff_getElem.1 hnd;rcases Nat.lt_trichotomy i j with h | h | h
   · exact absurd (by rw [List.getElem_map,List.getElem_map];exact he) (hp i j (by simpa using hi) (by simpa using hj) h)
   · subst h;rfl
   · exact absurd (by rw [List.getElem_map,List.getElem_map];exact he.symm) (hp j i (by simpa using hj) (by simpa using hi) h)
 · have h:=List.pairwise_mergeSort (le:=leF) (fun a b c h1 h2=>by simp [leF] at *;omega) (fun a b=>by simp [leF];omega) l
   exact h.imp fun h=>by simpa [leF] using h

theorem post_lt {bs:List DBlock}(h:ToOk bs){i:Nat}(hi:(i:Int)∈postF bs):i<bs.length:=by
 obtain⟨p1,-,-,-⟩:=post_facts h;have:=p1 _ hi;omega
theorem post_zero {bs:List DBlock}(h:ToOk bs):((0:Nat):Int)∈postF bs:=by
 obtain⟨-,-,-,A,hA⟩:=post_facts h;rw [hA];simp
theorem keepB_eq(at_:Nat→Int)(A:List Int)(x:DBlock):keepB at_ A x=⟨x.phis.map (keepP at_ A),x.list,⟨x.fin.kind,x.fin.on,x.fin.to.map fun t=>at_ t.toNat⟩⟩:=rfl
end Go.Proofs.YtnkogppgacappaaDoor

namespace Go.Proofs.YtnkogppgacappaaDoor

inductive Rch (bs : List DBlock) : Nat → Prop
 | zero:Rch bs 0
 | step {c u:Nat}:Rch bs c→c<bs.length→(u:Int)∈(blkOf bs c).fin.to→Rch bs u
structure AllR (bs:List DBlock):Prop where
 one:∀x∈bs,∀t∈x.fin.to,1≤t
 all:∀c,c<bs.length→(blkOf bs c).fin.to≠[]→Rch bs c
section
variable {bs : List DBlock} {b : Nat}
theorem AllR.merge(h:AllR bs)(hok:ChOk bs)(hb:b<bs.length)(hm:mayM bs b=true):AllR (mergeF bs b):=by
 obtain⟨h1,h2,h3,h4,h5,h6⟩:=mayM_facts hok hb hm;have hat:=mergeF_at hb h5;have hto:∀c,c≠toJ bs b→c≠b→(blkOf (mergeF bs b) c).fin.to=(blkOf bs c).fin.to:=fun c n1 n2=>by
  rw [hat,if_neg n1,if_neg n2,(renA_fin hok.ok h5 c).1]
 have htb:(blkOf (mergeF bs b) b).fin.to=(blkOf bs (toJ bs b)).fin.to:=by
  rw [hat,if_neg (fun e=>h2 e.symm),if_pos rfl];rfl
 have htt:(blkOf (mergeF bs b) (toJ bs b)).fin.to=[]:=by
  rw [hat,if_pos rfl];rfl
 have ht1:1≤toJ bs b:=by
  have:=h.one _ (blkOf_mem hb) ((toJ bs b:Nat):Int) (by rw [h4];exact List.mem_singleton.2 rfl);omega
 have hrch:∀c,Rch bs c→(c≠toJ bs b→Rch (mergeF bs b) c)∧(c=toJ bs b→Rch (mergeF bs b) b):=fun c hc=>by
  induction hc with
  | zero=>exact⟨fun _ => .zero,fun e=>by omega⟩
  | @step c u _ hcl hu ih =>
    by_cases hct:c=toJ bs b
    · have hbr:=ih.2 hct
      have hu':(u:Int)∈(blkOf (mergeF bs b) b).fin.to:=by rw [htb,←hct];exact hu
      refine⟨fun _=>hbr.step (by rw [mergeF_len];exact hb) hu',fun e=>hbr⟩
    · have hcr:=ih.1 hct
      refine⟨fun hne=>?_,fun e=>?_⟩
      · by_cases hcb:c=b
        · subst hcb
          rw [h4,List.mem_singleton] at hu;omega
        · exact hcr.step (by rw [mergeF_len];exact hcl) (by rw [hto c hct hcb];exact hu)
      · have:=h6 c hcl (by rw [←e];exact hu)
        subst this;exact hcr
 refine⟨fun x hx t ht=>?_,fun c hc hne=>?_⟩
 · obtain⟨c,hc,rfl⟩:=mem_blkOf hx
   rw [mergeF_len] at hc
   by_cases n1:c=toJ bs b
   · rw [n1,htt] at ht;cases ht
   · by_cases n2:c=b
     · rw [n2,htb] at ht;exact h.one _ (blkOf_mem h5) t ht
     · rw [hto c n1 n2] at ht;exact h.one _ (blkOf_mem hc) t ht
 · rw [mergeF_len] at hc
   by_cases n1:c=toJ bs b
   · rw [n1,htt] at hne;exact absurd rfl hne
   · refine (hrch c ?_).1 n1
     by_cases n2:c=b
     · subst n2;exact h.all c hb (by rw [h4];simp)
     · rw [hto c n1 n2] at hne;exact h.all c hc hne
theorem mayM_merge(hok:ChOk bs)(hb:b<bs.length)(hm:mayM bs b=true){c:Nat}(hc:c<bs.length)(hcb:c≠b)(h:mayM (mergeF bs b) c=true):mayM bs c=true:=by
 obtain⟨h1,h2,h3,h4,h5,h6⟩:=mayM_facts hok hb hm;have hok':=chOk_merge hok hb hm;have hat:=mergeF_at hb h5;obtain⟨g1,g2,g3,g4,g5,g6⟩:=mayM_facts hok' (by rw [mergeF_len];exact hc) h;rw [mergeF_len] at g5;have n1:c≠toJ bs b:=fun e=>by
  rw [hat,if_pos e] at g1;exact absurd g1 (by decide)
 have efin:(blkOf (mergeF bs b) c).fin=(blkOf bs c).fin:=by rw [hat,if_neg n1,if_neg hcb,(renA_fin hok.ok h5 c).1]
 have eto:toJ (mergeF bs b) c=toJ bs c:=by unfold toJ;rw [efin]
 rw [eto] at g2 g3 g4 g5;rw [efin] at g1 g4;have n2:toJ bs c≠toJ bs b:=fun e=>hcb (h6 c hc (by rw [g4,e];exact List.mem_singleton.2 rfl));have eph:(blkOf bs (toJ bs c)).phis.length=0:=by
  have h7:(blkOf (mergeF bs b) (toJ bs c)).phis.length=(blkOf bs (toJ bs c)).phis.length:=by
   rw [hat,if_neg n2]
   by_cases n3:toJ bs c=b
   · rw [if_pos n3]
     show (blkOf (renA bs (toJ bs b) b) b).phis.length=_;rw [(renA_fin hok.ok h5 b).2.2,n3]
   · rw [if_neg n3,(renA_fin hok.ok h5 _).2.2]
  rw [←h7,g3];rfl
 have epr:=preds_merge hok hb hm n2 hok'.ok.toNd;unfold mayM at h;simp only [Bool.and_eq_true,decide_eq_true_eq] at h;rw [eto] at h;unfold mayM;simp only [Bool.and_eq_true,decide_eq_true_eq];exact⟨⟨⟨g1,g2⟩,eph⟩,by rw [←epr];exact h.2⟩
theorem chainIn_end : ∀ (f : Nat) (bs : List DBlock), ChOk bs → b < bs.length → jN bs ≤ f → mayM (chainIn f bs b) b = false
 | 0,bs,hok,hb,hf=>by
   show mayM bs b=false
   by_cases hm:mayM bs b=true
   · have:=jN_merge hok hb hm;omega
   · simpa using hm
 | f+1,bs,hok,hb,hf=>by
   unfold chainIn
   by_cases hm:mayM bs b=true
   · rw [if_pos hm]
     have:=jN_merge hok hb hm;exact chainIn_end f _ (chOk_merge hok hb hm) (by rw [mergeF_len];exact hb) (by omega)
   · rw [if_neg hm];simpa using hm
theorem chainIn_none {c : Nat} (hcb : c ≠ b) : ∀ (f : Nat) (bs : List DBlock), ChOk bs → b < bs.length → c < bs.length → mayM bs c = false → mayM (chainIn f bs b) c = false
 | 0,_,_,_,_,h=>h
 | f+1,bs,hok,hb,hc,h=>by
   unfold chainIn
   by_cases hm:mayM bs b=true
   · rw [if_pos hm]
     refine chainIn_none hcb f _ (chOk_merge hok hb hm) (by rw [mergeF_len];exact hb) (by rw [mergeF_len];exact hc) ?_
     by_cases h9:mayM (mergeF bs b) c=true
     · rw [mayM_merge hok hb hm hc hcb h9] at h;exact absurd h (by decide)
     · simpa using h9
   · rw [if_neg hm];exact h
theorem chainsTo_none (hok : ChOk bs) : ∀ k, k ≤ bs.length → ∀ c, c < k → mayM (chainsTo bs k) c = false
 | 0,_,c,h=>by omega
 | k+1,hk,c,h=>by
   obtain⟨h1,h2⟩:=chainsTo_ok hok k (by omega);rw [chainsTo_succ]
   by_cases e:c=k
   · subst e
     exact chainIn_end _ _ h1 (by omega) (Nat.le_refl _)
   · exact chainIn_none e _ _ h1 (by omega) (by omega) (chainsTo_none hok k (by omega) c (by omega))
theorem chainsTo_same (h : ∀ c, c < bs.length → mayM bs c = false) : ∀ k, k ≤ bs.length → chainsTo bs k = bs
 | 0,_=>rfl
 | k+1,hk=>by rw [chainsTo_succ,chainsTo_same h k (by omega),chainIn_stop (h k (by omega))]
theorem AllR.chains(h:AllR bs)(hok:ChOk bs):AllR (chainsF bs):=chainsTo_keeps (P:=AllR) (fun _ _ hok hb hm h=>h.merge hok hb hm) hok h _ (Nat.le_refl _)
theorem Rch.post(h:ToOk bs){c:Nat}(hc:Rch bs c):(c:Int)∈postF bs:=by
 induction hc with
 | zero=>exact post_zero h
 | @step c u _ hcl hu ih=>exact post_closed h _ ih _ (by rw [Int.toNat_natCast,tosOf_blk hcl];exact hu)
theorem keep_allR(_hok:FunOk bs)(ht:ToOk bs)(h1:∀x∈bs,∀t∈x.fin.to,1≤t):AllR (keepF bs (ordL bs)):=by
 have ho:=ordL_ok ht;have hin:∀b∈ordL bs,b.toNat<bs.length:=fun b hb=>by have:=ho.inn b hb;omega
 have hlen:(ordN bs).length=(ordL bs).length:=by unfold ordN;rw [List.length_map]
 have hget:∀j (hj:j<(ordL bs).length),(ordL bs)[j]?=some (((ordN bs)[j]'(by omega):Nat):Int):=fun j hj=>by
  have:=ho.inn _ (List.getElem_mem hj);rw [List.getElem?_eq_getElem hj];unfold ordN;rw [List.getElem_map,Int.toNat_of_nonneg this.1]
 refine⟨fun x hx t htt=>?_,fun c hc hne=>?_⟩
 · obtain⟨b,hb,rfl⟩:=keepF_mem hx
   obtain⟨t0,h0,rfl⟩:=List.mem_map.1 (show t∈List.map _ _ from htt);obtain⟨i,g1,g2,g3⟩:=keep_to ho hb h0;have g4:=h1 _ (blkOf_mem (hin b hb)) t0 h0;have:i≠0:=fun e=>by
    subst e;have:=ho.head.symm.trans g1;injection this with this;omega
   omega
 · rw [keepF_len] at hc
   clear hne
   induction c using Nat.strongRecOn with
   | _ c ih =>
     by_cases h0:c=0
     · subst h0;exact .zero
     · obtain⟨y,hy,j',hj',hlt,rfl⟩:=ord_led ht (j:=c) (by omega) (by omega)
       have hj2:j'<(ordL bs).length:=by omega
       refine (ih j' hlt hj2).step (by rw [keepF_len];exact hj2) ?_;rw [keepF_at2 (hget j' hj2),Int.toNat_natCast];show _∈List.map _ _;have hm:(ordN bs)[c]'(by omega)<bs.length:=ordN_lt ht (List.getElem_mem _);unfold ahdF at hy;obtain⟨z,hz,ez⟩:=List.mem_map.1 hy;obtain⟨i,w,k1,k2,k3⟩:=mem_predsOf.1 hz;have ei:i=(ordN bs)[j']'(by omega):=by omega
       refine List.mem_map.2 ⟨(((ordN bs)[c]'(by omega):Nat):Int),?_,?_⟩
       · rw [←ei,blkOf_at k1];exact k2
       · rw [Int.toNat_natCast]
         exact plcO_at ho.nd (hget c hc)
end

def rangeI(n:Nat):List Int:=(List.range n).map fun (i:Nat)=>(i:Int)
theorem rangeI_at {n k:Nat}(h:k<n):(rangeI n)[k]?=some (k:Int):=by unfold rangeI;rw [List.getElem?_map,List.getElem?_range h];rfl
theorem rangeI_nd(n:Nat):(rangeI n).Nodup:=List.pairwise_map.2 ((List.nodup_range (n:=n)).imp fun h e=>h (by omega))
theorem post_same {bs bs':List DBlock}(h:ToOk bs)(h':bs'.map (·.fin.to)=bs.map (·.fin.to)):ordL bs'=ordL bs:=by
 have hl:bs'.length=bs.length:=by simpa using congrArg List.length h'
 have htos:∀i,i<bs.length→tosOf bs' i=tosOf bs i:=fun i hi=>by
  have e:(bs'.map (·.fin.to))[i]?=(bs.map (·.fin.to))[i]?:=by rw [h']
  rw [List.getElem?_map,List.getElem?_map,blkOf_self bs hi,blkOf_self bs' (by omega)] at e;rw [tosOf_blk hi,tosOf_blk (by omega)];injection e
 have he:Eqv bs bs' (fun i=>i) fun i=>i<bs.length:=by
  refine⟨fun i hi=>hi,fun i hi=>by omega,fun i j _ _ e=>e,fun i hi t ht=>?_,fun i hi=>?_⟩
  · rw [tosOf_blk hi] at ht
    have:=(h.tgt i _ (blkOf_self bs hi)).2 t ht;omega
  · rw [htos i hi]
    conv=>lhs;rw [←List.map_id (tosOf bs i)]
    refine List.map_congr_left fun t ht=>?_;rw [tosOf_blk hi] at ht;have:=(h.tgt i _ (blkOf_self bs hi)).2 t ht;show t=_;omega
 have e:=post_eqv he h.pos rfl;unfold ordL;rw [e]
 congr 1
 conv=>rhs;rw [←List.map_id (postF bs)]
 refine List.map_congr_left fun t ht=>?_;obtain⟨p1,-,-,-⟩:=post_facts h;have:=p1 t ht;show _=t;omega
theorem ordL_kept {bs:List DBlock}(ht:ToOk bs):ordL (keepF bs (ordL bs))=rangeI (keepF bs (ordL bs)).length:=by
 have ho:=ordL_ok ht;have hplc:∀i:Nat,(i:Int)∈postF bs→∃k:Nat,(ordL bs)[k]?=some (i:Int)∧plcO (ordL bs) i=(k:Int)∧k<(ordL bs).length:=fun i hi=>by
  obtain⟨k,hk,e⟩:=List.getElem_of_mem (show (i:Int)∈ordL bs from List.mem_reverse.2 hi);have e1:(ordL bs)[k]?=some (i:Int):=by rw [List.getElem?_eq_getElem hk,e]
  exact⟨k,e1,plcO_at ho.nd e1,hk⟩
 have he:Eqv bs (keepF bs (ordL bs)) (fun i=>(plcO (ordL bs) i).toNat) fun i=>(i:Int)∈postF bs:=by
  refine⟨fun i hi=>post_lt ht hi,fun i hi=>?_,fun i j hi hj e=>?_,fun i hi t h=>?_,fun i hi=>?_⟩
  · obtain⟨k,-,e,hk⟩:=hplc i hi
    rw [keepF_len,e];omega
  · obtain⟨k,-,e1,-⟩:=hplc i hi
    obtain⟨m,-,e2,-⟩:=hplc j hj;exact plcO_inj (ord:=ordL bs) (by omega) (by omega)
  · have h1:=post_closed ht _ hi t (by rw [Int.toNat_natCast];exact h)
    obtain⟨p1,-,-,-⟩:=post_facts ht;have:=p1 t h1;rw [Int.toNat_of_nonneg this.1];exact h1
  · obtain⟨k,e1,e2,hk⟩:=hplc i hi
    rw [e2,Int.toNat_natCast,tosOf_blk (by rw [keepF_len];exact hk),tosOf_blk (post_lt ht hi),keepF_at2 e1,Int.toNat_natCast];show List.map _ _=_;refine List.map_congr_left fun t htt=>?_;have h1:=post_closed ht _ hi t (by rw [Int.toNat_natCast,tosOf_blk (post_lt ht hi)];exact htt);obtain⟨p1,-,-,-⟩:=post_facts ht;have:=p1 t h1;obtain⟨m,-,e3,-⟩:=hplc t.toNat (by rw [Int.toNat_of_nonneg this.1];exact h1);rw [e3];simp
 have hz:plcO (ordL bs) 0=0:=plcO_at (k:=0) (x:=0) ho.nd ho.head;have e:=post_eqv he (post_zero ht) (by rw [hz];rfl);have e2:ordL (keepF bs (ordL bs))=(ordL bs).map fun t=>((plcO (ordL bs) t.toNat).toNat:Int):=by
  show (postF _).reverse=(postF bs).reverse.map _;rw [e,List.map_reverse]
 rw [e2,keepF_len];apply List.ext_getElem?;intro k
 by_cases hk:k<(ordL bs).length
 · rw [List.getElem?_map,rangeI_at hk,List.getElem?_eq_getElem hk,Option.map_some]
   have hi:=ho.inn _ (List.getElem_mem hk);have e3:(ordL bs)[k]?=some (((ordL bs)[k].toNat:Nat):Int):=by rw [List.getElem?_eq_getElem hk,Int.toNat_of_nonneg hi.1]
   rw [plcO_at ho.nd e3];simp
 · rw [List.getElem?_eq_none (by rw [List.length_map];omega),List.getElem?_eq_none (by unfold rangeI;simp;omega)]
theorem keepF_range {bs:List DBlock}(hok:FunOk bs):keepF bs (rangeI bs.length)=bs:=by
 have hp:∀i,i<bs.length→plcO (rangeI bs.length) i=(i:Int):=fun i hi=>plcO_at (rangeI_nd _) (rangeI_at hi);apply List.ext_getElem?;intro k
 by_cases hk:k<bs.length
 · rw [keepF_get (rangeI_at hk),blkOf_self bs hk,Int.toNat_natCast]
   congr 1
   have hx:=blkOf_mem hk;have hto:(blkOf bs k).fin.to.map (fun t=>plcO (rangeI bs.length) t.toNat)=(blkOf bs k).fin.to:=by
    conv=>rhs;rw [←List.map_id (blkOf bs k).fin.to]
    refine List.map_congr_left fun t ht=>?_;have:=hok.toIn _ hx t ht;rw [hp t.toNat (by omega)];show _=t;omega
   have hph:(blkOf bs k).phis.map (keepP (plcO (rangeI bs.length)) (predsOf bs 0 k))=(blkOf bs k).phis:=by
    conv=>rhs;rw [←List.map_id (blkOf bs k).phis]
    refine List.map_congr_left fun q hq=>?_;have hs:=hok.src k hk q hq;have hz:fromL (plcO (rangeI bs.length)) (predsOf bs 0 k) q.src=(predsOf bs 0 k).zip q.src:=by
     unfold fromL;have e:∀l:List (Int×DVal),(∀x∈l,0≤x.1∧x.1.toNat<bs.length)→l.flatMap (fromOne (plcO (rangeI bs.length)))=l:=fun l=>by
      induction l with
      | nil=>intro _;rfl
      | cons x l ih =>
        intro h;have hx:=h x (List.mem_cons_self ..);rw [List.flatMap_cons,ih fun y hy=>h y (List.mem_cons_of_mem _ hy)];have:fromOne (plcO (rangeI bs.length)) x=[x]:=by
         unfold fromOne;rw [hp _ hx.2,if_pos (by omega)]
         congr 1
         refine Prod.ext ?_ rfl;show ((x.1.toNat:Nat):Int)=x.1;omega
        rw [this];rfl
     refine e _ fun x hx=>?_;have:=predsOf_mem (List.of_mem_zip (show (x.1,x.2)∈_ from hx)).1;omega
    have hsort:=predsOf_sorted (t:=k) bs 0 hok.toNd;have hfst:((predsOf bs 0 k).zip q.src).map Prod.fst=predsOf bs 0 k:=List.map_fst_zip (by omega)
    have hm := sorted_from2 (l := (predsOf bs 0 k).zip q.src) (List.Perm.refl _) (by
     have h := hsort.1
     rw [← hfst] at h
     exact (List.pairwise_map.1 h).imp fun h => Int.le_of_lt h) (by rw [hfst]; exact hsort.1.imp fun h e => by omega)
    unfold keepP;rw [hz,←hm,List.map_snd_zip (by omega)];rfl
   rw [keepB_eq,hto,hph]
 · rw [List.getElem?_eq_none (by rw [keepF_len];unfold rangeI;simp;omega),List.getElem?_eq_none (by omega)]
theorem kept_none {bs:List DBlock}(hok:ChOk bs)(ht:ToOk bs)(hr:AllR bs)(hn:∀c,c<bs.length→mayM bs c=false)(hok':ChOk (keepF bs (ordL bs))):∀c,c<(keepF bs (ordL bs)).length→mayM (keepF bs (ordL bs)) c=false:=by
 intro c hc
 by_cases hm:mayM (keepF bs (ordL bs)) c=true
 · exfalso
   obtain⟨g1,g2,g3,g4,g5,g6⟩:=mayM_facts hok' hc hm;have ho:=ordL_ok ht;rw [keepF_len] at hc g5;obtain⟨b,hb⟩:∃b,(ordL bs)[c]?=some b:=⟨_,List.getElem?_eq_getElem hc⟩
   have hbm:=List.mem_of_getElem? hb;have hbi:=ho.inn b hbm;rw [keepF_at2 hb] at g1 g4;have hk:(blkOf bs b.toNat).fin.kind=2:=g1;have hl:=hok.jump _ (blkOf_mem (bs:=bs) (c:=b.toNat) (by omega)) hk;obtain⟨t,het⟩:∃t,(blkOf bs b.toNat).fin.to=[t]:=by
    match hh:(blkOf bs b.toNat).fin.to,hl with
    | [u],_=>exact⟨u,rfl⟩
   have htm:t∈(blkOf bs b.toNat).fin.to:=by rw [het];exact List.mem_singleton.2 rfl
   obtain⟨i,i1,i2,i3⟩:=keep_to ho hbm htm;have hti:=ho.inn t (List.mem_of_getElem? i1);have htJ:toJ bs b.toNat=t.toNat:=by unfold toJ;rw [het];rfl
   have hci:toJ (keepF bs (ordL bs)) c=i:=by
    have:((toJ (keepF bs (ordL bs)) c:Nat):Int)=(i:Int):=by
     have e:(keepB (plcO (ordL bs)) (predsOf bs 0 b.toNat) (blkOf bs b.toNat)).fin.to=[(i:Int)]:=by
      show List.map _ _=_;rw [het,List.map_singleton,i2]
     rw [e] at g4;injection g4 with g4;exact g4.symm
    omega
   rw [hci] at g2 g3 g6;rw [keepF_at2 i1] at g3;have hbn:mayM bs b.toNat=false:=hn _ (by omega);have:mayM bs b.toNat=true:=by
    unfold mayM;simp only [Bool.and_eq_true,decide_eq_true_eq];rw [htJ];refine⟨⟨⟨hk,fun e=>g2 ?_⟩,?_⟩,?_⟩
    · have e2:t=b:=by omega
      subst e2
      exact nodup_inj ho.nd i3 hc (by
       have a1 := List.getElem?_eq_getElem i3
       have a2 := List.getElem?_eq_getElem hc
       rw [i1] at a1
       rw [hb] at a2
       exact Option.some.inj (a1.symm.trans a2))
    · have:(List.map (keepP (plcO (ordL bs)) (predsOf bs 0 t.toNat)) (blkOf bs t.toNat).phis)=[]:=g3
      rw [List.map_eq_nil_iff] at this;rw [this];rfl
    · match hh:predsOf bs 0 t.toNat with
      | []=>exact Nat.zero_le _
      | [x]=>exact Nat.le_refl _
      | x :: y :: l =>
        exfalso;have hs:=(predsOf_sorted (t:=t.toNat) bs 0 hok.ok.toNd).1;rw [hh] at hs;have hxy:=(List.pairwise_cons.1 hs).1 y (List.mem_cons_self ..);have hpl:∀z∈predsOf bs 0 t.toNat,∃m:Nat,(ordL bs)[m]?=some z∧m=c:=fun z hz=>by
         obtain⟨k,w,k1,k2,k3⟩:=mem_predsOf.1 hz;have hkl:=(List.getElem?_eq_some_iff.1 k1).1;have hkr:=(hr.all k hkl (by rw [blkOf_at k1];intro e;rw [e] at k2;cases k2)).post ht;obtain⟨m,hm,e⟩:=List.getElem_of_mem (show (k:Int)∈ordL bs from List.mem_reverse.2 hkr);have e1:(ordL bs)[m]?=some (k:Int):=by rw [List.getElem?_eq_getElem hm,e]
         refine⟨m,by rw [e1,k3];simp,?_⟩;refine g6 m (by rw [keepF_len];exact hm) ?_;rw [keepF_at2 e1,Int.toNat_natCast,blkOf_at k1];show (i:Int)∈List.map _ _;exact List.mem_map.2 ⟨t,by rw [Int.toNat_of_nonneg hti.1] at k2;exact k2,i2⟩
        obtain⟨m,m1,m2⟩:=hpl x (by rw [hh];simp);obtain⟨m',m3,m4⟩:=hpl y (by rw [hh];simp);rw [m2] at m1;rw [m4] at m3;have:=Option.some.inj (m1.symm.trans m3);omega
   rw [this] at hbn;exact absurd hbn (by decide)
 · simpa using hm
theorem mayM_ren {f:Int→Int}{bs:List DBlock}(c:Nat)(hc:c<bs.length)(hto:∀x∈bs,∀t∈x.fin.to,0≤t∧t<(bs.length:Int))(h:mayM (bs.map (renK f)) c=true):mayM bs c=true:=by
 have hb:∀b,b<bs.length→blkOf (bs.map (renK f)) b=renK f (blkOf bs b):=fun b hb=>blkOf_at (by rw [List.getElem?_map,blkOf_self bs hb];rfl);have e:toJ (bs.map (renK f)) c=toJ bs c:=by unfold toJ;rw [hb c hc];rfl
 have hp:∀u,predsOf (bs.map (renK f)) 0 u=predsOf bs 0 u:=fun u=>predsOf_tos _ _ 0 u (by rw [List.map_map];rfl);unfold mayM at h ⊢;simp only [Bool.and_eq_true,decide_eq_true_eq] at h ⊢;rw [e,hb c hc,hp] at h;obtain⟨⟨⟨h1,h2⟩,h3⟩,h4⟩:=h;refine⟨⟨⟨h1,h2⟩,?_⟩,h4⟩;have hcm:=blkOf_mem hc;have hul:toJ bs c<bs.length:=by
  have hx:=hto _ hcm;unfold toJ;cases hh:(blkOf bs c).fin.to with
  | nil=>show (0:Int).toNat<_;simp;omega
  | cons a l=>have:=hx a (by rw [hh];simp);show a.toNat<_;omega
 rw [hb _ hul] at h3;have h5:(List.map (renPh f) (blkOf bs (toJ bs c)).phis).length=0:=h3;rw [List.length_map] at h5;exact h5
end Go.Proofs.YtnkogppgacappaaDoor

namespace Go.Proofs.YtnkogppgacappaaDoor
open Go.RowKit

structure Neat (bs:List DBlock):Prop where
 ord:ordL bs=rangeI bs.length
 none:∀c,c<bs.length→mayM bs c=false
theorem doB_neat {p n:Nat}{bs:List DBlock}(h:TdOk n bs)(h1:∀x∈bs,∀t∈x.fin.to,1≤t)(hp:p≤n)(_hn:n≤1048576):Neat (doB p n bs):=by
 have hk:=h.kept;have hpre:=h.pre;have hall:AllR (preB bs):=(keep_allR h.ok h.tok h1).chains h.keep.ch;have hnone:∀c,c<(preB bs).length→mayM (preB bs) c=false:=fun c hc=>by
  have hl:=(chainsTo_ok h.keep.ch _ (Nat.le_refl _)).2;have:(preB bs).length=(keepF bs (ordL bs)).length:=hl;exact chainsTo_none h.keep.ch _ (Nat.le_refl _) c (by omega)
 have hno:=kept_none hpre.ch hpre.tok hall hnone hk.ch;obtain⟨eB,-,-⟩:=namesB_ext hp hk.reg;have eB2:doB p n bs=(keptB bs).map (renK (rhoS (lastS p n (keptB bs)))):=eB;have hlen:(doB p n bs).length=(keptB bs).length:=by rw [eB2,List.length_map]
 refine⟨?_,fun c hc=>?_⟩
 · rw [hlen,post_same hk.tok (bs':=doB p n bs) (by rw [eB2,List.map_map];rfl)]
   exact ordL_kept hpre.tok
 · by_cases hm:mayM (doB p n bs) c=true
   · rw [eB2] at hm
     have:=mayM_ren c (by omega) hk.ok.toIn hm;have h9:mayM (keptB bs) c=false:=hno c (by show c<(keptB bs).length;omega);rw [h9] at this;exact absurd this (by decide)
   · simpa using hm
theorem Neat.lists {bs:List DBlock}(h:Neat bs)(ht:ToOk bs){g:DBlock→DBlock}(hg:∀x,(g x).fin=x.fin∧(g x).phis=x.phis):Neat (bs.map g):=by
 have hto:(bs.map g).map (·.fin.to)=bs.map (·.fin.to):=by
  rw [List.map_map];exact List.map_congr_left fun x _=>by show (g x).fin.to=_;rw [(hg x).1]
 have hb:∀b,b<bs.length→blkOf (bs.map g) b=g (blkOf bs b):=fun b hb=>blkOf_at (by rw [List.getElem?_map,blkOf_self bs hb];rfl);refine⟨by rw [List.length_map,post_same ht hto,h.ord],fun c hc=>?_⟩;rw [List.length_map] at hc;have hn:=h.none c hc
 by_cases hm:mayM (bs.map g) c=true
 · have e:toJ (bs.map g) c=toJ bs c:=by unfold toJ;rw [hb c hc,(hg _).1]
   have hp:∀u,predsOf (bs.map g) 0 u=predsOf bs 0 u:=fun u=>predsOf_tos _ _ 0 u hto;have:mayM bs c=true:=by
    unfold mayM at hm ⊢;simp only [Bool.and_eq_true,decide_eq_true_eq] at hm ⊢;rw [e,hb c hc,hp,(hg _).1] at hm;obtain⟨⟨⟨h1,h2⟩,h3⟩,h4⟩:=hm;have hul:toJ bs c<bs.length:=by
     have hx:=(ht.tgt c _ (blkOf_self bs hc)).2;unfold toJ;cases hh:(blkOf bs c).fin.to with
     | nil=>show (0:Int).toNat<_;simp;omega
     | cons a l=>have:=hx a (by rw [hh];simp);show a.toNat<_;omega
    rw [hb _ hul,(hg _).2] at h3;exact⟨⟨⟨h1,h2⟩,h3⟩,h4⟩
   rw [this] at hn;exact absurd hn (by decide)
 · simpa using hm
theorem Neat.kept {bs:List DBlock}(h:Neat bs)(hok:FunOk bs):keptB bs=bs:=by
 have e1:keepF bs (ordL bs)=bs:=by rw [h.ord];exact keepF_range hok
 have e2:preB bs=bs:=by
  unfold preB;rw [e1];exact chainsTo_same h.none _ (Nat.le_refl _)
 unfold keptB;rw [e2,e1]
theorem Neat.names {p n:Nat}{bs:List DBlock}(h:Neat bs)(ht:TdOk n bs)(hp:p≤n):∃f:Int→Int,doB p n bs=bs.map (renK f):=by
 obtain⟨e,-,-⟩:=namesB_ext hp ht.reg;refine⟨rhoS (lastS p n bs),?_⟩;unfold doB;rw [h.kept ht.ok];exact e

section
variable {ls ls' : List Bool} {mem : List Int}
def Clean(ls:List Bool)(l:List DIns):Prop:=∀y∈l,goneI ls y=false∧calmI ls y=false
theorem done_clean(l:List DIns):Clean ls ((restL ls l).map (doneI ls mem)):=fun y hy=>by
 obtain⟨y0,h0,rfl⟩:=List.mem_map.1 hy;have hg:goneI ls y0=false:=by
  have:=(List.mem_filter.1 h0).2;simpa using this
 unfold doneI
 by_cases hc:calmI ls y0=true
 · rw [if_pos hc];exact⟨rfl,rfl⟩
 · rw [if_neg hc];exact⟨hg,by simpa using hc⟩
theorem ren_gone(f:Int→Int)(y:DIns):goneI ls (renI f y)=goneI ls y∧calmI ls (renI f y)=calmI ls y:=by
 obtain⟨o,d,⟨r,n⟩,b,fn,ar⟩:=y;cases r with
 | false=>exact⟨rfl,rfl⟩
 | true =>
   have e:∀m:Int,inB true m (ls.length:Int)=false:=fun m=>by unfold inB;simp
   unfold goneI calmI gone calm renI renV;simp [e]
theorem stillF_len(mem:List Int)(l:List DIns):(stillF mem l).length=mem.length:=by
 unfold stillF;split
 · exact List.length_replicate
 · exact calmL_len _ _
theorem goneI_iff {y:DIns}:(goneI ls y=true∨calmI ls y=true)↔(y.op=18∨y.op=19)∧y.a.reg=false∧0≤y.a.n∧y.a.n<(ls.length:Int)∧ls.getD y.a.n.toNat false=true:=by
 unfold goneI calmI gone calm inB;cases y.a.reg <;> simp only [Bool.and_eq_true,decide_eq_true_eq,Bool.not_true,Bool.not_false,Bool.false_and,Bool.true_and,Bool.false_eq_true,false_and,and_false,or_self,true_and,reduceCtorEq]
 constructor
 · rintro (h | h)
   · obtain⟨h1,h2,h3⟩:=h
     exact⟨.inr h1,by omega,by omega,h3⟩
   · obtain⟨h1,h2,h3⟩:=h
     exact⟨.inl h1,by omega,by omega,h3⟩
 · rintro⟨h | h,h2,h3,h4⟩
   · exact .inr ⟨h,⟨h2,h3⟩,h4⟩
   · exact .inl ⟨h,⟨h2,h3⟩,h4⟩
end
def stillT(gs:List DGlobal)(fs:List DFunc):List DFunc:=((fs.map tidyFn).map (doneFn (stillF (wordsL gs) (insU (fs.map tidyFn))) (wordsL gs))).map tidyFn
theorem words_i64 {S:Nat→Prop}{w:World}{v:Value}{gs:List DGlobal}(h:SlAt S w 3 rGlobal v gs):∀x∈wordsL gs,I64 x:=by
 have hw:wordsL gs=gs.flatMap wordsG:=by unfold wordsL wordsK;rw [List.take_length]
 intro x hx;rw [hw] at hx;obtain⟨g,hg,hx2⟩:=List.mem_flatMap.1 hx;unfold wordsG at hx2;rcases List.mem_append.1 hx2 with h1 | h1
 · obtain⟨i,hi⟩:=List.mem_iff_getElem?.1 hg
   obtain⟨ao,c,-,-,-,hr⟩:=h;obtain⟨b,off,-,-,hat⟩:=hr (fun e=>by rw [e] at hg;cases hg);obtain⟨cs,⟨v2,-,hsl,-⟩,-,-⟩:=hat i g hi;obtain⟨j,hj⟩:=List.mem_iff_getElem?.1 h1;obtain⟨ao2,c2,-,-,-,hr2⟩:=hsl;obtain⟨b2,off2,-,-,hat2⟩:=hr2 (fun e=>by rw [e] at h1;cases h1);obtain⟨cs2,⟨-,h3,h4⟩,-,-⟩:=hat2 j x hj;exact⟨h3,h4⟩
 · rw [List.eq_of_mem_replicate h1]
   exact⟨by decide,by decide⟩
section
variable {gs : List DGlobal} {fs : List DFunc}
theorem tidyFn_blocks(f:DFunc):(tidyFn f).blocks=doB f.params.toNat f.regs.toNat f.blocks:=rfl
theorem tidyFn_params(f:DFunc):(tidyFn f).params=f.params:=rfl
theorem tidyFn_regs(f:DFunc):(tidyFn f).regs=doN f.params.toNat f.regs.toNat f.blocks:=rfl
theorem doneFn_blocks(ls:List Bool)(mem:List Int)(f:DFunc):(doneFn ls mem f).blocks=f.blocks.map (doneB ls mem):=rfl
theorem doneFn_params(ls:List Bool)(mem:List Int)(f:DFunc):(doneFn ls mem f).params=f.params:=rfl
theorem doneFn_regs(ls:List Bool)(mem:List Int)(f:DFunc):(doneFn ls mem f).regs=f.regs:=rfl
theorem still_fn(h:checkF ⟨gs,fs⟩=(0,0))(hn:NumU ⟨gs,fs⟩)(hm:∀x∈wordsL gs,I64 x)(ls:List Bool){f:DFunc}(hf:f∈fs.map tidyFn):∃r:Int→Int,(tidyFn (doneFn ls (wordsL gs) f)).blocks=f.blocks.map fun x=>renK r (doneB ls (wordsL gs) x):=by
 obtain⟨f0,h0,rfl⟩:=List.mem_map.1 hf;obtain⟨i,hi⟩:=List.mem_iff_getElem?.1 h0;have hi2:(⟨gs,fs⟩:DUnit).funcs[i]?=some f0:=hi;obtain⟨h1,h2,h3,h4,h5,h6⟩:=fn_td h hn hi2;have hn9:f0.regs.toNat≤1048576:=by omega
 have hneat:Neat (doB f0.params.toNat f0.regs.toNat f0.blocks):=doB_neat h1 (fun x hx=>(h2.kind x hx).2.2.1) h3 hn9;have htd:=doB_td h1 h3 hn9;have hle:=doN_le h1 h3;have hneat2:Neat ((doB f0.params.toNat f0.regs.toNat f0.blocks).map (doneB ls (wordsL gs))):=hneat.lists htd.tok fun x=>⟨rfl,rfl⟩
 have hle2:f0.params.toNat≤(doN f0.params.toNat f0.regs.toNat f0.blocks).toNat:=by omega
 obtain⟨r,hr⟩:=hneat2.names (p:=f0.params.toNat) (done_td (ls:=ls) htd hm) hle2;refine⟨r,?_⟩;have e1:(tidyFn (doneFn ls (wordsL gs) (tidyFn f0))).blocks=doB f0.params.toNat (doN f0.params.toNat f0.regs.toNat f0.blocks).toNat ((doB f0.params.toNat f0.regs.toNat f0.blocks).map (doneB ls (wordsL gs))):=by
  rw [tidyFn_blocks,doneFn_blocks,doneFn_params,doneFn_regs,tidyFn_blocks,tidyFn_params,tidyFn_regs]
 rw [e1,hr,tidyFn_blocks,List.map_map];exact List.map_congr_left fun _ _=>rfl
theorem mem_insU {fs:List DFunc}{y:DIns}:y∈insU fs↔∃f∈fs,∃x∈f.blocks,y∈x.list:=by
 unfold insU insF;simp only [List.mem_flatMap]
theorem stillT_ins(h:checkF ⟨gs,fs⟩=(0,0))(hn:NumU ⟨gs,fs⟩)(hm:∀x∈wordsL gs,I64 x){ls:List Bool}(hls:ls=stillF (wordsL gs) (insU (fs.map tidyFn))) :
 Clean ls (insU (stillT gs fs))∧∀y∈insU (fs.map tidyFn),goneI ls y=false→calmI ls y=false→∃f,renI f y∈insU (stillT gs fs):=by
 subst hls;refine⟨fun y hy=>?_,fun y hy h1 h2=>?_⟩
 · obtain⟨f,hf,x,hx,hyx⟩:=mem_insU.1 hy
   unfold stillT at hf;rw [List.map_map] at hf;obtain⟨f1,hf1,rfl⟩:=List.mem_map.1 hf;obtain⟨r,hr⟩:=still_fn h hn hm (stillF (wordsL gs) (insU (fs.map tidyFn))) hf1;have hx':x∈(tidyFn (doneFn (stillF (wordsL gs) (insU (fs.map tidyFn))) (wordsL gs) f1)).blocks:=hx;rw [hr] at hx';obtain⟨x0,-,rfl⟩:=List.mem_map.1 hx';obtain⟨y0,hy0,rfl⟩:=List.mem_map.1 (show y∈List.map _ _ from hyx);have:=done_clean (ls:=stillF (wordsL gs) (insU (fs.map tidyFn))) (mem:=wordsL gs) x0.list y0 hy0;rw [(ren_gone r y0).1,(ren_gone r y0).2];exact this
 · obtain⟨f,hf,x,hx,hyx⟩:=mem_insU.1 hy
   obtain⟨r,hr⟩:=still_fn h hn hm (stillF (wordsL gs) (insU (fs.map tidyFn))) hf;refine⟨r,mem_insU.2 ⟨tidyFn (doneFn (stillF (wordsL gs) (insU (fs.map tidyFn))) (wordsL gs) f),?_,renK r (doneB (stillF (wordsL gs) (insU (fs.map tidyFn))) (wordsL gs) x),?_,?_⟩⟩
   · unfold stillT
     exact List.mem_map.2 ⟨_,List.mem_map.2 ⟨f,hf,rfl⟩,rfl⟩
   · rw [hr];exact List.mem_map.2 ⟨x,hx,rfl⟩
   · show _∈List.map _ _
     refine List.mem_map.2 ⟨y,?_,rfl⟩;show y∈(restL _ x.list).map _;refine List.mem_map.2 ⟨y,List.mem_filter.2 ⟨hyx,by rw [h1];rfl⟩,?_⟩;unfold doneI;rw [if_neg (by rw [h2];decide)]
theorem still_mid(h:checkF ⟨gs,fs⟩=(0,0))(hn:NumU ⟨gs,fs⟩)(hm:∀x∈wordsL gs,I64 x)(ls:List Bool):checkF ⟨gs,(fs.map tidyFn).map (doneFn ls (wordsL gs))⟩=(0,0)∧NumU ⟨gs,(fs.map tidyFn).map (doneFn ls (wordsL gs))⟩:=by
 have h1:checkF ⟨gs,fs.map tidyFn⟩=(0,0):=tidyU_check h hn;have h2:NumU ⟨gs,fs.map tidyFn⟩:=tidyU_num h hn;exact⟨done_check h1 h2 hm,done_num h2 hm⟩
theorem stillT_check(h:checkF ⟨gs,fs⟩=(0,0))(hn:NumU ⟨gs,fs⟩)(hm:∀x∈wordsL gs,I64 x):checkF ⟨gs,stillT gs fs⟩=(0,0)∧NumU ⟨gs,stillT gs fs⟩:=by
 obtain⟨h1,h2⟩:=still_mid h hn hm (stillF (wordsL gs) (insU (fs.map tidyFn)));exact⟨tidyU_check h1 h2,tidyU_num h1 h2⟩
def manyO(op:Int)(fs:List DFunc):Nat:=(insU fs).countP fun y=>decide (y.op=op)
theorem manyO_eq(op:Int)(fs:List DFunc):manyO op fs=(fs.map fun f=>(f.blocks.map fun x=>x.list.countP fun y=>decide (y.op=op)).sum).sum:=by
 unfold manyO insU insF;rw [List.countP_flatMap]
 congr 1
 refine List.map_congr_left fun f _=>?_;show List.countP _ (List.flatMap _ _)=_;rw [List.countP_flatMap];rfl
theorem done_count {ls:List Bool}{mem:List Int}(op:Int)(h:op≠1)(r:Int→Int)(l:List DIns):(((restL ls l).map (doneI ls mem)).map (renI r)).countP (fun y=>decide (y.op=op))≤l.countP fun y=>decide (y.op=op):=by
 rw [List.map_map,List.countP_map];refine Nat.le_trans (List.countP_mono_left (q:=fun y=>decide (y.op=op)) fun y _ hy=>?_) ?_
 · have hy2:(doneI ls mem y).op=op:=of_decide_eq_true hy
   unfold doneI at hy2
   by_cases hc:calmI ls y=true
   · rw [if_pos hc] at hy2
     exact absurd hy2.symm h
   · rw [if_neg hc] at hy2
     simpa using hy2
 · exact (List.filter_sublist (p:=fun y=>!goneI ls y) (l:=l)).countP_le
theorem stillT_fewer(h:checkF ⟨gs,fs⟩=(0,0))(hn:NumU ⟨gs,fs⟩)(hm:∀x∈wordsL gs,I64 x)(op:Int)(ho:op≠1):manyO op (stillT gs fs)≤manyO op (fs.map tidyFn):=by
 rw [manyO_eq,manyO_eq];have e:stillT gs fs=(fs.map tidyFn).map fun f=>tidyFn (doneFn (stillF (wordsL gs) (insU (fs.map tidyFn))) (wordsL gs) f):=by
  unfold stillT;rw [List.map_map];rfl
 rw [e,List.map_map];refine sum_le fun f hf=>?_;obtain⟨r,hr⟩:=still_fn h hn hm (stillF (wordsL gs) (insU (fs.map tidyFn))) hf;show (List.map _ (tidyFn _).blocks).sum≤_;rw [hr,List.map_map];exact sum_le fun x _=>done_count op ho r x.list
theorem stillT_gone(h:checkF ⟨gs,fs⟩=(0,0))(hn:NumU ⟨gs,fs⟩)(hm:∀x∈wordsL gs,I64 x):∀f∈stillT gs fs,∀x∈f.blocks,∀y∈x.list,(y.op=18∨y.op=19)→y.a.reg=false→0≤y.a.n→y.a.n<((wordsL gs).length:Int)→(stillF (wordsL gs) (insU (fs.map tidyFn))).getD y.a.n.toNat false=false:=by
 intro f hf x hx y hy h1 h2 h3 h4;obtain⟨k1,-⟩:=stillT_ins h hn hm rfl;have hc:=k1 y (mem_insU.2 ⟨f,hf,x,hx,hy⟩)
 by_cases hg:(stillF (wordsL gs) (insU (fs.map tidyFn))).getD y.a.n.toNat false=true
 · have:=goneI_iff.2 ⟨h1,h2,h3,by rw [stillF_len];exact h4,hg⟩
   rw [hc.1,hc.2] at this;simp at this
 · simpa using hg
end

end Go.Proofs.YtnkogppgacappaaDoor

namespace Go.Proofs.YtnkogppgacappaaDoor
open Go.RowKit

theorem stillT_len(gs:List DGlobal)(fs:List DFunc):(stillT gs fs).length=fs.length:=by unfold stillT;simp
theorem still_say {S : Nat → Prop} (ga : Option Addr) (gc : Nat) (fa : Option Addr) (fc : Nat) (gs : List DGlobal) (fs : List DFunc) (w : World)
 (hg:SlAt S w 3 rGlobal (.slice ga gs.length gc) gs) (hf:SlAt S w 4 rFunc (.slice fa fs.length fc) fs) (hw:Ways w) (hS:∀b,S b→b<w.heap.size) (hsm:Small gs fs) :
 Calls Tryd.prog 9 #[.agg #[.slice ga gs.length gc,.slice fa fs.length fc]] w fun e w1=>∃va vn vc wa wn wc c d,e = .returned (.tuple #[.agg #[.slice va vn vc,.slice wa wn wc],.agg #[.int .i64 c,.int .i64 d]])∧Below w.heap.size w w1 ∧
  ((c≠0∧vn=0∧wn=0∧checkF ⟨gs,fs⟩=(c,d))∨(c=0∧d=0∧vn=gs.length∧wn=fs.length∧checkF ⟨gs,fs⟩=(0,0)∧SlAt (iv w.heap.size w1.heap.size) w1 3 rGlobal (.slice va vn vc) gs∧SlAt (iv w.heap.size w1.heap.size) w1 4 rFunc (.slice wa wn wc) (stillT gs fs))):=by
 refine (stillDo_any (S:=S) ga gc fa fc gs fs w hg hf hw hS hsm.globals hsm.funcs hsm.many (NumU_of (gs:=gs) hf)).mono fun e w1 hp=>?_
 by_cases hc:(checkF ⟨gs,fs⟩).1=0
 · obtain⟨ga2,gc2,fa2,fc2,h1,h2,h3⟩:=hp.2.2 hc
   exact⟨ga2,_,gc2,fa2,_,fc2,0,0,h1,hp.1,.inr ⟨rfl,rfl,rfl,rfl,checkF_zero hc,h2,h3⟩⟩
 · exact⟨none,0,0,none,0,0,_,_,hp.2.1 hc,hp.1,.inl ⟨hc,rfl,rfl,rfl⟩⟩

end Go.Proofs.YtnkogppgacappaaDoor
