/- tidy, plain: what is asked of a function's blocks stays where some of them are kept. tidy.DoOf: the walk. -/
import Derived.Test.YtnkogppgacappaaGreatDoorPTid0
import Derived.Test.YtnkogppgacappaaGreatDoorPKeep1
import Derived.Test.YtnkogppgacappaaGreatDoorPChains
import Derived.Test.YtnkogppgacappaaGreatDoorPNm3
import Derived.Test.YtnkogppgacappaaGreatDoorPSsa0
import Derived.Test.YtnkogppgacappaaGreatDoorPNames
import Derived.BigRegion
import Derived.Deep.DeepCutAuto
import Derived.Deep.RegionHeld3
import Derived.Deep.RegionLaw
import Derived.Deep.RegionWith
namespace Go.Proofs.YtnkogppgacappaaGreatDoor

theorem ssorted_ext : ∀ {l m : List Int}, l.Pairwise (· < ·) → m.Pairwise (· < ·) → (∀ x, x ∈ l ↔ x ∈ m) → l = m
 | [],[],_,_,_=>rfl
 | [],b :: m,_,_,h=>by have:=(h b).2 (List.mem_cons_self ..);cases this
 | a :: l,[],_,_,h=>by have:=(h a).1 (List.mem_cons_self ..);cases this
 | a :: l,b :: m,h1,h2,h=>by
   obtain⟨p1,q1⟩:=List.pairwise_cons.1 h1;obtain⟨p2,q2⟩:=List.pairwise_cons.1 h2;have e:a=b:=by
    rcases List.mem_cons.1 ((h a).1 (List.mem_cons_self ..)) with h3 | h3
    · exact h3
    · rcases List.mem_cons.1 ((h b).2 (List.mem_cons_self ..)) with h4 | h4
      · exact h4.symm
      · have:=p2 a h3
        have:=p1 b h4;omega
   subst e;rw [ssorted_ext q1 q2 fun x=>?_];constructor
   · intro hx
     rcases List.mem_cons.1 ((h x).1 (List.mem_cons_of_mem _ hx)) with h3 | h3
     · have:=p1 x hx;omega
     · exact h3
   · intro hx
     rcases List.mem_cons.1 ((h x).2 (List.mem_cons_of_mem _ hx)) with h3 | h3
     · have:=p2 x hx;omega
     · exact h3
theorem sum_le_of_nodup {α : Type} [BEq α] [LawfulBEq α] (f : α → Nat) : ∀ {l m : List α}, l.Nodup → (∀ x ∈ l, x ∈ m) → (l.map f).sum ≤ (m.map f).sum
 | [],_,_,_=>Nat.zero_le _
 | a :: l,m,h,hm=>by
   obtain⟨h1,h2⟩:=List.nodup_cons.1 h;have hp:=List.perm_cons_erase (hm a (List.mem_cons_self ..));have e:(m.map f).sum=((a :: m.erase a).map f).sum:=(hp.map f).sum_nat;rw [e,List.map_cons,List.sum_cons,List.map_cons,List.sum_cons];have:=sum_le_of_nodup f h2 (m:=m.erase a) fun x hx=>(List.mem_erase_of_ne (fun e=>h1 (by rw [←e];exact hx))).2 (hm x (List.mem_cons_of_mem _ hx));omega

structure OrdOk (bs:List DBlock)(ord:List Int):Prop where
 inn:∀x∈ord,0≤x∧x<(bs.length:Int)
 nd:ord.Nodup
 clo:∀x∈ord,∀t∈(blkOf bs x.toNat).fin.to,t∈ord
 head:ord[0]?=some 0
theorem tosOf_blk {bs:List DBlock}{b:Nat}(h:b<bs.length):tosOf bs b=(blkOf bs b).fin.to:=by
 unfold tosOf;rw [blkOf_self bs h]
theorem ordL_ok {bs:List DBlock}(h:ToOk bs):OrdOk bs (ordL bs):=by
 obtain⟨p1,p2,-,A,hA⟩:=post_facts h;refine⟨fun x hx=>p1 x (List.mem_reverse.1 hx),List.pairwise_reverse.2 (p2.imp fun h e=>h e.symm),fun x hx t ht=>?_,?_⟩
 · have hx2:=List.mem_reverse.1 hx
   have hb:=p1 x hx2;rw [←tosOf_blk (by omega)] at ht;exact List.mem_reverse.2 (post_closed h x hx2 t ht)
 · unfold ordL
   rw [hA];simp
theorem plcF_has {l : List Int} {x : Nat} : ∀ {k i : Nat}, i < k → l.getD i 0 = (x : Int) → 0 ≤ plcF l k x
 | 0,i,h,_=>by omega
 | k+1,i,h,e=>by
   unfold plcF
   by_cases c:l.getD k 0=(x:Int)
   · rw [if_pos c];omega
   · rw [if_neg c]
     refine plcF_has (i:=i) ?_ e;rcases Nat.lt_succ_iff_lt_or_eq.1 h with h | h
     · exact h
     · subst h;exact absurd e c
theorem plcO_at {ord:List Int}(hn:ord.Nodup){k x:Nat}(h:ord[k]?=some (x:Int)):plcO ord x=(k:Int):=by
 have hk:=(List.getElem?_eq_some_iff.1 h).1;have h0:0≤plcO ord x:=plcF_has hk (by rw [List.getD_eq_getElem?_getD,h];rfl);obtain⟨i,h1,h2,h3⟩:=plcF_get ord x _ h0;have e:ord[i]?=some (x:Int):=by
  rw [List.getD_eq_getElem?_getD,List.getElem?_eq_getElem h1] at h3;rw [List.getElem?_eq_getElem h1];exact congrArg some h3
 have hi := nodup_inj hn h1 hk (by
  have a1 := List.getElem?_eq_getElem h1
  have a2 := List.getElem?_eq_getElem hk
  rw [e] at a1
  rw [h] at a2
  exact Option.some.inj (a1.symm.trans a2))
 unfold plcO;rw [h2,hi]
theorem plcO_mem {ord:List Int}{x:Nat}:0≤plcO ord x↔(x:Int)∈ord:=by
 constructor
 · intro h
   obtain⟨i,h1,h2,h3⟩:=plcF_get ord x _ h;rw [List.getD_eq_getElem?_getD,List.getElem?_eq_getElem h1] at h3;rw [←h3];exact List.getElem_mem h1
 · intro h
   obtain⟨i,hi,e⟩:=List.getElem_of_mem h;exact plcF_has hi (by rw [List.getD_eq_getElem?_getD,List.getElem?_eq_getElem hi,e];rfl)
theorem keepF_len(bs:List DBlock)(ord:List Int):(keepF bs ord).length=ord.length:=by simp [keepF]
theorem keepF_get {bs:List DBlock}{ord:List Int}{k:Nat}{b:Int}(h:ord[k]?=some b):(keepF bs ord)[k]?=some (keepB (plcO ord) (predsOf bs 0 b.toNat) (blkOf bs b.toNat)):=by
 unfold keepF;rw [List.getElem?_map,h];rfl
theorem keepF_at2 {bs:List DBlock}{ord:List Int}{k:Nat}{b:Int}(h:ord[k]?=some b):blkOf (keepF bs ord) k=keepB (plcO ord) (predsOf bs 0 b.toNat) (blkOf bs b.toNat):=blkOf_at (keepF_get h)
theorem keepF_mem {bs:List DBlock}{ord:List Int}{x:DBlock}(h:x∈keepF bs ord):∃b∈ord,x=keepB (plcO ord) (predsOf bs 0 b.toNat) (blkOf bs b.toNat):=by
 obtain⟨b,hb,rfl⟩:=List.mem_map.1 h;exact⟨b,hb,rfl⟩
section
variable {bs : List DBlock} {ord : List Int}
theorem keep_to(ho:OrdOk bs ord){b t:Int}(hb:b∈ord)(ht:t∈(blkOf bs b.toNat).fin.to):∃i:Nat,ord[i]?=some t∧plcO ord t.toNat=(i:Int)∧i<ord.length:=by
 have hm:=ho.clo b hb t ht;obtain⟨i,hi,e⟩:=List.getElem_of_mem hm;have hr:=ho.inn t hm;have e2:ord[i]?=some ((t.toNat:Nat):Int):=by rw [List.getElem?_eq_getElem hi,e,Int.toNat_of_nonneg hr.1]
 exact⟨i,by rw [List.getElem?_eq_getElem hi,e],plcO_at ho.nd e2,hi⟩
theorem keep_toNd(hok:FunOk bs)(ho:OrdOk bs ord):∀x∈keepF bs ord,x.fin.to.Nodup:=fun x hx=>by
 obtain⟨b,hb,rfl⟩:=keepF_mem hx;have hbi:=ho.inn b hb;have hnd:=hok.toNd _ (blkOf_mem (bs:=bs) (c:=b.toNat) (by omega));show (List.map _ _).Nodup;refine List.pairwise_map.2 (List.Pairwise.imp_of_mem (fun {s t} hs ht hne e=>hne ?_) hnd);obtain⟨i,h1,h2,-⟩:=keep_to ho hb hs;obtain⟨j,h3,h4,-⟩:=keep_to ho hb ht;have:i=j:=by omega
 subst this;exact Option.some.inj (h1.symm.trans h3)
theorem keep_preds_mem(ho:OrdOk bs ord){k:Nat}{b:Int}(hk:ord[k]?=some b)(x:Int):x∈predsOf (keepF bs ord) 0 k↔∃a∈predsOf bs 0 b.toNat,0≤plcO ord a.toNat∧x=plcO ord a.toNat:=by
 have hb:=List.mem_of_getElem? hk;have hbi:=ho.inn b hb;rw [mem_predsOf];constructor
 · rintro⟨i,y,h1,h2,h3⟩
   have hi:i<ord.length:=by rw [←keepF_len bs ord];exact (List.getElem?_eq_some_iff.1 h1).1
   obtain⟨a,ha⟩:∃a,ord[i]?=some a:=⟨_,List.getElem?_eq_getElem hi⟩
   have ham:=List.mem_of_getElem? ha;have hai:=ho.inn a ham;rw [keepF_get ha] at h1;cases h1;obtain⟨t,ht,e⟩:=List.mem_map.1 (show (k:Int)∈List.map _ _ from h2);obtain⟨j,g1,g2,g3⟩:=keep_to ho ham ht;have hjk:j=k:=by omega
   subst hjk;have htb:t=b:=Option.some.inj (g1.symm.trans hk);subst htb;have hp:plcO ord a.toNat=(i:Int):=plcO_at ho.nd (by rw [ha,Int.toNat_of_nonneg hai.1]);refine⟨a,?_,by omega,by omega⟩;refine mem_predsOf.2 ⟨a.toNat,blkOf bs a.toNat,blkOf_self bs (by omega),by rw [Int.toNat_of_nonneg hbi.1];exact ht,by omega⟩
 · rintro⟨a,ha,h1,h2⟩
   obtain⟨i,y,g1,g2,g3⟩:=mem_predsOf.1 ha;have hai:a.toNat=i:=by omega
   rw [hai] at h1 h2;obtain⟨j,hj,e⟩:=List.getElem_of_mem (plcO_mem.1 h1);have ej:ord[j]?=some (i:Int):=by rw [List.getElem?_eq_getElem hj,e]
   have hp:=plcO_at ho.nd ej;refine⟨j,_,keepF_get ej,?_,by omega⟩;show (k:Int)∈List.map _ _;rw [Int.toNat_natCast,blkOf_at g1];refine List.mem_map.2 ⟨b,?_,?_⟩
   · rw [Int.toNat_of_nonneg hbi.1] at g2;exact g2
   · exact plcO_at ho.nd (by rw [hk,Int.toNat_of_nonneg hbi.1])
theorem keep_zip(hok:FunOk bs)(ho:OrdOk bs ord){k:Nat}{b:Int}(hk:ord[k]?=some b){src:List DVal}(hs:src.length=(predsOf bs 0 b.toNat).length) :
 ((fromL (plcO ord) (predsOf bs 0 b.toNat) src).mergeSort leF).map Prod.fst=predsOf (keepF bs ord) 0 k:=by
 have hA:=predsOf_sorted (t:=b.toNat) bs 0 hok.toNd;have hAn:(predsOf bs 0 b.toNat).Nodup:=hA.1.imp fun h e=>by omega
 have hAi:∀a∈predsOf bs 0 b.toNat,0≤a:=fun a ha=>by have:=predsOf_mem ha;omega
 have hnd := fromL_nodup (at_ := plcO ord) (src := src) hAn (fun a ha c hc h e => by
  have := plcO_inj h e
  have := hAi a ha
  have := hAi c hc
  omega)
 have hperm:=List.mergeSort_perm (fromL (plcO ord) (predsOf bs 0 b.toNat) src) leF;have hsort:((fromL (plcO ord) (predsOf bs 0 b.toNat) src).mergeSort leF).Pairwise fun x y=>x.1≤y.1:=by
  have h:=List.pairwise_mergeSort (le:=leF) (fun a b c h1 h2=>by simp [leF] at *;omega) (fun a b=>by simp [leF];omega) (fromL (plcO ord) (predsOf bs 0 b.toNat) src);exact h.imp fun h=>by simpa [leF] using h
 have hnd2:(((fromL (plcO ord) (predsOf bs 0 b.toNat) src).mergeSort leF).map Prod.fst).Nodup:=(hperm.map Prod.fst).nodup_iff.2 hnd;refine ssorted_ext ?_ (predsOf_sorted (t:=k) (keepF bs ord) 0 (keep_toNd hok ho)).1 fun x=>?_
 · have h1:=List.pairwise_map.1 hnd2
   exact List.pairwise_map.2 ((h1.and hsort).imp fun⟨h,h'⟩=>by omega)
 · rw [(hperm.map Prod.fst).mem_iff,keep_preds_mem ho hk]
   constructor
   · intro hx
     obtain⟨z,hz,rfl⟩:=List.mem_map.1 hx;obtain⟨a,v,h1,h2,rfl⟩:=fromL_mem hz;exact⟨a,(List.of_mem_zip h1).1,h2,rfl⟩
   · rintro⟨a,ha,h1,rfl⟩
     obtain⟨i,hi,e⟩:=List.getElem_of_mem ha;refine List.mem_map.2 ⟨(plcO ord a.toNat,src[i]'(by omega)),?_,rfl⟩;unfold fromL;refine List.mem_flatMap.2 ⟨(a,src[i]'(by omega)),?_,?_⟩
     · refine List.mem_of_getElem? (i:=i) (List.getElem?_zip_eq_some.2 ⟨by rw [List.getElem?_eq_getElem hi,e],List.getElem?_eq_getElem (by omega)⟩)
     · unfold fromOne
       rw [if_pos h1];exact List.mem_singleton.2 rfl
theorem keepP_src {at_:Nat→Int}{A:List Int}{p:DPhi}{v:DVal}(h:v∈(keepP at_ A p).src):v∈p.src:=by
 obtain⟨z,hz,rfl⟩:=List.mem_map.1 (show v∈List.map _ _ from h);obtain⟨a,u,h1,h2,rfl⟩:=fromL_mem ((List.mergeSort_perm _ _).mem_iff.1 hz);exact (List.of_mem_zip h1).2
theorem keepP_len(at_:Nat→Int)(A:List Int)(p:DPhi):(keepP at_ A p).src.length≤p.src.length:=by
 show (List.map _ _).length≤_;rw [List.length_map,List.length_mergeSort];exact fromL_len _ _ _
theorem keep_phi {p:DPhi}{at_:Nat→Int}{A:List Int}{x:DBlock}(h:p∈(keepB at_ A x).phis):∃p0∈x.phis,p=keepP at_ A p0:=by
 obtain⟨p0,h0,rfl⟩:=List.mem_map.1 (show p∈List.map _ _ from h);exact⟨p0,h0,rfl⟩
theorem ord_len(ho:OrdOk bs ord):ord.length≤bs.length:=by
 have h := nodup_len (n := bs.length) (ord.map Int.toNat) (List.pairwise_map.2 (List.Pairwise.imp_of_mem (fun {a b} ha hb h e => h (by have := ho.inn a ha; have := ho.inn b hb; omega)) ho.nd)) (fun x hx => by
  obtain ⟨a, ha, rfl⟩ := List.mem_map.1 hx
  have := ho.inn a ha
  omega)
 rw [List.length_map] at h;exact h
theorem keep_ok(hok:FunOk bs)(ho:OrdOk bs ord):FunOk (keepF bs ord):=by
 have hlen:=ord_len ho;have hl:=hok.len;have hin:∀b∈ord,b.toNat<bs.length:=fun b hb=>by have:=ho.inn b hb;omega
 refine⟨by rw [keepF_len];omega,fun x hx=>?_,fun x hx=>?_,fun x hx=>?_,fun x hx t ht=>?_,keep_toNd hok ho,fun k hk p hp=>?_⟩
 · obtain⟨b,hb,rfl⟩:=keepF_mem hx
   have h:=hok.num _ (blkOf_mem (hin b hb));refine⟨h.kind,h.on,fun t ht=>?_,fun p hp=>?_,h.ins⟩
   · obtain⟨t0,-,rfl⟩:=List.mem_map.1 (show t∈List.map _ _ from ht)
     have:=plcO_le ord t0.toNat;unfold I64;omega
   · obtain⟨p0,h0,rfl⟩:=keep_phi hp
     exact⟨(h.phi p0 h0).1,fun v hv=>(h.phi p0 h0).2 v (keepP_src hv)⟩
 · obtain⟨b,hb,rfl⟩:=keepF_mem hx
   have h:=hok.small _ (blkOf_mem (hin b hb));refine⟨by show (List.map _ _).length≤_;rw [List.length_map];exact h.phis,h.list,by show (List.map _ _).length≤_;rw [List.length_map];exact h.to,fun p hp=>?_,h.args⟩;obtain⟨p0,h0,rfl⟩:=keep_phi hp;exact Nat.le_trans (keepP_len _ _ _) (h.src p0 h0)
 · obtain⟨b,hb,rfl⟩:=keepF_mem hx
   show (List.map _ _).length≤_;rw [List.length_map];exact hok.to2 _ (blkOf_mem (hin b hb))
 · obtain⟨b,hb,rfl⟩:=keepF_mem hx
   obtain⟨t0,h0,rfl⟩:=List.mem_map.1 (show t∈List.map _ _ from ht);obtain⟨i,-,h2,h3⟩:=keep_to ho hb h0;rw [keepF_len];omega
 · rw [keepF_len] at hk
   obtain⟨b,hb⟩:∃b,ord[k]?=some b:=⟨_,List.getElem?_eq_getElem hk⟩
   rw [keepF_at2 hb] at hp;obtain⟨p0,h0,rfl⟩:=keep_phi hp;have hs:=hok.src b.toNat (hin b (List.mem_of_getElem? hb)) p0 h0;rw [←keep_zip hok ho hb hs];show (List.map _ _).length=_;rw [List.length_map,List.length_map]
theorem keep_sum(f:DBlock→Nat)(hf:∀at_ A x,f (keepB at_ A x)=f x)(ho:OrdOk bs ord):((keepF bs ord).map f).sum≤(bs.map f).sum:=by
 have e1:(keepF bs ord).map f=ord.map fun b=>f (blkOf bs b.toNat):=by
  unfold keepF;rw [List.map_map];exact List.map_congr_left fun b _=>hf _ _ _
 have e2:bs.map f=((List.range bs.length).map fun (i:Nat)=>(i:Int)).map fun b=>f (blkOf bs b.toNat):=by
  rw [List.map_map];apply List.ext_getElem?;intro i;rw [List.getElem?_map,List.getElem?_map]
  by_cases hi:i<bs.length
  · rw [blkOf_self bs hi,List.getElem?_range hi];rfl
  · rw [List.getElem?_eq_none (by omega),List.getElem?_eq_none (by simp;omega)];rfl
 rw [e1,e2];refine sum_le_of_nodup _ ho.nd fun x hx=>?_;have:=ho.inn x hx;exact List.mem_map.2 ⟨x.toNat,List.mem_range.2 (by omega),by omega⟩
end

structure TdOk (n:Nat)(bs:List DBlock):Prop where
 ok:FunOk bs
 tok:ToOk bs
 jump:∀x∈bs,x.fin.kind=2→x.fin.to.length=1
 sum:(bs.map fun x=>x.list.length).sum≤1048576
 reg:∀x∈bs,RegIn n x
theorem TdOk.ch {n:Nat}{bs:List DBlock}(h:TdOk n bs):ChOk bs:=⟨h.ok,h.jump,h.sum⟩
theorem toOk_of {bs:List DBlock}(h:FunOk bs)(h0:0<bs.length):ToOk bs:=⟨h0,fun k x hx=>h.hto k x hx⟩
theorem TdOk.keep {n:Nat}{bs:List DBlock}(h:TdOk n bs):TdOk n (keepF bs (ordL bs)):=by
 have ho:=ordL_ok h.tok;have hk:=keep_ok h.ok ho;have hin:∀b∈ordL bs,b.toNat<bs.length:=fun b hb=>by have:=ho.inn b hb;omega
 refine⟨hk,toOk_of hk (by rw [keepF_len];exact (List.getElem?_eq_some_iff.1 ho.head).1),fun x hx hj=>?_,Nat.le_trans (keep_sum _ (fun _ _ _=>rfl) ho) h.sum,fun x hx=>?_⟩
 · obtain⟨b,hb,rfl⟩:=keepF_mem hx
   show (List.map _ _).length=_;rw [List.length_map];exact h.jump _ (blkOf_mem (hin b hb)) hj
 · obtain⟨b,hb,rfl⟩:=keepF_mem hx
   have hr:=h.reg _ (blkOf_mem (hin b hb));refine⟨fun p hp=>?_,hr.ins,hr.on⟩;obtain⟨p0,h0,rfl⟩:=keep_phi hp;exact⟨(hr.phi p0 h0).1,fun v hv=>(hr.phi p0 h0).2 v (keepP_src hv)⟩
theorem reg_merge {n:Nat}{bs:List DBlock}{b:Nat}(hok:ChOk bs)(hb:b<bs.length)(h:mayM bs b=true)(hr:∀x∈bs,RegIn n x):∀x∈mergeF bs b,RegIn n x:=by
 obtain⟨h1,h2,h3,h4,h5,h6⟩:=mayM_facts hok hb h;have hphi:∀c,c<bs.length→∀p∈(blkOf (renA bs (toJ bs b) b) c).phis,(0≤p.dst∧p.dst<n)∧∀v∈p.src,InV n v:=fun c hc p hp=>by
  obtain⟨p0,h0,e1,-,e3⟩:=renA_phis hok.ok h5 hc hp;have hx:=(hr _ (blkOf_mem hc)).phi p0 h0;exact⟨by rw [e1];exact hx.1,fun v hv=>hx.2 v (e3 v hv)⟩
 intro x hx;obtain⟨c,hc,rfl⟩:=mem_blkOf hx;rw [mergeF_len] at hc;rcases merge_cases hb h5 c with⟨-,e⟩ | ⟨-,rfl,e⟩ | ⟨-,-,e⟩
 · rw [e]
   exact⟨fun p hp=>absurd hp (List.not_mem_nil),fun y hy=>absurd hy (List.not_mem_nil),fun h=>by cases h⟩
 · rw [e]
   refine⟨hphi c hc,fun y hy=>?_,(hr _ (blkOf_mem h5)).on⟩;rcases List.mem_append.1 (show y∈_++_ from hy) with hy | hy
   · exact (hr _ (blkOf_mem hc)).ins y hy
   · exact (hr _ (blkOf_mem h5)).ins y hy
 · rw [e]
   refine⟨hphi c hc,fun y hy=>?_,?_⟩
   · rw [(renA_fin hok.ok h5 c).2.1] at hy;exact (hr _ (blkOf_mem hc)).ins y hy
   · rw [(renA_fin hok.ok h5 c).1];exact (hr _ (blkOf_mem hc)).on
theorem chainIn_keeps {P : List DBlock → Prop} (hP : ∀ bs b, ChOk bs → b < bs.length → mayM bs b = true → P bs → P (mergeF bs b)) {b : Nat} : ∀ (f : Nat) (bs : List DBlock), ChOk bs → b < bs.length → P bs → P (chainIn f bs b)
 | 0,bs,_,_,h=>h
 | f+1,bs,hok,hb,h=>by
   unfold chainIn
   by_cases hm:mayM bs b=true
   · rw [if_pos hm]
     exact chainIn_keeps hP f _ (chOk_merge hok hb hm) (by rw [mergeF_len];exact hb) (hP bs b hok hb hm h)
   · rw [if_neg hm];exact h
theorem chainsTo_keeps {P : List DBlock → Prop} (hP : ∀ bs b, ChOk bs → b < bs.length → mayM bs b = true → P bs → P (mergeF bs b)) {bs : List DBlock} (hok : ChOk bs) (h : P bs) : ∀ k, k ≤ bs.length → P (chainsTo bs k)
 | 0,_=>h
 | k+1,hk=>by
   obtain⟨h1,h2⟩:=chainsTo_ok hok k (by omega);rw [chainsTo_succ];exact chainIn_keeps hP _ _ h1 (by omega) (chainsTo_keeps hP hok h k (by omega))
theorem TdOk.chains {n:Nat}{bs:List DBlock}(h:TdOk n bs):TdOk n (chainsF bs):=by
 obtain⟨h1,h2⟩:=chainsTo_ok h.ch bs.length (Nat.le_refl _);refine⟨h1.ok,toOk_of h1.ok (by have:=h.tok.pos;unfold chainsF;omega),h1.jump,h1.sum,?_⟩;exact chainsTo_keeps (P:=fun bs=>∀x∈bs,RegIn n x) (fun bs b hok hb hm hr=>reg_merge hok hb hm hr) h.ch h.reg _ (Nat.le_refl _)
def preB(bs:List DBlock):List DBlock:=chainsF (keepF bs (ordL bs))
def keptB(bs:List DBlock):List DBlock:=keepF (preB bs) (ordL (preB bs))
def doB(pn n:Nat)(bs:List DBlock):List DBlock:=namesB pn n (keptB bs)
def doN(pn n:Nat)(bs:List DBlock):Int:=namesN pn n (keptB bs)
theorem TdOk.pre {n:Nat}{bs:List DBlock}(h:TdOk n bs):TdOk n (preB bs):=h.keep.chains
theorem TdOk.kept {n:Nat}{bs:List DBlock}(h:TdOk n bs):TdOk n (keptB bs):=h.pre.keep

end Go.Proofs.YtnkogppgacappaaGreatDoor

namespace Go.Proofs.YtnkogppgacappaaGreatDoor
open Go.RowKit

set_option maxRecDepth 100000 in
set_option maxHeartbeats 8000000 in
theorem doOf_any {S : Nat → Prop} (nm : ByteArray) (pn n : Nat) (bs : List DBlock) (V : Pth → Value) (base : Nat) (w : World) (hf : FunSt w base bs V) (hbase : base ≤ w.heap.size) (hok : TdOk n bs)
 (hn:n≤1048576) (hpn:pn≤n) (hS:∀b,S b→b<w.heap.size∧∀q,okP bs q→(V q).ownBlock≠some b) :
 Calls Tryz.prog 41 #[.agg #[.string nm,.int .i64 (pn:Int),.int .i64 (n:Int),V .blks]] w fun e w' =>
  ∃V',e = .returned (.agg #[.string nm,.int .i64 (pn:Int),.int .i64 (doN pn n bs),V' .blks])∧FunSt w' base (doB pn n bs) V'∧Below base w w'∧Kept S w w' (doB pn n bs) V':=by
 obtain⟨ba,bc,hbv⟩:=RowsAt.shape (p := .blks) hf trivial;obtain⟨m,hm⟩:∃m,m=bs.length:=⟨_,rfl⟩
 rw [show (elemsP bs V .blks).length=m by simp [elemsP,hm]] at hbv;have Hf:=hid hf;have Hok:=hid hok;have HS:=hid hS;have Hm:=hid hm;have Hbv:=hid hbv;rw [hbv];clear hf hok hS hm hbv;go_enter Tryz.func41,Tryz.ntmps41;go_upto_region 1 with (fail)
 obtain⟨W,hW⟩:∃W,W=(w.alloc (.cells #[.string nm,.int .i64 (pn:Int),.int .i64 (n:Int),.slice ba m bc] 38)).alloc (.cells #[.string ⟨#[]⟩,.int .i64 0,.int .i64 0,.slice none 0 0] 38):=⟨_,rfl⟩
 obtain⟨hWs,h0,h1⟩:=two_cells w (.cells #[.string nm,.int .i64 (pn:Int),.int .i64 (n:Int),.slice ba m bc] 38) (.cells #[.string ⟨#[]⟩,.int .i64 0,.int .i64 0,.slice none 0 0] 38);rw [←hW] at hWs h0 h1 ⊢;have hbW:Below w.heap.size w W:=by rw [hW];(repeat (first | exact Below.refl _ _ | refine Below.alloc ?_ (by first|omega|(simp<;>omega)) _ | refine Below.setCell ?_ (by first|omega|(simp<;>omega)) _ | refine below_drewN ?_ _ | refine Below.drew ?_))
 obtain⟨UB,hUB⟩:∃UB,UB=w.heap.size:=⟨_,rfl⟩
 obtain⟨UO,hUO⟩:∃UO,UO=w.heap.size+1:=⟨_,rfl⟩
 rw [←hUO] at h1 ⊢;rw [←hUB] at h0 ⊢;have HUs:Hid (UB=w.heap.size∧UO=w.heap.size+1∧W.heap.size=w.heap.size+2):=⟨hUB,hUO,hWs⟩
 have HB:Hid (base≤w.heap.size):=hbase;have H0:=hid h0;have H1:=hid h1;have HbW:=hid hbW;obtain⟨c0,c1,c2,c3⟩:=(cells_of (cs:=[_,_,_,_]) h0).get4;rw [Nat.zero_add] at c1 c2 c3;have hrd:SlAt (fun b=>base≤b∧b<w.heap.size) W.drew 6 rBlock (.slice ba m bc) bs:=by
  have h:=FunSt.read Hf.out Hok.out.ok.num;rw [Hbv.out] at h;exact h.later rBlock_mono (HbW.out.trans ((Below.refl W.heap.size W).drew.mono HbW.out.size))
 have Hrd:=hid hrd;have Hcl:Hid (∀w',Below W.heap.size W w'→w'.cell? ⟨UB,0,none⟩=some (.string nm)∧w'.cell? ⟨UB,1,none⟩=some (.int .i64 (pn:Int))∧w'.cell? ⟨UB,2,none⟩=some (.int .i64 (n:Int))∧w'.cell? ⟨UB,3,none⟩=some (.slice ba m bc)) :=
  fun w' h=>⟨cell_later' c0 h,cell_later' c1 h,cell_later' c2 h,cell_later' c3 h⟩
 have zU:UB<W.heap.size:=cell_lt c0;have hm2:m≤1048576:=by rw [Hm.out];exact Hok.out.ok.len
 have HO:=hid (orderOf_any nm (pn:Int) (n:Int) ba m bc bs W.drew Hrd.out (fun b hb=>by have:=HbW.out.size;simp;omega) Hm.out.symm hm2 Hok.out.tok);obtain⟨bk,hbk⟩:∃bk,bk=keepF bs (ordL bs):=⟨_,rfl⟩
 have hokk:TdOk n bk:=by rw [hbk];exact Hok.out.keep
 have Hokk:=hid hokk;have hpre:preB bs=chainsF bk:=by rw [hbk];rfl
 have Hokp:=hid Hok.out.pre;rw [hpre] at Hokp;have Hokq:=hid Hok.out.kept;have hkq:keptB bs=keepF (chainsF bk) (ordL (chainsF bk)):=by unfold keptB;rw [hpre]
 have Hkq:=hid hkq;have Hbk:=hid hbk
 -- what stays: S,and the two boxes
 have HK0 : Hid (∀ w8 oa oc, Below W.heap.size W w8 → OwnInts W.drew.heap.size w8 (.slice oa (ordL bs).length oc) (ordL bs) →
  Calls Tryz.prog 74 #[.agg #[.string nm, .int .i64 (pn : Int), .int .i64 (n : Int), .slice ba m bc], .slice oa (ordL bs).length oc] w8 fun e w' => ∃ V', e = .returned (.agg #[.string nm, .int .i64 (pn : Int), .int .i64 (n : Int), V' .blks]) ∧
   FunSt w' base bk V' ∧ Below base w8 w' ∧ Kept (fun b => S b ∨ (w.heap.size ≤ b ∧ b < w8.heap.size)) w8 w' bk V') := fun w8 oa oc hW8 hv => by
  have hwz:=HbW.out.size;have hwz8:=hW8.size;have ho:=ordL_ok Hok.out.tok
  have hK := keep_any (S := fun b => S b ∨ (w.heap.size ≤ b ∧ b < w8.heap.size)) nm (pn : Int) (n : Int) bs V base w8 (Hf.out.later (HbW.out.trans (hW8.mono hwz))) (by omega) Hok.out.ok oa (ordL bs).length oc (ordL bs)
   (hv.sl.mono rInt_mono (fun b hb => .inr ⟨Nat.le_trans hwz hb.1,hb.2⟩) (Stays.refl _ _)) rfl (Nat.le_trans (ord_len ho) Hok.out.ok.len)
   (fun b hb => by
     rcases hb with h | h
     · exact ⟨Nat.lt_of_lt_of_le (HS.out b h).1 (Nat.le_trans hwz hwz8), (HS.out b h).2⟩
     · exact ⟨h.2, fun q hq e => by have := (RowsAt.lt Hf.out hq b e).2; omega⟩)
   ho.inn ho.nd
  rw [Hbv.out,←Hbk.out] at hK;exact hK
 clear hW h0 h1 hbW hUB hUO hWs hbase hrd hokk hpre hkq hbk
 go_region_law
  ((first
    | (go_simp; go_at_call 75; refine HO.out.mono ?_; rintro e w8 ⟨v, rfl, hv, hb8⟩
       obtain ⟨oa, oc, hov⟩ := hv.shape
       subst hov
       have hW8 : Below W.heap.size W w8 := (Below.refl W.heap.size W).drew.trans hb8
       obtain ⟨d0, d1, d2, d3⟩ := Hcl.out w8 hW8
       have zU8 := cell_lt d0
       have HK := hid (HK0.out w8 oa oc hW8 hv)
       have HW8 := hid hW8
       clear hv hb8 hW8)
    | (go_simp; go_at_call 74; refine HK.out.mono ?_; rintro e w9 ⟨V1, rfl, hf9, hb9, hk9⟩
       have Hb9 := hid hb9
       have Hf9 := hid hf9
       have Hk9 := hid hk9
       have HC := hid (chains_any (S := fun b => S b ∨ (w.heap.size ≤ b ∧ b < w8.heap.size)) nm (pn : Int) (n : Int) bk V1 base w9 hf9 (by have := hb9.size; have := HW8.out.size; have := HUs.out; have := HB.out; omega) Hokk.out.ch (fun b hb => ⟨by
        have := hb9.size
        rcases hb with h | h
        · have := (HS.out b h).1
          have := HW8.out.size
          have := HUs.out
          omega
        · omega, (hk9 b hb).2⟩))
       clear hf9 hb9 hk9)
    | (go_simp; go_at_call 73; refine HC.out.mono ?_; rintro e w10 ⟨V2, rfl, hf10, hb10, hk10⟩
       have Hb10 := hid hb10
       have Hk10 := hid hk10
       have HN := hid (names_any (S := fun b => S b ∨ (w.heap.size ≤ b ∧ b < w8.heap.size)) nm pn n (chainsF bk) V2 base w10 hf10 (by have := hb10.size; have := Hb9.out.size; have := HW8.out.size; have := HUs.out; have := HB.out; omega) Hokp.out.ok Hokp.out.tok hn hpn (keptB bs) Hkq.out Hokq.out.ok Hokq.out.reg (fun b hb => ⟨by
        have := hb10.size
        have := Hb9.out.size
        rcases hb with h | h
        · have := (HS.out b h).1
          have := HW8.out.size
          have := HUs.out
          omega
        · omega, (hk10 b hb).2⟩))
       clear hf10 hb10 hk10)
    | (go_simp; go_at_call 72; refine HN.out.mono ?_; rintro e w11 ⟨V3, rfl, hf11, hb11, hk11⟩
       obtain ⟨ra, rc, hrv⟩ := RowsAt.shape (p := .blks) hf11 trivial
       obtain ⟨l, hl⟩ : ∃ l, l = (namesB pn n (keptB bs)).length := ⟨_, rfl⟩
       rw [show (elemsP (namesB pn n (keptB bs)) V3 .blks).length = l by simp [elemsP, hl]] at hrv
       rw [hrv]
       have hu11 : w11.heap[UO]? = some (.cells #[.string ⟨#[]⟩, .int .i64 0, .int .i64 0, .slice none 0 0] 38 (0, 0)) := by
        have hz : w.heap.size ≤ UO ∧ UO < w8.heap.size := by have := HUs.out; have := HW8.out.size; omega
        exact (hk11 UO (.inr hz)).1.trans ((Hk10.out UO (.inr hz)).1.trans ((Hk9.out UO (.inr hz)).1.trans ((HW8.out.block UO (by have := HUs.out; omega)).trans H1.out)))
       obtain ⟨mn, hmn⟩ : ∃ mn, mn = namesN pn n (keptB bs) := ⟨_, rfl⟩
       rw [← hmn]
       obtain ⟨e0, e1, e2, e3⟩ := (cells_of (cs := [_, _, _, _]) hu11).get4
       rw [Nat.zero_add] at e1 e2 e3
       have k0 := thawed hu11 0
       have k1 := thawed hu11 1
       have k2 := thawed hu11 2
       have k3 := thawed hu11 3
       have Hl := hid hl
       have Hmn := hid hmn
       have Hrv := hid hrv
       have Hu11 := hid hu11
       have Hf11 := hid hf11
       have Hb11 := hid hb11
       have Hk11 := hid hk11
       clear hf11 hb11 hk11 hu11 hrv hl hmn)))
 all_goals
  have hoff:∀q,okP (namesB pn n (keptB bs)) q→(V3 q).ownBlock≠some UO:=(Hk11.out UO (.inr ⟨by have:=HUs.out;omega,by have:=HUs.out;have:=HW8.out.size;omega⟩)).2;have hrows:=(((RowsAt.setOff Hf11.out (o:=0) hoff (.string nm)).setOff (o:=1) hoff (.int .i64 (pn:Int))).setOff (o:=2) hoff (.int .i64 mn)).setOff (o:=3) hoff (.slice ra l rc);have hkp:Kp (fun b=>b≠UO) w11 ((((w11.setCell ⟨UO,0,none⟩ (.string nm)).setCell ⟨UO,1,none⟩ (.int .i64 (pn:Int))).setCell ⟨UO,2,none⟩ (.int .i64 mn)).setCell ⟨UO,3,none⟩ (.slice ra l rc)):=kp_more (kp_more (kp_more (kp_one _ _ _ _) _ _) _ _) _ _;have Hrows:=hid hrows;have Hkp:=hid hkp;have Hoff:=hid hoff;clear hrows hkp hoff e0 e1 e2 e3 k0 k1 k2 k3;go_wp2_with fail;have hW5:=set4 (u0 := .string nm) (u1 := .int .i64 (pn:Int)) (u2 := .int .i64 mn) (u3 := .slice ra l rc) (cells_of (cs:=[_,_,_,_]) Hu11.out);refine bodyPost_ret (func_res1 rfl rfl hW5) rfl ?_;have hz1:=HUs.out;have hz2:=HW8.out.size;have hz3:=Hb9.out.size;have hz4:=Hb10.out.size;have hz5:=Hb11.out.size;have hbb:=HB.out;refine⟨V3,?_,Hrows.out,?_,fun b hb=>⟨?_,(Hk11.out b (.inl hb)).2⟩⟩
  · show _=Ending.returned (.agg #[.string nm,.int .i64 (pn:Int),.int .i64 (namesN pn n (keptB bs)),V3 .blks])
    rw [Hrv.out,Hmn.out]
  · have hb:Below base w w11:=((((HbW.out.mono hbb).trans (HW8.out.mono (by omega))).trans Hb9.out).trans Hb10.out).trans Hb11.out
    have h2:base≤UO:=by omega
    exact (((hb.setCell (p:=⟨UO,0,none⟩) h2 _).setCell (p:=⟨UO,1,none⟩) h2 _).setCell (p:=⟨UO,2,none⟩) h2 _).setCell (p:=⟨UO,3,none⟩) h2 _
  · have hbl:=(HS.out b hb).1
    refine (Hkp.out.block b (by omega) (show b≠UO by omega)).trans ?_;exact (Hk11.out b (.inl hb)).1.trans ((Hk10.out b (.inl hb)).1.trans ((Hk9.out b (.inl hb)).1.trans ((HW8.out.block b (by omega)).trans (HbW.out.block b hbl))))

end Go.Proofs.YtnkogppgacappaaGreatDoor
