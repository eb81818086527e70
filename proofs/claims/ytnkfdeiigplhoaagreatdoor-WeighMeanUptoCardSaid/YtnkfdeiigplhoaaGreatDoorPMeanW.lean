import Derived.Test.YtnkfdeiigplhoaaGreatDoorPRowOps
import Derived.Test.YtnkfdeiigplhoaaGreatDoorPRunP
/- Blocks laid in another order: what comes from where. Plain. A unit laid by weigh.By runs as it did, in plain Lean. -/
namespace Go.Proofs.YtnkfdeiigplhoaaGreatDoor
section
theorem agn : ∀ {l m : List Int}, l.Pairwise (· < ·) -> m.Pairwise (· < ·) -> (∀ x, x ∈ l ↔ x ∈ m) -> l = m
 | [],[],_,_,_=>rfl
 | [],b :: m,_,_,h=>by have:=(h b).2 (Aa7 ..);cases this
 | a :: l,[],_,_,h=>by have:=(h a).1 (Aa7 ..);cases this
 | a :: l,b :: m,h1,h2,h=>by
   obtain⟨p1,q1⟩:=List.pairwise_cons.1 h1;obtain⟨p2,q2⟩:=List.pairwise_cons.1 h2;have e:a=b:=by
    rcases Aaw.1 ((h a).1 (Aa7 ..)) with h3 | h3
    . exact h3
    . rcases Aaw.1 ((h b).2 (Aa7 ..)) with h4 | h4
      . exact h4.symm
      . have:=p2 a h3
        have:=p1 b h4;omega
   subst e;rw [agn q1 q2 fun x=>?_];constructor
   . intro hx
     rcases Aaw.1 ((h x).1 (Abb _ hx)) with h3 | h3
     . have:=p1 x hx;omega
     . exact h3
   . intro hx
     rcases Aaw.1 ((h x).2 (Abb _ hx)) with h3 | h3
     . have:=p2 x hx;omega
     . exact h3
theorem aeg {l:List aad}{s u:Nat}{x:Int}:x∈aag l s u↔∃i y,l[i]?=some y∧(u:Int)∈y.fin.to∧x=((s+i:Nat):Int):=by
 induction l generalizing s with
 | nil=>simp [aag]
 | cons b l ih =>
   rw [aag,Aaz,ih];have hh:x∈adU b.fin.to u s↔(u:Int)∈b.fin.to∧x=(s:Int):=by
    unfold adU;rw [Aau];constructor
    . rintro⟨y,hy,rfl⟩
      obtain⟨h1,h2⟩:=Abp.1 hy;have h3:=of_decide_eq_true h2;exact⟨by rw [<-h3];exact h1,rfl⟩
    . rintro⟨h1,rfl⟩
      exact⟨(u:Int),Abp.2 ⟨h1,by simp⟩,rfl⟩
   rw [hh];constructor
   . rintro (⟨h1,h2⟩ | ⟨i,y,h1,h2,h3⟩)
     . exact⟨0,b,rfl,h1,by simpa using h2⟩
     . exact⟨i+1,y,by simpa using h1,h2,by rw [h3];congr 1;omega⟩
   . rintro⟨i,y,h1,h2,h3⟩
     cases i with
     | zero=>cases h1;exact .inl ⟨h2,by simpa using h3⟩
     | succ i=>exact .inr ⟨i,y,by simpa using h1,h2,by rw [h3];congr 1;omega⟩
theorem age {l:List aad}{i u:Nat}{y:aad}(h:l[i]?=some y)(hu:(u:Int)∈y.fin.to):(i:Int)∈aag l 0 u:=aeg.2 ⟨i,y,h,hu,by simp⟩
theorem aic {α : Type} [DecidableEq α] (k : α -> Nat) (l : List α) : ∀ n : Nat, ((List.range n).flatMap fun j => l.filter fun p => decide (k p = j)).Perm (l.filter fun p => decide (k p < n))
 | 0=>by
   rw [show (l.filter fun p=>decide (k p<0))=[] from List.filter_eq_nil_iff.2 fun a _=>by simp];exact List.Perm.refl _
 | n+1=>by
   rw [Abo,List.flatMap_append];have h1:=aic k l n;simp only [List.flatMap_cons,List.flatMap_nil,Abe];refine (h1.append_right _).trans ?_;have h2:=List.filter_append_perm (fun p=>decide (k p<n)) (l.filter fun p=>decide (k p<n+1));rw [List.filter_filter,List.filter_filter] at h2;have e1:(l.filter fun a=>decide (k a<n)&&decide (k a<n+1))=l.filter fun p=>decide (k p<n):=List.filter_congr fun x _=>by
    rw [Aa0];simp only [Bool.and_eq_true,decide_eq_true_eq];omega
   have e2:(l.filter fun a=>(!decide (k a<n))&&decide (k a<n+1))=l.filter fun p=>decide (k p=n):=List.filter_congr fun x _=>by
    rw [Aa0];simp only [Bool.and_eq_true,Bool.not_eq_true',decide_eq_false_iff_not,decide_eq_true_eq];omega
   rw [e1,e2] at h2;exact h2
section
variable {bs : List aad} {o : List Nat}
theorem afx {i:Nat}(hi:i<bs.length):bs.getD i aaM=aea bs i:=by
 rw [Aac,acb bs hi];rfl
theorem aj8(hp:aeM o bs.length){i:Nat}(hi:i<bs.length):aea (aaV bs o) (placeOf o i)=aft o (aag bs 0 i) (aea bs i):=by
 obtain⟨h1,h2⟩:=hp.place hi;refine ahh ?_;unfold aaV;rw [Aak,Aaa h1,h2,Option.map_some,afx hi]
theorem anW(hf:aiH bs bs.length)(hp:aeM o bs.length){i:Nat}(hi:i<bs.length){src:List DVal}(hs:src.length=(aag bs 0 i).length) :
 ∃L:List (Int×DVal),L.Perm ((aag bs 0 i).zip src)∧aek o (aag bs 0 i) src o.length=L.map (·.2)∧aag (aaV bs o) 0 (placeOf o i)=L.map fun p=>((placeOf o p.1.toNat:Nat):Int):=by
 have hA:=abU (t:=i) bs 0 hf.mem;have av:(aag bs 0 i).Nodup:=hA.1.imp fun h e=>by omega
 have ag:∀a∈aag bs 0 i,0<=a∧a<(bs.length:Int):=fun a ha=>by have:=abB ha;omega
 obtain⟨q1,q2⟩:=hp.place hi;have ad:((List.range o.length).flatMap fun j=>((aag bs 0 i).zip src).filter fun p=>decide (placeOf o p.1.toNat=j)).Perm ((aag bs 0 i).zip src):=by
  have h:=aic (fun p:Int×DVal=>placeOf o p.1.toNat) ((aag bs 0 i).zip src) o.length;rw [List.filter_eq_self.2 fun p ae=>?_] at h
  . exact h
  . have:=ag p.1 (List.of_mem_zip (show (p.1,p.2)∈_ from ae)).1
    exact decide_eq_true (hp.place (z:=p.1.toNat) (by omega)).1
 refine⟨_,ad,?_,?_⟩
 . unfold aek
   rw [List.map_flatMap];refine adZ fun j _=>?_;rw [agd hs]
 . refine (agn ?_ (abU (t:=placeOf o i) (aaV bs o) 0 (hf.turn hp).mem).1 fun x=>?_).symm
   . refine List.pairwise_map.2 ?_
     have al:(((List.range o.length).flatMap fun j=>((aag bs 0 i).zip src).filter fun p=>decide (placeOf o p.1.toNat=j))).Pairwise fun p q=>placeOf o p.1.toNat≠placeOf o q.1.toNat:=by
      have hz:((aag bs 0 i).zip src).Pairwise fun p q=>p.1≠q.1:=by
       have h1:(((aag bs 0 i).zip src).map Prod.fst).Nodup:=by
        rw [List.map_fst_zip (by omega)];exact av
       exact List.pairwise_map.1 h1
      have h2:=(ad.pairwise_iff (R:=fun p q:Int×DVal=>p.1≠q.1) (fun h e=>h e.symm)).2 hz;refine List.Pairwise.imp_of_mem (fun {p q} ae af aD e=>aD ?_) h2;have m1:=ag p.1 (List.of_mem_zip (show (p.1,p.2)∈_ from ad.mem_iff.1 ae)).1;have m2:=ag q.1 (List.of_mem_zip (show (q.1,q.2)∈_ from ad.mem_iff.1 af)).1;exact aeH hp m1 m2 e
     have hle:(((List.range o.length).flatMap fun j=>((aag bs 0 i).zip src).filter fun p=>decide (placeOf o p.1.toNat=j))).Pairwise fun p q=>placeOf o p.1.toNat<=placeOf o q.1.toNat:=by
      refine List.pairwise_flatMap.2 ⟨fun j _=>?_,?_⟩
      . refine List.Pairwise.imp_of_mem (R:=fun _ _=>True) (fun {p q} ae af _=>?_) (List.pairwise_of_forall fun _ _=>trivial)
        have e1:=of_decide_eq_true (Abp.1 ae).2;have e2:=of_decide_eq_true (Abp.1 af).2;omega
      . refine List.Pairwise.imp (fun {a b} aF p ae q af=>?_) (List.pairwise_lt_range (n:=o.length))
        have e1:=of_decide_eq_true (Abp.1 ae).2;have e2:=of_decide_eq_true (Abp.1 af).2;omega
     exact (al.and hle).imp fun⟨h,h'⟩=>by omega
   . rw [aeg,Aau]
     constructor
     . rintro⟨p,ae,rfl⟩
       have hz:=ad.mem_iff.1 ae;have ha:=(List.of_mem_zip (show (p.1,p.2)∈_ from hz)).1;have hr:=ag p.1 ha;obtain⟨k,y,h1,h2,h3⟩:=aeg.1 ha;have hk:k<bs.length:=(Aae.1 h1).1;have e:p.1.toNat=k:=by omega
       obtain⟨g1,g2⟩:=hp.place hk;refine⟨placeOf o k,_,acb (aaV bs o) (by rw [aaL];exact g1),?_,by rw [e];omega⟩;rw [aj8 hp hk];show _∈ad5 o (aea bs k).fin.to;rw [ae7 hp (fun t ht=>hf.tgt k hk t (by rw [afx hk];exact ht)) q1,q2,ahh h1];exact h2
     . rintro⟨k,y,h1,h2,h3⟩
       have hk:k<o.length:=by rw [<-aaL bs o];exact (Aae.1 h1).1
       have aj:=hp.lt _ (Aaf hk);have e:y=aft o (aag bs 0 o[k]) (aea bs o[k]):=by
        unfold aaV at h1;rw [Aak,Aaa hk,Option.map_some,afx aj] at h1;exact (Option.some.inj h1).symm
       rw [e] at h2;have h4:=(ae7 hp (fun t ht=>hf.tgt _ aj t (by rw [afx aj];exact ht)) q1).1 (show ((placeOf o i:Nat):Int)∈ad5 o (aea bs o[k]).fin.to from h2);rw [q2] at h4;have az:((o[k]:Nat):Int)∈aag bs 0 i:=age (acb bs aj) h4;obtain⟨m,hm,em⟩:=Aa1 az;refine⟨(((o[k]:Nat):Int),src[m]'(by omega)),ad.mem_iff.2 ?_,?_⟩
       . exact Aam (i:=m) (List.getElem?_zip_eq_some.2 ⟨by rw [Aaa hm,em],Aaa (by omega)⟩)
       . show ((placeOf o (((o[k]:Nat):Int)).toNat:Nat):Int)=x
         rw [Aaj,hp.at hk,h3];simp
end
end
section
theorem anO {bs:List aad}{o:List Nat}(hf:aiH bs bs.length)(hp:aeM o bs.length){i b:Nat}(hi:i<bs.length){src:List DVal}(hs:src.length=(aag bs 0 i).length)(hb:(b:Int)∈aag bs 0 i)(d:DVal) :
 (aek o (aag bs 0 i) src o.length).getD (whence (aaV bs o) (placeOf o i) (placeOf o b)) d=src.getD (whence bs i b) d:=by
 obtain⟨L,h1,h2,h3⟩:=anW hf hp hi hs;have hk:(aag bs 0 i).idxOf (b:Int)<(aag bs 0 i).length:=List.idxOf_lt_length_of_mem hb;have aC:(aag bs 0 i)[(aag bs 0 i).idxOf (b:Int)]=(b:Int):=List.getElem_idxOf hk;have au:(aag bs 0 i).idxOf (b:Int)<src.length:=by omega
 have hz:((b:Int),src[(aag bs 0 i).idxOf (b:Int)])∈(aag bs 0 i).zip src :=
  Aam (i:=(aag bs 0 i).idxOf (b:Int)) (List.getElem?_zip_eq_some.2 ⟨by rw [Aaa hk,aC],Aaa au⟩)
 obtain⟨j,hj,ej⟩:=Aa1 (h1.mem_iff.2 hz);have al:(aag (aaV bs o) 0 (placeOf o i)).Nodup:=((abU (t:=placeOf o i) (aaV bs o) 0 (hf.turn hp).mem).1).imp fun h e=>by omega
 have aq:j<(aag (aaV bs o) 0 (placeOf o i)).length:=by rw [h3,Aal];exact hj
 have aA:(aag (aaV bs o) 0 (placeOf o i))[j]=((placeOf o b:Nat):Int):=by
  have h4:(aag (aaV bs o) 0 (placeOf o i))[j]?=some ((placeOf o b:Nat):Int):=by
   rw [h3,Aak,Aaa hj,ej];simp
  rw [Aaa aq] at h4;exact Option.some.inj h4
 have hw:whence (aaV bs o) (placeOf o i) (placeOf o b)=j:=by
  unfold whence;rw [<-aA];exact al.idxOf_getElem j aq
 rw [hw,h2,Aac,Aak,Aaa hj,ej,Aac];show src[_]=(src[whence bs i b]?).getD d;rw [show whence bs i b=(aag bs 0 i).idxOf (b:Int) from rfl,Aaa au];rfl
theorem amu {u u':aaC}(hc:aal u=(0,0)){k:Nat}{f:aao}(hf:u.funcs[k]?=some f){o:List Nat}(hp:aeM o f.blocks.length)(h0:o[0]?=some 0)(aw:u'.funcs[k]?=some (agt f o)) :
 aqe u u' k f (agt f o) (placeOf o) (fun b=>b<f.blocks.length):=by
 have ai:=aiI hc hf;have ay:aiH f.blocks f.blocks.length:=ado (abv hc hf).2;have aB:=(Aae.1 h0).1;have aE:placeOf o 0=0:=by
  have h1:=hp.at aB;rw [(Aae.1 h0).2] at h1;exact h1
 have an:∀b,b<f.blocks.length->(agt f o).blocks[placeOf o b]?=some (aft o (aag f.blocks 0 b) (aea f.blocks b)):=fun b hb=>by
  have h1:=aj8 hp hb;obtain⟨h2,-⟩:=hp.place hb;rw [<-h1];exact acb _ (by show _<(aaV f.blocks o).length;rw [aaL];exact h2)
 refine⟨rfl,⟨by have:=ai.len;omega,aE⟩,fun b x hb hx=>?_,fun b x t _ hx ht=>?_,fun b x t hb hx ht regs=>?_⟩
 . refine⟨_,an b hb,?_⟩
   rw [ahh hx];exact⟨rfl,rfl,rfl,rfl⟩
 . have:=((ai.tgt b x hx).2 _ ht).2
   omega
 . have ak:t<f.blocks.length:=by have:=((ai.tgt b x hx).2 _ ht).2;omega
   have e1:aeQ u k t=aea f.blocks t:=by
    unfold aeQ aci;rw [Aac,Aac,hf];show (f.blocks[t]?).getD _=_;rw [acb _ ak];rfl
   have e2:aeQ u' k (placeOf o t)=aft o (aag f.blocks 0 t) (aea f.blocks t):=by
    unfold aeQ aci;rw [Aac,Aac,aw];show ((agt f o).blocks[placeOf o t]?).getD _=_;rw [an t ak];rfl
   rw [e1,e2];unfold agC;show agz ((aea f.blocks t).phis.map (ae6 o (aag f.blocks 0 t))) (((aea f.blocks t).phis.map (ae6 o (aag f.blocks 0 t))).map fun p=>aaS regs (p.src.getD (whence (aaV f.blocks o) (placeOf o t) (placeOf o b)) ⟨false,0⟩)) regs=_;rw [ajW (g:=ae6 o (aag f.blocks 0 t)) (fun p=>rfl),List.map_map]
   congr 1
   refine Ab0 fun p ae=>?_;show aaS regs ((aek o (aag f.blocks 0 t) p.src o.length).getD _ _)=_;rw [anO ay hp ak (ai.phi t _ (acb _ ak) p ae).2.1 (age hx ht)]
theorem apx {gs:List aas}{fs:List aao}{Cs:List (List Int)}(h:acs ⟨gs,fs⟩ Cs=(0,0)) :
 amL ⟨gs,fs⟩ ⟨gs,byL fs Cs⟩ (fun k=>placeOf (afq (fs.getD k abM).blocks (aaB (Cs.getD k [])))) (fun k b=>b<(fs.getD k abM).blocks.length):=by
 obtain⟨hc,hl,-⟩:=aes h;refine⟨rfl,?_,fun k f hf=>?_⟩
 . show (byL fs Cs).findIdx _=fs.findIdx _
   have e:(byL fs Cs).map (·.name)=fs.map (·.name):=by
    refine Abk fun k=>?_;rw [Aak,Aak]
    by_cases hk:k<fs.length
    . rw [an7 hk (by rw [hl];exact hk),Aaa hk];rfl
    . rw [Aa8 (by rw [ach];omega),Aa8 (by omega)]
   have hm:∀l:List aao,l.findIdx (fun f=>f.name.toList == [109,97,105,110])=(l.map (·.name)).findIdx (fun s=>s.toList == [109,97,105,110]):=fun l=>by
    rw [List.findIdx_map];rfl
   rw [hm,hm,e]
 . have hk:k<fs.length:=(Aae.1 hf).1
   have ar:k<Cs.length:=by rw [hl];exact hk
   have ax:fs[k]=f:=(Aae.1 hf).2;have e1:fs.getD k abM=f:=by rw [Aac,hf];rfl
   have e2:Cs.getD k []=Cs[k]:=by rw [Aac,Aaa ar];rfl
   have ao:(byL fs Cs)[k]?=some (byF f Cs[k]):=by rw [an7 hk ar,ax]
   obtain⟨hp,h0,-⟩:=aez (f:=f) (abv hc hf).2 (by have:=(aiI hc hf).len;omega) (aaB Cs[k]);refine⟨_,ao,?_⟩;rw [e1,e2];exact amu (u:=⟨gs,fs⟩) (u':=⟨gs,byL fs Cs⟩) hc hf hp h0 ao
end
end Go.Proofs.YtnkfdeiigplhoaaGreatDoor
