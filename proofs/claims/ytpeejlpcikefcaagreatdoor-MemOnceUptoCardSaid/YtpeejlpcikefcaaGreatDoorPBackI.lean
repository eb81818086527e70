import Derived.Test.YtpeejlpcikefcaaGreatDoorPLarge
/- A row of the call's own whose elements are turned one by one. No function of the program in sight. slices.IndexFunc and slices.DeleteFunc of instructions, with still.Do's closure. slices.Backward over a row of instructions, in memory that the loop over it may change elsewhere. -/
namespace Go.Proofs.YtpeejlpcikefcaaGreatDoor
section
open Go.RowKit
structure ac7 (W:World)(base:Nat)(e:TypeId)(sz:Nat)(v:Value)(xss:List (List Value)):Prop where
 own:W.ownsRow base e sz v xss.length xss.flatten
 wid:∀cs∈xss,cs.length=sz
section
variable {W W' : World} {base : Nat} {e : TypeId} {sz : Nat} {v : Value} {xss : List (List Value)}
theorem ac7.lt(h:ac7 W base e sz v xss):∀k,v.ownBlock=some k->base<=k∧k<W.heap.size:=fun k hk=>h.own.lt k hk
theorem ac7.off(h:ac7 W base e sz v xss)(hk:Kp (fun b=>v.ownBlock=some b) W W'):ac7 W' base e sz v xss:=by
 refine⟨?_,h.wid⟩;refine⟨h.own.1,?_⟩;rcases h.own.2 with h1 | ⟨g,cap,cur,e1,h3,h4,h5⟩
 . exact .inl h1
 . exact .inr ⟨g,cap,cur,e1,h3,(hk.block g (Aag.1 h4).1 (by rw [e1];rfl)).trans h4,h5⟩
theorem ac7.at(h:ac7 W base e sz v xss){i:Nat}{cs:List Value}(hi:xss[i]?=some cs)(_h0:0<sz) :
 ∃g c,v = .slice (some ⟨g,0,none⟩) xss.length c∧xss.length<=c∧base<=g∧g<W.heap.size∧aal W g (i * sz) cs∧∀o,W.frozen? ⟨g,o,none⟩=false:=by
 have aH:=(Aad.1 hi).1;rcases h.own.2 with⟨h1,h2⟩ | ⟨g,cap,cur,e,h3,h4,h5,h6,h7,h8⟩
 . omega
 . refine⟨g,cap,e,h5,h3,(Aag.1 h4).1,fun j u hj=>?_,fun o=>by simp [World.frozen?,h4]⟩
   have aV:j<sz:=by rw [<-h.wid cs (Aae hi)];exact (Aad.1 hj).1
   have hf:=aeo xss (fun i cs hi=>h.wid cs (Aae hi)) i j cs hi aV;rw [hj,<-h8,Abh] at hf;rw [aaX h4];split at hf
   . simpa using hf
   . cases hf
theorem ac7.set(h:ac7 W base e sz v xss){g n c i j:Nat}(hv:v = .slice (some ⟨g,0,none⟩) n c){cs:List Value}(hi:xss[i]?=some cs)(hj:j<sz)(u:Value) :
 ac7 (W.setCell ⟨g,i * sz+j,none⟩ u) base e sz v (xss.set i (cs.set j u)):=by
 have hw:=h.wid;refine⟨?_,fun x hx=>?_⟩
 . obtain⟨h0,h1⟩:=h.own
   rw [ahD hw hi hj,Aat];refine⟨by simpa using h0,?_⟩;rcases h1 with⟨e,h2⟩ | ⟨g',cap,cur,e,h3,h4,h5,h6,h7,h8⟩
   . rw [e] at hv;cases hv
   . rw [e] at hv
     cases hv;refine .inr ⟨g,_,cur.setIfInBounds (i * sz+j) u,e,h3,aak h4 _,h5,h6,by simpa using h7,?_⟩;rw [Array.toList_setIfInBounds,List.take_set,h8]
 . rcases List.mem_or_eq_of_mem_set hx with h3 | h3
   . exact hw x h3
   . rw [h3,Aat];exact hw cs (Aae hi)
theorem ac7.set4(h:ac7 W base e 4 v xss){g n c i:Nat}(hv:v = .slice (some ⟨g,0,none⟩) n c)(hi:i<xss.length)(u0 u1 u2 u3:Value) :
 ac7 ((((W.setCell ⟨g,i * 4,none⟩ u0).setCell ⟨g,i * 4+1,none⟩ u1).setCell ⟨g,i * 4+2,none⟩ u2).setCell ⟨g,i * 4+3,none⟩ u3) base e 4 v (xss.set i [u0,u1,u2,u3]):=by
 have hx:=Aaa hi;have hl:=h.wid _ (Aae hx)
 match hh:xss[i],hl with
 | [a0,a1,a2,a3],_ =>
   rw [hh] at hx;have s:∀cs:List Value,(xss.set i cs)[i]?=some cs:=fun cs=>Aa6 hi;have r0:=h.set (j:=0) hv hx (by decide) u0;have r1:=r0.set (j:=1) hv (s _) (by decide) u1;rw [Aaz] at r1;have r2:=r1.set (j:=2) hv (s _) (by decide) u2;rw [Aaz] at r2;have r3:=r2.set (j:=3) hv (s _) (by decide) u3;rw [Aaz] at r3;exact r3
end
structure agW {α:Type}(S D:Nat->Prop)(W:World)(base:Nat)(e:TypeId)(sz:Nat)(r:Rp α)(f:α->α)(v:Value)(l:List α)(k:Nat)(xss:List (List Value)):Prop where
 row:ac7 W base e sz v xss
 len:xss.length=l.length
 low:∀b,D b->base<=b∧b<W.heap.size∧v.ownBlock≠some b
 done:∀(i:Nat) cs x,i<k->xss[i]?=some cs->l[i]?=some x->r D W cs (f x)
 rest:∀(i:Nat) cs x,k<=i->xss[i]?=some cs->l[i]?=some x->r S W cs x
section
variable {α : Type} {S D : Nat -> Prop} {W W' : World} {base : Nat} {e : TypeId} {sz : Nat} {r : Rp α} {f : α -> α} {v : Value} {l : List α} {k : Nat} {xss : List (List Value)}
theorem agW.later(hr:r.Mono)(h:agW S D W base e sz r f v l k xss)(hb:Below W.heap.size W W'):agW S D W' base e sz r f v l k xss :=
 ⟨h.row.off (Kp.of hb), h.len, fun b hd => ⟨(h.low b hd).1, Aay (h.low b hd).2.1 hb.size, (h.low b hd).2.2⟩,
   fun i cs x h1 h2 h3 => hr.out _ _ _ _ _ _ (fun _ h => h) (aaS.below' hb) (h.done i cs x h1 h2 h3), fun i cs x h1 h2 h3 => hr.out _ _ _ _ _ _ (fun _ h => h) (aaS.below' hb) (h.rest i cs x h1 h2 h3)⟩
theorem agW.kp(hr:r.Mono)(h:agW S D W base e sz r f v l k xss){F:Nat->Prop}(hk:Kp F W W')(hv:∀b,v.ownBlock=some b->F b)(hD:∀b,D b->F b)(hS:∀b,S b->F b):agW S D W' base e sz r f v l k xss :=
 ⟨h.row.off (hk.less hv), h.len, fun b hd => ⟨(h.low b hd).1, Aay (h.low b hd).2.1 hk.size, (h.low b hd).2.2⟩,
   fun i cs x h1 h2 h3 => hr.out _ _ _ _ _ _ (fun _ h => h) (hk.stays hD) (h.done i cs x h1 h2 h3), fun i cs x h1 h2 h3 => hr.out _ _ _ _ _ _ (fun _ h => h) (hk.stays hS) (h.rest i cs x h1 h2 h3)⟩
theorem agW.get(h:agW S D W base e sz r f v l k xss)(h0:0<sz){x:α}(hx:l[k]?=some x) :
 ∃g c cs,v = .slice (some ⟨g,0,none⟩) l.length c∧base<=g∧g<W.heap.size∧xss[k]?=some cs∧aal W g (k * sz) cs∧r S W cs x∧∀o,W.frozen? ⟨g,o,none⟩=false:=by
 have hk:k<xss.length:=by rw [h.len];exact (Aad.1 hx).1
 have hc:=Aaa hk;obtain⟨g,c,e1,-,h2,h3,h4,h5⟩:=h.row.at hc h0;rw [h.len] at e1;exact⟨g,c,_,e1,h2,h3,hc,h4,h.rest k _ x (Aac _) hc hx,h5⟩
theorem agW.next (hr : r.Mono) (h : agW S D W base e sz r f v l k xss) {D' : Nat -> Prop} {g n c : Nat} (hv : v = .slice (some ⟨g, 0, none⟩) n c) {az : List Value} {x : α} (hx : l[k]? = some x) (aD : ac7 W' base e sz v (xss.set k az)) (hk : Kp (fun b => b ≠ g) W W')
 (hS:∀b,S b->b≠g) (hD:∀b,D b->D' b) (ax:∀b,D' b->base<=b∧b<W'.heap.size∧b≠g) (aU:r D' W' az (f x)):agW S D' W' base e sz r f v l (k+1) (xss.set k az):=by
 have ak:k<xss.length:=by rw [h.len];exact (Aad.1 hx).1
 refine⟨aD,by rw [Aat];exact h.len,fun b hb=>⟨(ax b hb).1,(ax b hb).2.1,fun e=>(ax b hb).2.2 (by rw [hv] at e;exact (Option.some.inj e).symm)⟩,fun i cs y h1 h2 h3=>?_,fun i cs y h1 h2 h3=>?_⟩
 . by_cases e:k=i
   . subst e
     rw [Aa6 ak] at h2;rw [hx] at h3;cases h2;cases h3;exact aU
   . rw [Ack e] at h2
     exact hr.out _ _ _ _ _ _ hD (hk.stays fun b hb=>(ax b (hD b hb)).2.2) (h.done i cs y (by omega) h2 h3)
 . rw [Ack (by omega)] at h2
   exact hr.out _ _ _ _ _ _ (fun _ h=>h) (hk.stays hS) (h.rest i cs y (by omega) h2 h3)
theorem agW.read(hr:r.Mono)(h0:0<sz)(h:agW S D W base e sz r f v l l.length xss):SlAt (fun b=>base<=b∧b<W.heap.size) W sz r v (l.map f):=by
 rcases h.row.own.2 with⟨h1,h2⟩ | ⟨g,cap,cur,e1,h3,h4,h5,h6,h7,h8⟩
 . have hl:l=[]:=Aa9 (by rw [<-h.len];exact h2)
   subst hl;exact⟨none,0,h1,Aac _,by decide,fun h=>absurd rfl h⟩
 . unfold maxLen at h6
   refine⟨some ⟨g,0,none⟩,cap,by rw [e1,Aah,h.len],by rw [Aah];have:=h.len;omega,by omega,fun _=>⟨g,0,rfl,⟨h3,(Aag.1 h4).1⟩,fun i x hx=>?_⟩⟩;have hi:i<l.length:=by have h9:=(Aad.1 hx).1;rw [Aah] at h9;exact h9
   have aW:i<xss.length:=by rw [h.len];exact hi
   have hc:=Aaa aW;rw [Aak,Aaa hi] at hx;cases hx;have hd:=h.done i _ _ hi hc (Aaa hi);obtain⟨g',c',e2,-,-,-,ag,-⟩:=h.row.at hc h0;rw [e1] at e2;cases e2;refine⟨_,hr.out _ _ _ _ _ _ (fun b hb=>⟨(h.low b hb).1,(h.low b hb).2.1⟩) (aaS.refl _ _) hd,h.row.wid _ (Aae hc),?_⟩;rw [Aab];exact ag
end
theorem ar8 {S:Nat->Prop}{w:World}{cs:List Value}{x:DBlock}(h:aa0 S w cs x):aos x:=by
 have all:∀{α:Type} {r:Rp α} {v:Value} {sz:Nat} {l:List α},SlAt S w sz r v l->∀x∈l,∃cs,r S w cs x:=fun h x hx=>by
  obtain⟨ao,c,-,-,-,h4⟩:=h;obtain⟨b,off,-,-,h7⟩:=h4 (fun e=>by rw [e] at hx;cases hx);obtain⟨i,hi,rfl⟩:=Aav hx;obtain⟨cs,h8,-⟩:=h7 i _ (Aaa hi);exact⟨cs,h8⟩
 obtain⟨p,l,e,-,hp,hl,he⟩:=h;obtain⟨tv,-,ht,hk,ho⟩:=he;refine⟨hk,ho,fun t h=>?_,fun q hq=>?_,fun y hy=>?_⟩
 . obtain⟨cs,h1,h2⟩:=all ht t h
   exact h2
 . obtain⟨cs,sv,-,hs,hd⟩:=all hp q hq
   refine⟨hd,fun v hv=>?_⟩;obtain⟨cs,-,h2⟩:=all hs v hv;exact h2
 . obtain⟨cs,av,-,ha,h1,h2,h3,h4,h5⟩:=all hl y hy
   refine⟨h1,h2,h3,h4,h5,fun v hv=>?_⟩;obtain⟨cs,-,h6⟩:=all ha v hv;exact h6
theorem aln {S:Nat->Prop}{w:World}{v:Value}{gs:List aaF}{fs:List aaz}(h:SlAt S w 4 abD v fs):ajx ⟨gs,fs⟩:=fun f hf x hx=>by
 obtain⟨ao,c,-,-,-,h4⟩:=h;obtain⟨b,off,-,-,h7⟩:=h4 (fun e=>by rw [show fs=[] from e] at hf;cases hf);obtain⟨i,hi,rfl⟩:=Aav (show f∈fs from hf);obtain⟨cs,⟨bv,-,hb,-⟩,-⟩:=h7 i _ (Aaa hi);obtain⟨bk,c2,-,-,-,g4⟩:=hb;obtain⟨b2,aX,-,-,g7⟩:=g4 (fun e=>by rw [e] at hx;cases hx);obtain⟨j,hj,rfl⟩:=Aav hx;obtain⟨bl,aT,-⟩:=g7 j _ (Aaa hj);exact ar8 aT
end
section
open Go.RowKit
theorem atb {l:List Value}(h:l.length=8):∃a0 a1 a2 a3 a4 a5 a6 a7,l=[a0,a1,a2,a3,a4,a5,a6,a7]:=by
 match l,h with
 | [a0,a1,a2,a3,a4,a5,a6,a7],_=>exact⟨a0,a1,a2,a3,a4,a5,a6,a7,rfl⟩
def aj5(E:List (List Value))(P:List Value->Bool):Int:=match E.findIdx? P with | some k=>k | none => -1
theorem ac7.set8 {W:World}{base:Nat}{e:TypeId}{v:Value}{xss:List (List Value)}(h:ac7 W base e 8 v xss){g n c i:Nat}(hv:v = .slice (some ⟨g,0,none⟩) n c)(hi:i<xss.length)(u0 u1 u2 u3 u4 u5 u6 u7:Value) :
 ac7 ((((((((W.setCell ⟨g,i * 8,none⟩ u0).setCell ⟨g,i * 8+1,none⟩ u1).setCell ⟨g,i * 8+2,none⟩ u2).setCell ⟨g,i * 8+3,none⟩ u3).setCell ⟨g,i * 8+4,none⟩ u4).setCell ⟨g,i * 8+5,none⟩ u5).setCell ⟨g,i * 8+6,none⟩ u6).setCell ⟨g,i * 8+7,none⟩ u7) base e 8 v (xss.set i [u0,u1,u2,u3,u4,u5,u6,u7]):=by
 have hx:=Aaa hi;obtain⟨a0,a1,a2,a3,a4,a5,a6,a7,hh⟩:=atb (h.wid _ (Aae hx));rw [hh] at hx;have s:∀cs:List Value,(xss.set i cs)[i]?=some cs:=fun cs=>Aa6 hi;have r0:=h.set (j:=0) hv hx (by decide) u0;have r1:=r0.set (j:=1) hv (s _) (by decide) u1;rw [Aaz] at r1;have r2:=r1.set (j:=2) hv (s _) (by decide) u2;rw [Aaz] at r2;have r3:=r2.set (j:=3) hv (s _) (by decide) u3;rw [Aaz] at r3;have r4:=r3.set (j:=4) hv (s _) (by decide) u4;rw [Aaz] at r4;have r5:=r4.set (j:=5) hv (s _) (by decide) u5;rw [Aaz] at r5;have r6:=r5.set (j:=6) hv (s _) (by decide) u6;rw [Aaz] at r6;have r7:=r6.set (j:=7) hv (s _) (by decide) u7;rw [Aaz] at r7;exact r7
theorem aiu {Q : Program} {w : World} (t e ty : TypeId) (z : Value) (zs : List Value) (ht : Q.underlying t = some (.slice e)) (hv : ∀ w, (zeroValue e).run Q w = .ok z w) (hz : z.cells = zs.toArray) (h1 : ∀ u ∈ zs, u.oneCell' = true) (h0 : 0 < zs.length)
 (g o c m:Nat) {T:TypeId} {cur:List Value} (hr:adM w g T cur) (aC:o+m * zs.length<=cur.length) :
 (Builtin.zeroCells zs.toArray m).toList.length=m * zs.length∧(Builtin.clear_ #[t] ty #[.slice (some ⟨g,o,none⟩) m c]).run Q w = .ok (.tuple #[]) (w.setRow g (splice cur o (Builtin.zeroCells zs.toArray m).toList).toArray):=by
 have hlen:(Builtin.zeroCells zs.toArray m).toList.length=m * zs.length:=by simp [Builtin.zeroCells]
 have aB:∀u∈(Builtin.zeroCells zs.toArray m).toList,u.oneCell'=true:=fun u hu=>by
  simp only [Builtin.zeroCells,Abn,Array.toList_map,Aal,Array.toList_range,Abx] at hu;obtain⟨k,hk,rfl⟩:=hu;have aJ:k % zs.length<zs.length:=Nat.mod_lt _ h0;have e:(zs.toArray)[k % zs.length]! = zs[k % zs.length]:=by simp [aJ]
  rw [e];exact h1 _ (Aaq aJ)
 have aN:=run_storeCells_at Q g o T (Builtin.zeroCells zs.toArray m).toList 0 cur.toArray w hr (by rw [hlen];simpa using aC) aB;refine⟨hlen,?_⟩;rw [abb];simp only [Nat.add_zero] at aN;cases m with
 | zero =>
   have e0:(Builtin.zeroCells zs.toArray 0).toList=[]:=by simp [Builtin.zeroCells]
   rw [e0,Ab4,Ab5,Nat.add_zero,List.take_append_drop,setRow_self w g cur.toArray T (0,0) hr];simp [Builtin.clear_,run_underlying ht]
 | succ m=>simp [Builtin.clear_,run_underlying ht,hv,hz,aN]
def atc(cs:List Value):Prop:=∃(o d:Int) (ar:Bool) (an:Int) (br:Bool) (bn yf:Int) (s:Option Addr) (m k:Nat),cs=[.int .i64 o,.int .i64 d,.bool ar,.int .i64 an,.bool br,.int .i64 bn,.int .i64 yf,.slice s m k]
def afF(P:List Value->Bool)(E:List (List Value)):List (List Value):=E.filter fun x=>!P x
structure afG (E xss:List (List Value))(P:List Value->Bool)(i j:Nat):Prop where
 len:xss.length=E.length
 front:xss.take i=afF P (E.take j)
 cnt:(afF P (E.take j)).length=i
 rest:xss.drop j=E.drop j
section
variable {E xss : List (List Value)} {P : List Value -> Bool} {i j : Nat}
theorem afG.le(h:afG E xss P i j):i<=j:=by
 have h1:=h.cnt;have h2:=Aci (fun x=>!P x) (E.take j);rw [Aar] at h2;unfold afF at h1;omega
theorem afG.at(h:afG E xss P i j)(_hj:j<E.length):xss[j]?=E[j]?:=by
 have h1:=congrArg (·[0]?) h.rest;simp only [List.getElem?_drop,Nat.add_zero] at h1;exact h1
theorem af9(_hj:j<E.length){x:List Value}(hx:E[j]?=some x):afF P (E.take (j+1))=afF P (E.take j)++if P x=true then [] else [x]:=by
 unfold afF;rw [Acb,hx,List.filter_append]
 congr 1
 cases h:P x <;> simp [h]
theorem afG.skip(h:afG E xss P i j)(hj:j<E.length){x:List Value}(hx:E[j]?=some x)(hP:P x=true):afG E xss P i (j+1):=by
 have e:=af9 (P:=P) hj hx;rw [if_pos hP,Ab4] at e;exact⟨h.len,by rw [e];exact h.front,by rw [e];exact h.cnt,by rw [<-List.drop_drop,<-List.drop_drop,h.rest]⟩
theorem afG.keep(h:afG E xss P i j)(hj:j<E.length){x:List Value}(hx:E[j]?=some x)(hP:P x=false):afG E (xss.set i x) P (i+1) (j+1):=by
 have bj:=h.le;have e:=af9 (P:=P) hj hx;rw [if_neg (by rw [hP];simp)] at e;have aH:i<xss.length:=by rw [h.len];omega
 refine⟨by rw [Aat];exact h.len,?_,by rw [e,Aau,h.cnt];rfl,?_⟩
 . rw [e,<-h.front,Acb,Aa6 aH,List.take_set,List.set_eq_of_length_le (by rw [Aar];omega)];rfl
 . rw [List.drop_set_of_lt (by omega),<-List.drop_drop,<-List.drop_drop,h.rest]
theorem afG.start(hE:E.findIdx? P=some i):afG E E P i (i+1):=by
 rw [Aco] at hE;obtain⟨hi,h1,h2⟩:=hE;have h3:afF P (E.take i)=E.take i:=by
  unfold afF;refine List.filter_eq_self.2 fun a ha=>?_;obtain⟨k,hk,rfl⟩:=Aav ha;rw [Aar] at hk;have:=h2 k (by omega);rw [List.getElem_take];simpa using this
 have e:=af9 (P:=P) hi (Aaa hi);rw [if_pos h1,Ab4,h3] at e;exact⟨rfl,by rw [e],by rw [e,Aar];omega,rfl⟩
end
theorem atd(w:World)(g:Nat){n c:Nat}(cs:Array Value):Kp (fun b=>(Value.slice (some ⟨g,0,none⟩) n c).ownBlock≠some b) w (w.setRow g cs) :=
 have h:=abG w g cs
 ⟨h.os,h.tape,h.output,h.size,fun b hb hf=>h.block b hb (fun e=>hf e.symm)⟩
end
section
open Go.RowKit Go.Shelf
attribute [local go_sem] Oper.semAt_some
def BackE(L:List (List Value)):Type:={ x:Nat×List Value // L[x.1]?=some x.2 }
def cellsOf {L:List (List Value)}(x:BackE L):List Value:=x.1.2
def aqg {L:List (List Value)}(x:BackE L):Array Value:=#[.int .i64 (x.1.1:Int),.agg x.1.2.toArray]
theorem afd {L:List (List Value)}(x:BackE L):cellsOf x∈L:=Aae x.2
def ar9(S:Nat->Prop)(W:World)(a:Option Addr)(E:List (List Value)):Prop:=∀(i:Nat) cs,E[i]?=some cs->∃b off,a=some ⟨b,off,none⟩∧S b∧cs.length=8∧aal W b (off+i * 8) cs
theorem aqh(F:Fence)(n:Nat)(h:F.fn 30)(aq:F.round=none)(a:Option Addr)(m c:Nat)(w:World) :
 CallsIn F n Tryz.prog 30 #[.slice a m c] w fun e w'=>e = .returned (.func (.func 66) #[] #[.pointer (some ⟨w.heap.size,0,none⟩)])∧w'=w.alloc (.cells #[.slice a m c] 39):=by
 refine callsIn_of_wp Tryz.func30 rfl h ?_ aq;simp only [Tryz.ntmps30,Abn,Aba,Ab5,Nat.reduceAdd,Nat.reduceSub,Ace,Acf,List.push_toArray,Acg,Abc,Ab6]
 gi_wp2
 go_ret;exact⟨rfl,rfl⟩
set_option maxRecDepth 100000 in
set_option maxHeartbeats 4000000 in
theorem aoe (F : Fence) (n : Nat) (h : F.fn 66) (aq : F.round = none) (hn : 1 <= n) (l Bs n₀ : Nat) (X : Nat -> Prop) (a : Option Addr) (c : Nat) (L : List (List Value)) (W0 : World)
 (hL:L.length<=1048576) (hb:ar9 (fun b=>b<n₀∧¬X b) W0 a L) (ay:Bs<n₀∧¬X Bs)
 (J Jx:List (BackE L)->World->Prop)
 (hY : ∀ pre x W1, J pre W1 -> pre.length < L.length -> YieldAt F (n - 1) Tryz.prog l (aqg x) W1 fun e W' =>
   (e = .returned (.bool true) ∧ J (pre ++ [x]) W' ∧ acQ n₀ X W1 W') ∨ (e = .returned (.bool false) ∧ Jx (pre ++ [x]) W'))
 (W:World) (hW:Below W0.heap.size W0 W) (aj:W.cell? ⟨Bs,0,none⟩=some (.slice a L.length c)) (h0:J [] W) :
 CallsIn F n Tryz.prog 66 #[.func (.yield l) #[] #[],.pointer (some ⟨Bs,0,none⟩)] W fun e W'=>(∃v,e = .returned v) ∧
  ((∃ys:List (BackE L),ys.map cellsOf=L.reverse∧J ys W')∨(∃pre:List (BackE L),pre.map cellsOf <+: L.reverse∧Jx pre W')):=by
 have Hb:=hid hb;have HY:=hid hY;have HW:=hid hW;have be:=hid aj;have zB:Bs<W.heap.size:=aac aj;clear hb hY hW;refine callsIn_of_wp Tryz.func66 rfl h ?_ aq;simp only [Tryz.ntmps66,Abn,Aba,Ab5,Nat.reduceAdd,Nat.reduceSub,Ace,Acf,List.push_toArray,Acg,Abc,Ab6]
 gi_wp2
 clear aj
 gi_loopw [3] (fun i wr=>∃(k:Nat) (pre:List (BackE L)),k<=L.length∧i = .int .i64 ((k:Int) - 1)∧pre.map cellsOf=(L.drop k).reverse∧J pre wr∧acQ n₀ X W wr) (fun i _=>(intOf i+1).toNat)
 case atStart=>exact⟨L.length,[],Aac _,rfl,by simp,h0,acQ.refl _ _ _⟩
 case round =>
  obtain⟨k,pre,hk,rfl,ai,hJ,aE⟩:=hrel;have af:=hid ai;have HJ:=hid hJ;have ae:=hid aE;have c0:=aE.cell be.out ay.1 ay.2;have z0:Bs<wr.heap.size:=aac c0;clear ai hJ aE;cases k with
  | zero =>
    have aY:Hid (pre.map cellsOf=L.reverse):=by show _=_;rw [af.out,List.drop_zero]
    have e0:((0:Nat):Int) - 1 = -1:=rfl;rw [e0];clear e0
    gi_wp2
    go_end0;exact⟨⟨_,rfl⟩,.inl ⟨pre,aY.out,HJ.out⟩⟩
  | succ k =>
    have ak:k<L.length:=hk;have e0:((k+1:Nat):Int) - 1=(k:Int):=by omega
    rw [e0];obtain⟨xb,bg,bd,ad,h8,ag⟩:=Hb.out k _ (Aaa ak);subst bd;obtain⟨y,hy⟩:∃y,y=L[k]:=⟨_,rfl⟩
    rw [<-hy] at h8 ag;obtain⟨a0,a1,a2,a3,a4,a5,a6,a7,aF⟩:=atb h8;rw [aF] at ag;obtain⟨aK,aI,aO,aM,aG,aQ,aS,aP⟩:=ag.get8;have d0:=ae.out.cell (aab aK HW.out) ad.1 ad.2;have d1:=ae.out.cell (aab aI HW.out) ad.1 ad.2;have d2:=ae.out.cell (aab aO HW.out) ad.1 ad.2;have d3:=ae.out.cell (aab aM HW.out) ad.1 ad.2;have d4:=ae.out.cell (aab aG HW.out) ad.1 ad.2;have d5:=ae.out.cell (aab aQ HW.out) ad.1 ad.2;have d6:=ae.out.cell (aab aS HW.out) ad.1 ad.2;have d7:=ae.out.cell (aab aP HW.out) ad.1 ad.2;have zx:xb<wr.heap.size:=aac d0;obtain⟨x,hx⟩:∃x:BackE L,x=⟨(k,y),by rw [hy];exact Aaa ak⟩:=⟨_,rfl⟩
    have au:aqg x=#[.int .i64 (k:Int),.agg #[a0,a1,a2,a3,a4,a5,a6,a7]]:=by rw [hx];exact congrArg (fun z:List Value=>#[Value.int .i64 (k:Int),Value.agg z.toArray]) aF
    have ah:cellsOf x=y:=by rw [hx];rfl
    have hlen:pre.length<L.length:=by
     have h:=congrArg List.length af.out;rw [Aah,Ach,List.length_drop] at h;omega
    obtain⟨fn,tmps,assign,body,a8,hR⟩:=HY.out pre x wr HJ.out hlen;rw [au] at a8;have aw:Hid ((pre++[x]).map cellsOf=(L.drop k).reverse):=by
     show _=_;rw [Aa8,af.out,List.drop_eq_getElem_cons ak,List.reverse_cons];show _++[cellsOf x]=_;rw [ah,hy]
    have bf:Hid ((L.drop k).reverse <+: L.reverse):=List.reverse_prefix.2 (List.drop_suffix k L);have HR:=hid hR;clear ag hx au ah hR aK aI aO aM aG aQ aS aP aF h8 hy hlen e0
    gi_wp2
    refine HR.out.mono ?_;rintro e W3 (⟨rfl,aR,aL⟩ | ⟨rfl,al⟩)
    . have aA:=hid aR
      have aZ:=hid (adx ae.out aL);clear aR aL
      gi_wp2
      go_roundw
      case rel=>exact⟨k,pre++[x],by omega,rfl,aw.out,aA.out,aZ.out⟩
      case measure=>simp [intOf]
    . have aA:=hid al
      clear al
      gi_wp2
      refine bodyPost_ret (results_none rfl _ _ _) rfl ?_;exact⟨⟨_,rfl⟩,.inr ⟨pre++[x],by rw [aw.out];exact bf.out,aA.out⟩⟩
theorem alo (F : Fence) (n : Nat) (h : F.fn 66) (aq : F.round = none) (hn : 1 <= n) (Bs n₀ : Nat) (X : Nat -> Prop) (a : Option Addr) (c : Nat) (L : List (List Value)) (W0 w : World)
 (hL:L.length<=1048576) (hb:ar9 (fun b=>b<n₀∧¬X b) W0 a L) (ay:Bs<n₀∧¬X Bs) (h0:Below W0.heap.size W0 w) (aj:w.cell? ⟨Bs,0,none⟩=some (.slice a L.length c)) :
 SeqStopsK F n Tryz.prog 66 #[.pointer (some ⟨Bs,0,none⟩)] (aqg (L:=L)) (acQ n₀ X) (fun ys=>ys.map cellsOf=L.reverse) (fun pre=>pre.map cellsOf <+: L.reverse) L.length w :=
 fun l J Jx W hW _ _ hY bh =>
  (aoe F n h aq hn l Bs n₀ X a c L W0 hL hb ay J Jx hY W (h0.trans (hW.mono h0.size)) (aab aj hW) bh).mono fun _ _ h=>h
end
end Go.Proofs.YtpeejlpcikefcaaGreatDoor
