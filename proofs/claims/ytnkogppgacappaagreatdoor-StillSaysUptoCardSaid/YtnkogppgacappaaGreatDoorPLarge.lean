/- tidy, plain: names are given by one table, the last one; what is asked stays. tidy, plain: a checked unit stays checked. tidy, plain: the unit. graph.Large of a function that is not too large. -/
import Derived.Test.YtnkogppgacappaaGreatDoorPDoOf
import Derived.Test.YtnkogppgacappaaGreatDoorPNm3
import Derived.Test.YtnkogppgacappaaGreatDoorPRename
import Derived.Test.YtnkogppgacappaaGreatDoorPSsa0
namespace Go.Proofs.YtnkogppgacappaaGreatDoor

structure Ext (s s':Nm):Prop where
 many:s.many≤s'.many
 at_:∀r:Nat,0≤s.now.getD r 0→s.now.length=s'.now.length→s'.now.getD r 0=s.now.getD r 0
 len:s'.now.length=s.now.length
theorem Ext.refl(s:Nm):Ext s s:=⟨Int.le_refl _,fun _ _ _=>rfl,rfl⟩
theorem Ext.trans {s s' s'':Nm}(h:Ext s s')(k:Ext s' s''):Ext s s'' :=
 ⟨Int.le_trans h.many k.many, fun r h0 _ => by
   have e := h.at_ r h0 h.len.symm
   rw [← e]
   exact k.at_ r (by rw [e]; exact h0) k.len.symm, k.len.trans h.len⟩
theorem ext_nmS {n:Nat}{s:Nm}(_h:NmOk n s)(r:Int):Ext s (nmS s r):=by
 unfold nmS
 by_cases h0:s.now.getD r.toNat 0<0
 · rw [if_pos h0]
   refine⟨by show s.many≤s.many+1;omega,fun q hq _=>?_,by simp⟩;show (s.now.set r.toNat s.many).getD q 0=_;rw [List.getD_eq_getElem?_getD,List.getD_eq_getElem?_getD,List.getElem?_set]
   by_cases e:r.toNat=q
   · subst e;omega
   · rw [if_neg e]
 · rw [if_neg h0];exact Ext.refl s
structure Stp (n:Nat)(f:Nm→Nm):Prop where
 ok:∀s,NmOk n s→NmOk n (f s)
 ext:∀s,NmOk n s→Ext s (f s)
theorem Stp.id(n:Nat):Stp n (fun s=>s):=⟨fun _ h=>h,fun s _=>Ext.refl s⟩
theorem Stp.comp {n:Nat}{f g:Nm→Nm}(h:Stp n f)(k:Stp n g):Stp n (fun s=>g (f s)):=⟨fun s hs=>k.ok _ (h.ok s hs),fun s hs=>(h.ext s hs).trans (k.ext _ (h.ok s hs))⟩
theorem Stp.fold {α : Type} {n : Nat} {f : Nm → α → Nm} : ∀ {l : List α}, (∀ x ∈ l, Stp n (fun s => f s x)) → Stp n (fun s => l.foldl f s)
 | [],_=>Stp.id n
 | x :: l,h=>(h x (List.mem_cons_self ..)).comp (Stp.fold (l:=l) fun y hy=>h y (List.mem_cons_of_mem _ hy))
theorem stp_nmS {n:Nat}{r:Int}(hr:0≤r∧r<n):Stp n (fun s=>nmS s r):=⟨fun _ h=>h.step hr,fun _ h=>ext_nmS h r⟩
theorem stp_valS {n:Nat}{v:DVal}(hv:InV n v):Stp n (fun s=>valS s v):=by
 unfold valS
 by_cases e:v.reg=true
 · simp only [if_pos e];exact stp_nmS (hv e)
 · simp only [if_neg e];exact Stp.id n
theorem stp_args {n:Nat}{l:List DVal}(hl:∀v∈l,InV n v):Stp n (fun s=>nmArgs s l):=Stp.fold fun v hv=>stp_valS (hl v hv)
theorem stp_dst {n:Nat}{d:Int}(hd:d<n):Stp n (fun s=>nmDst s d):=by
 unfold nmDst
 by_cases e:0≤d
 · simp only [if_pos e];exact stp_nmS ⟨e,hd⟩
 · simp only [if_neg e];exact Stp.id n
def InI(n:Nat)(y:DIns):Prop:=InV n y.a∧InV n y.b∧(∀v∈y.args,InV n v)∧y.dst<n
def InP(n:Nat)(p:DPhi):Prop:=(0≤p.dst∧p.dst<n)∧∀v∈p.src,InV n v
theorem stp_on {n:Nat}{y:DIns}(h:InI n y):Stp n (fun s=>argsOn s y):=(stp_valS h.1).comp (stp_valS h.2.1)
theorem stp_ins {n:Nat}{y:DIns}(h:InI n y):Stp n (fun s=>nmIns s y):=((stp_on h).comp (stp_args h.2.2.1)).comp (stp_dst h.2.2.2)
theorem stp_phiS {n:Nat}{p:DPhi}(h:InP n p):Stp n (fun s=>phiS s p):=(stp_nmS h.1).comp (stp_args h.2)
theorem stp_phis {n:Nat}{l:List DPhi}(h:∀p∈l,InP n p):Stp n (fun s=>l.foldl phiS s):=Stp.fold fun p hp=>stp_phiS (h p hp)
theorem stp_list {n:Nat}{l:List DIns}(h:∀y∈l,InI n y):Stp n (fun s=>l.foldl nmIns s):=Stp.fold fun y hy=>stp_ins (h y hy)
theorem stp_onOf {n:Nat}{x:DBlock}(h:RegIn n x):Stp n (fun s=>onOf s x):=(stp_phis (fun p hp=>h.phi p hp)).comp (stp_list fun y hy=>h.ins y hy)
theorem stp_B2 {n:Nat}{x:DBlock}(h:RegIn n x):Stp n (fun s=>nmB2 s x):=(stp_onOf h).comp (stp_valS h.on)
theorem stp_B1 {n:Nat}{x:DBlock}(h:RegIn n x):Stp n (fun s=>nmB1 s x) :=
 ((Stp.fold (f:=nmPhi) fun p hp=>stp_nmS (h.phi p hp).1).comp (stp_list fun y hy=>h.ins y hy)).comp (stp_valS h.on)
theorem stp_par {n p:Nat}(h:p≤n):Stp n (fun s=>nmPar s p):=Stp.fold (f:=fun s (r:Nat)=>nmS s (r:Int)) fun r hr=>stp_nmS (by have:=List.mem_range.1 hr;omega)

def rhoS(s:Nm)(r:Int):Int:=s.now.getD r.toNat 0
def renV(f:Int→Int)(v:DVal):DVal:=if v.reg then ⟨true,f v.n⟩ else v
def renD(f:Int→Int)(d:Int):Int:=if 0≤d then f d else d
def renPh(f:Int→Int)(p:DPhi):DPhi:=⟨f p.dst,p.src.map (renV f)⟩
def renI(f:Int→Int)(y:DIns):DIns:=⟨y.op,renD f y.dst,renV f y.a,renV f y.b,y.fn,y.args.map (renV f)⟩
def renK(f:Int→Int)(x:DBlock):DBlock:=⟨x.phis.map (renPh f),x.list.map (renI f),⟨x.fin.kind,renV f x.fin.on,x.fin.to⟩⟩
section
variable {n : Nat} {s sF : Nm}
theorem nmR_ext(hs:NmOk n s){r:Int}(hr:0≤r∧r<n)(he:Ext (nmS s r) sF):nmR s r=rhoS sF r∧0≤nmR s r∧nmR s r<sF.many:=by
 have h:=nmR_at hs hr;have hm:=he.many;refine⟨?_,h.1,by omega⟩;have h3:(nmS s r).now.getD r.toNat 0=nmR s r:=rfl;unfold rhoS;rw [he.at_ r.toNat (by rw [h3];exact h.1) he.len.symm,h3]
theorem valW_ext(hs:NmOk n s){v:DVal}(hv:InV n v)(he:Ext (valS s v) sF):valW s v=renV (rhoS sF) v∧InV sF.many.toNat (valW s v):=by
 unfold valS at he;unfold valW renV
 by_cases e:v.reg=true
 · rw [if_pos e] at he ⊢
   rw [if_pos e];have h:=nmR_ext hs (hv e) he;exact⟨by rw [h.1],fun _=>by show 0≤nmR s v.n∧nmR s v.n<_;omega⟩
 · rw [if_neg e,if_neg e]
   exact⟨rfl,fun h=>absurd h e⟩
theorem up_map {α:Type}(f:Nat→α→α)(g:α→α){l:List α}(h:∀i x,l[i]?=some x→f i x=g x):(l.mapIdx fun i x=>if i<l.length then f i x else x)=l.map g:=by
 apply List.ext_getElem?;intro i;rw [List.getElem?_mapIdx,List.getElem?_map];cases hx:l[i]? with
 | none=>rfl
 | some x =>
   have hi:=(List.getElem?_eq_some_iff.1 hx).1;simp only [Option.map_some,if_pos hi,h i x hx]
theorem take_fold {α:Type}{f:Nm→α→Nm}{l:List α}(h:∀x∈l,Stp n (fun s=>f s x))(hs:NmOk n s){i:Nat}{x:α}(hx:l[i]?=some x)(he:Ext (l.foldl f s) sF) :
 NmOk n ((l.take i).foldl f s)∧Ext (f ((l.take i).foldl f s) x) sF:=by
 have h1:=(Stp.fold (f:=f) (l:=l.take i) fun y hy=>h y (List.mem_of_mem_take hy)).ok s hs;refine⟨h1,?_⟩;have e:l=l.take (i+1)++l.drop (i+1):=(List.take_append_drop _ _).symm;rw [e,List.foldl_append,foldl_step f s hx] at he;have hok:=(h x (List.mem_of_getElem? hx)).ok _ h1;exact ((Stp.fold (f:=f) (l:=l.drop (i+1)) fun y hy=>h y (List.mem_of_mem_drop hy)).ext _ hok).trans he
theorem valsUp_ext(hs:NmOk n s){l:List DVal}(hl:∀v∈l,InV n v)(he:Ext (nmArgs s l) sF):valsUp s l l.length=l.map (renV (rhoS sF))∧∀v∈l,InV sF.many.toNat (renV (rhoS sF) v):=by
 have hat:∀(i:Nat) v,l[i]?=some v→valW (nmArgs s (l.take i)) v=renV (rhoS sF) v∧InV sF.many.toNat (valW (nmArgs s (l.take i)) v):=fun i v hv=>by
  obtain⟨h1,h2⟩:=take_fold (f:=valS) (fun v hv=>stp_valS (hl v hv)) hs hv he;exact valW_ext h1 (hl v (List.mem_of_getElem? hv)) h2
 refine⟨up_map _ _ fun i v hv=>(hat i v hv).1,fun v hv=>?_⟩;obtain⟨i,hi,rfl⟩:=List.getElem_of_mem hv;have h:=hat i _ (List.getElem?_eq_getElem hi);rw [←h.1];exact h.2
theorem phiW_ext(hs:NmOk n s){p:DPhi}(hp:InP n p)(he:Ext (phiS s p) sF):phiW s p=renPh (rhoS sF) p∧InP sF.many.toNat (renPh (rhoS sF) p):=by
 have h1:=(stp_nmS hp.1).ok s hs;obtain⟨h2,h3⟩:=valsUp_ext h1 hp.2 he;have h4:=nmR_ext hs hp.1 (((stp_args hp.2).ext _ h1).trans he);refine⟨?_,⟨?_,fun v hv=>?_⟩⟩
 · show DPhi.mk (nmR s p.dst) (valsUp _ _ _)=_
   rw [h2,h4.1];rfl
 · show 0≤rhoS sF p.dst∧rhoS sF p.dst<_;rw [←h4.1];omega
 · obtain⟨v0,h0,rfl⟩:=List.mem_map.1 (show v∈List.map _ _ from hv)
   exact h3 v0 h0
theorem insW_ext(hs:NmOk n s){y:DIns}(hy:InI n y)(he:Ext (nmIns s y) sF):insW s y=renI (rhoS sF) y∧InI sF.many.toNat (renI (rhoS sF) y)∧(0≤y.dst→0≤rhoS sF y.dst):=by
 obtain⟨ha,hb,hl,hd⟩:=hy;have k1:=(stp_valS ha).ok s hs;have k2:=(stp_valS hb).ok _ k1;have k3:=(stp_args hl).ok _ k2;have x3:Ext (nmArgs (valS (valS s y.a) y.b) y.args) sF:=((stp_dst hd).ext _ k3).trans he;have x2:=((stp_args hl).ext _ k2).trans x3;have x1:=((stp_valS hb).ext _ k1).trans x2;have ea:=valW_ext hs ha x1;have eb:=valW_ext k1 hb x2;obtain⟨el,el2⟩:=valsUp_ext k2 hl x3;have ed:dstW (nmArgs (argsOn s y) y.args) y.dst=renD (rhoS sF) y.dst∧renD (rhoS sF) y.dst<sF.many.toNat∧(0≤y.dst→0≤rhoS sF y.dst):=by
  unfold dstW renD
  by_cases e:0≤y.dst
  · rw [if_pos e,if_pos e]
    have h4 := nmR_ext k3 ⟨e, hd⟩ (sF := sF) (by
     have h5 : nmIns s y = nmS (nmArgs (valS (valS s y.a) y.b) y.args) y.dst := if_pos e
     rw [← h5]; exact he)
    have h6:nmR (nmArgs (argsOn s y) y.args) y.dst=rhoS sF y.dst:=h4.1;exact⟨h6,by rw [←h6];have:=h4.2;show nmR (nmArgs (valS (valS s y.a) y.b) y.args) y.dst<_;omega,fun _=>by rw [←h6];exact h4.2.1⟩
  · rw [if_neg e,if_neg e]
    exact⟨rfl,by omega,fun h=>absurd h e⟩
 refine⟨?_,⟨?_,?_,fun v hv=>?_,ed.2.1⟩,ed.2.2⟩
 · unfold insW renI
   rw [ea.1,eb.1,ed.1];show DIns.mk _ _ _ _ _ (valsUp (valS (valS s y.a) y.b) y.args y.args.length)=_;rw [el]
 · show InV _ (renV (rhoS sF) y.a);rw [←ea.1];exact ea.2
 · show InV _ (renV (rhoS sF) y.b);rw [←eb.1];exact eb.2
 · obtain⟨v0,h0,rfl⟩:=List.mem_map.1 (show v∈List.map _ _ from hv)
   exact el2 v0 h0
theorem blkW_ext(hs:NmOk n s){x:DBlock}(hx:RegIn n x)(he:Ext (nmB2 s x) sF):blkW s x=renK (rhoS sF) x∧RegIn sF.many.toNat (renK (rhoS sF) x)∧(∀y∈x.list,0≤y.dst→0≤rhoS sF y.dst):=by
 have k1:=(stp_phis (fun p hp=>hx.phi p hp)).ok s hs;have k2:=(stp_list (fun y hy=>hx.ins y hy)).ok _ k1;have x2:Ext (onOf s x) sF:=((stp_valS hx.on).ext _ k2).trans he;have x1:=((stp_list (fun y hy=>hx.ins y hy)).ext _ k1).trans x2;have hp:∀(i:Nat) p,x.phis[i]?=some p→phiW ((x.phis.take i).foldl phiS s) p=renPh (rhoS sF) p∧InP sF.many.toNat (renPh (rhoS sF) p):=fun i p hp=>by
  obtain⟨h1,h2⟩:=take_fold (f:=phiS) (fun p hp=>stp_phiS (hx.phi p hp)) hs hp x1;exact phiW_ext h1 (hx.phi p (List.mem_of_getElem? hp)) h2
 have hy:∀(i:Nat) y,x.list[i]?=some y→insW ((x.list.take i).foldl nmIns (x.phis.foldl phiS s)) y=renI (rhoS sF) y∧InI sF.many.toNat (renI (rhoS sF) y)∧(0≤y.dst→0≤rhoS sF y.dst):=fun i y hy=>by
  obtain⟨h1,h2⟩:=take_fold (f:=nmIns) (fun y hy=>stp_ins (hx.ins y hy)) k1 hy x2;exact insW_ext h1 (hx.ins y (List.mem_of_getElem? hy)) h2
 have ho:=valW_ext k2 hx.on he;refine⟨?_,⟨fun p hp2=>?_,fun y hy2=>?_,?_⟩,fun y hy2=>?_⟩
 · unfold blkW renK
   rw [show phisUp s x.phis x.phis.length=x.phis.map (renPh (rhoS sF)) from up_map _ _ fun i p h=>(hp i p h).1,show listUp (x.phis.foldl phiS s) x.list x.list.length=x.list.map (renI (rhoS sF)) from up_map _ _ fun i y h=>(hy i y h).1];rw [show valW (onOf s x) x.fin.on=renV (rhoS sF) x.fin.on from ho.1]
 · obtain⟨p0,h0,rfl⟩:=List.mem_map.1 (show p∈List.map _ _ from hp2)
   obtain⟨i,hi,rfl⟩:=List.getElem_of_mem h0;exact (hp i _ (List.getElem?_eq_getElem hi)).2
 · obtain⟨y0,h0,rfl⟩:=List.mem_map.1 (show y∈List.map _ _ from hy2)
   obtain⟨i,hi,rfl⟩:=List.getElem_of_mem h0;exact (hy i _ (List.getElem?_eq_getElem hi)).2.1
 · show InV _ (renV (rhoS sF) x.fin.on)
   rw [←ho.1];exact ho.2
 · obtain⟨i,hi,rfl⟩:=List.getElem_of_mem hy2
   exact (hy i _ (List.getElem?_eq_getElem hi)).2.2
end
def lastS(p n:Nat)(bs:List DBlock):Nm:=bs.foldl nmB2 (nmAll p n bs)
section
variable {p n : Nat} {bs : List DBlock}
theorem nmAll_ok(hp:p≤n)(hr:∀x∈bs,RegIn n x):NmOk n (nmAll p n bs):=(Stp.fold (f:=nmB1) fun x hx=>stp_B1 (hr x hx)).ok _ ((stp_par hp).ok _ (nm0_ok n))
theorem lastS_ok(hp:p≤n)(hr:∀x∈bs,RegIn n x):NmOk n (lastS p n bs):=(Stp.fold (f:=nmB2) fun x hx=>stp_B2 (hr x hx)).ok _ (nmAll_ok hp hr)
theorem namesB_ext(hp:p≤n)(hr:∀x∈bs,RegIn n x):namesB p n bs=bs.map (renK (rhoS (lastS p n bs)))∧(∀x∈bs,RegIn (lastS p n bs).many.toNat (renK (rhoS (lastS p n bs)) x))∧∀x∈bs,∀y∈x.list,0≤y.dst→0≤rhoS (lastS p n bs) y.dst:=by
 have hat:∀(i:Nat) x,bs[i]?=some x→blkW ((bs.take i).foldl nmB2 (nmAll p n bs)) x=renK (rhoS (lastS p n bs)) x∧RegIn (lastS p n bs).many.toNat (renK (rhoS (lastS p n bs)) x)∧(∀y∈x.list,0≤y.dst→0≤rhoS (lastS p n bs) y.dst):=fun i x hx=>by
  obtain⟨h1,h2⟩:=take_fold (f:=nmB2) (sF:=lastS p n bs) (fun x hx=>stp_B2 (hr x hx)) (nmAll_ok hp hr) hx (Ext.refl _);exact blkW_ext h1 (hr x (List.mem_of_getElem? hx)) h2
 have e:namesB p n bs=bs.map (renK (rhoS (lastS p n bs))):=up_map _ _ fun i x hx=>(hat i x hx).1;refine⟨e,fun x hx=>?_,fun x hx=>?_⟩
 all_goals
  obtain⟨i,hi,rfl⟩:=List.getElem_of_mem hx
 · exact (hat i _ (List.getElem?_eq_getElem hi)).2.1
 · exact (hat i _ (List.getElem?_eq_getElem hi)).2.2
theorem nmPar_many (hp : p ≤ n) : ∀ k, k ≤ p → (nmPar (nm0 n) k).many = (k : Int) ∧ ∀ r : Nat, k ≤ r → r < n → (nmPar (nm0 n) k).now.getD r 0 = -1
 | 0, _ => ⟨rfl, fun r _ hr => by
   show (List.replicate n (-1 : Int)).getD r 0 = -1
   rw [List.getD_eq_getElem?_getD, List.getElem?_replicate, if_pos hr]; rfl⟩
 | k+1,hk=>by
   obtain⟨h1,h2⟩:=nmPar_many hp k (by omega);rw [nmPar_succ];have h3:=h2 k (Nat.le_refl _) (by omega);unfold nmS;rw [Int.toNat_natCast,if_pos (by omega)];refine⟨by show (nmPar (nm0 n) k).many+1=_;omega,fun r hr hn=>?_⟩;show ((nmPar (nm0 n) k).now.set k _).getD r 0 = -1;rw [List.getD_eq_getElem?_getD,List.getElem?_set_ne (by omega),←List.getD_eq_getElem?_getD];exact h2 r (by omega) hn
theorem namesN_le(hp:p≤n)(hr:∀x∈bs,RegIn n x):(p:Int)≤namesN p n bs∧namesN p n bs≤n:=by
 have h1:=(nmPar_many hp p (Nat.le_refl _)).1;have k1:=(stp_par hp).ok _ (nm0_ok n);have e1:=((Stp.fold (f:=nmB1) fun x hx=>stp_B1 (hr x hx)).ext _ k1).many;have e2:=((Stp.fold (f:=nmB2) fun x hx=>stp_B2 (hr x hx)).ext _ (nmAll_ok hp hr)).many;have h3:=(lastS_ok hp hr).many_le.2;have e3:namesN p n bs=(lastS p n bs).many:=rfl;refine⟨?_,by rw [e3];exact h3⟩;rw [e3,←h1];exact Int.le_trans e1 e2
end

theorem I64_small {N:Nat}(hN:N≤1048576){x:Int}(h : -1≤x∧x<(N:Int)):I64 x:=by unfold I64;omega
theorem renV_i64 {N:Nat}(hN:N≤1048576){f:Int→Int}{v:DVal}(h:InV N (renV f v))(h0:I64 v.n):I64 (renV f v).n:=by
 unfold renV at *
 by_cases e:v.reg=true
 · rw [if_pos e] at h ⊢
   have:=h rfl;exact I64_small hN ⟨by omega,this.2⟩
 · rw [if_neg e];exact h0
theorem TdOk.ren {n N:Nat}{bs:List DBlock}(h:TdOk n bs)(hN:N≤1048576){f:Int→Int}(hr:∀x∈bs,RegIn N (renK f x))(hd:∀x∈bs,∀y∈x.list,0≤y.dst→0≤f y.dst):TdOk N (bs.map (renK f)):=by
 have hto:(bs.map (renK f)).map (·.fin.to)=bs.map (·.fin.to):=by rw [List.map_map];rfl
 have hbk:∀b,b<bs.length→blkOf (bs.map (renK f)) b=renK f (blkOf bs b):=fun b hb=>blkOf_at (by rw [List.getElem?_map,blkOf_self bs hb];rfl);have hmem:∀{x},x∈bs.map (renK f)→∃x0∈bs,x=renK f x0:=fun hx=>by
  obtain⟨x0,h0,rfl⟩:=List.mem_map.1 hx;exact⟨x0,h0,rfl⟩
 have hok:FunOk (bs.map (renK f)):=by
  refine⟨by rw [List.length_map];exact h.ok.len,fun x hx=>?_,fun x hx=>?_,fun x hx=>?_,fun x hx t ht=>?_,fun x hx=>?_,fun b hb q hq=>?_⟩
  · obtain⟨x0,h0,rfl⟩:=hmem hx
    have hn:=h.ok.num x0 h0;have hx2:=hr x0 h0;refine⟨hn.kind,renV_i64 hN hx2.on hn.on,hn.to,fun q hq=>?_,fun y hy=>?_⟩
    · obtain⟨q0,h1,rfl⟩:=List.mem_map.1 (show q∈List.map _ _ from hq)
      have hp:=hx2.phi (renPh f q0) hq;refine⟨I64_small hN ⟨by have:=hp.1.1;omega,hp.1.2⟩,fun v hv=>?_⟩;obtain⟨v0,h2,rfl⟩:=List.mem_map.1 (show v∈List.map _ _ from hv);exact renV_i64 hN (hp.2 _ hv) ((hn.phi q0 h1).2 v0 h2)
    · obtain⟨y0,h1,rfl⟩:=List.mem_map.1 (show y∈List.map _ _ from hy)
      have hp:=hx2.ins (renI f y0) hy;obtain⟨n1,n2,n3,n4,n5,n6⟩:=hn.ins y0 h1;refine⟨n1,?_,renV_i64 hN hp.1 n3,renV_i64 hN hp.2.1 n4,n5,fun v hv=>?_⟩
      · show I64 (renD f y0.dst)
        have hd2:=hp.2.2.2;unfold renD
        by_cases e:0≤y0.dst
        · rw [if_pos e]
          have e2:(renI f y0).dst=f y0.dst:=if_pos e;rw [e2] at hd2;exact I64_small hN ⟨by have:=hd x0 h0 y0 h1 e;omega,hd2⟩
        · rw [if_neg e];exact n2
      · obtain⟨v0,h2,rfl⟩:=List.mem_map.1 (show v∈List.map _ _ from hv)
        exact renV_i64 hN (hp.2.2.1 _ hv) (n6 v0 h2)
  · obtain⟨x0,h0,rfl⟩:=hmem hx
    have hs:=h.ok.small x0 h0;refine⟨by show (List.map _ _).length≤_;rw [List.length_map];exact hs.phis,by show (List.map _ _).length≤_;rw [List.length_map];exact hs.list,hs.to,fun q hq=>?_,fun y hy=>?_⟩
    · obtain⟨q0,h1,rfl⟩:=List.mem_map.1 (show q∈List.map _ _ from hq)
      show (List.map _ _).length≤_;rw [List.length_map];exact hs.src q0 h1
    · obtain⟨y0,h1,rfl⟩:=List.mem_map.1 (show y∈List.map _ _ from hy)
      show (List.map _ _).length≤_;rw [List.length_map];exact hs.args y0 h1
  · obtain⟨x0,h0,rfl⟩:=hmem hx
    exact h.ok.to2 x0 h0
  · obtain⟨x0,h0,rfl⟩:=hmem hx
    rw [List.length_map];exact h.ok.toIn x0 h0 t ht
  · obtain⟨x0,h0,rfl⟩:=hmem hx
    exact h.ok.toNd x0 h0
  · rw [List.length_map] at hb
    rw [hbk b hb] at hq;obtain⟨q0,h1,rfl⟩:=List.mem_map.1 (show q∈List.map _ _ from hq);rw [predsOf_tos _ _ 0 b hto];show (List.map _ _).length=_;rw [List.length_map];exact h.ok.src b hb q0 h1
 refine⟨hok,toOk_of hok (by rw [List.length_map];exact h.tok.pos),fun x hx hj=>?_,?_,fun x hx=>?_⟩
 · obtain⟨x0,h0,rfl⟩:=hmem hx
   exact h.jump x0 h0 hj
 · rw [List.map_map,show ((fun x:DBlock=>x.list.length) ∘ renK f)=fun x:DBlock=>x.list.length by funext x;show (List.map _ _).length=_;rw [List.length_map]]
   exact h.sum
 · obtain⟨x0,h0,rfl⟩:=hmem hx
   exact hr x0 h0
theorem TdOk.names {p n:Nat}{bs:List DBlock}(h:TdOk n bs)(hp:p≤n)(hn:n≤1048576):TdOk (namesN p n bs).toNat (namesB p n bs):=by
 obtain⟨e,h1,h2⟩:=namesB_ext hp h.reg;have hN:=namesN_le hp h.reg;rw [e];exact h.ren (by omega) h1 h2

end Go.Proofs.YtnkogppgacappaaGreatDoor

namespace Go.Proofs.YtnkogppgacappaaGreatDoor

structure InsF (fs:List DFunc)(y:DIns):Prop where
 op:1≤y.op∧y.op≤22
 form:formBad y=false
 dst:shpD y.op=true→¬(y.op=20∧y.dst = -1)→0≤y.dst
 call:y.op=20→(0≤y.fn∧y.fn≤(fs.length:Int) - 1)∧(y.args.length:Int)=(fs.getD y.fn.toNat ⟨ByteArray.empty,0,0,[]⟩).params
structure CkOk (fs:List DFunc)(bs:List DBlock):Prop where
 kind:∀x∈bs,(1≤x.fin.kind∧x.fin.kind≤3)∧(x.fin.to.length:Int)=x.fin.kind - 1∧(∀t∈x.fin.to,1≤t)∧(x.fin.kind=2→x.fin.on=⟨false,0⟩)
 phi0:(blkOf bs 0).phis=[]
 ins:∀x∈bs,∀y∈x.list,InsF fs y
 len:bs.length≤40
 many:manyOf bs≤300
theorem valE_in {n:Nat}{v:DVal}:valE (n:Int) v=0↔InV n v:=by
 unfold valE InV;constructor
 · intro h hr
   by_cases h1:v.reg=true∧¬(0≤v.n∧v.n≤(n:Int) - 1)
   · rw [if_pos h1] at h;omega
   · have:¬¬(0≤v.n∧v.n≤(n:Int) - 1):=fun h3=>h1 ⟨hr,h3⟩
     omega
 · intro h
   rw [if_neg];rintro⟨h1,h2⟩;have:=h h1;omega
theorem insE_of {fs:List DFunc}{n:Nat}{y:DIns}(h:InsF fs y)(hr:InI n y):insE fs (n:Int) y=0:=by
 unfold insE;rw [if_neg (by have:=h.op;omega),if_neg (by rw [h.form];simp)];rw [if_neg]
 · unfold firstE
   rw [valE_in.2 hr.1,valE_in.2 hr.2.1,if_neg (by omega),if_neg (by omega)];unfold callE
   by_cases e:y.op=20
   · rw [if_neg (by omega)]
     have hc:=h.call e;rw [if_neg (by omega),if_neg (by omega)];exact argsE_iff.2 fun v hv=>valE_in.2 (hr.2.2.1 v hv)
   · rw [if_pos e]
 · rintro⟨⟨h1,h2⟩,h3⟩
   apply h3;unfold dstE;have:=h.dst h1 h2;have:=hr.2.2.2;rw [if_neg (by omega)]
theorem insF_of {fs:List DFunc}{n:Nat}{y:DIns}(h:insE fs (n:Int) y=0):InsF fs y∧InI n y:=by
 unfold insE at h
 by_cases h1:¬(1≤y.op∧y.op≤22)
 · rw [if_pos h1] at h;omega
 rw [if_neg h1] at h
 by_cases h2:formBad y=true
 · rw [if_pos h2] at h;omega
 rw [if_neg h2] at h
 by_cases h3:(shpD y.op=true∧¬(y.op=20∧y.dst = -1))∧dstE n y.dst≠0
 · rw [if_pos h3] at h;omega
 rw [if_neg h3] at h;unfold firstE at h
 by_cases a1:valE n y.a≠0
 · rw [if_pos a1] at h;exact absurd h a1
 rw [if_neg a1] at h
 by_cases a2:valE n y.b≠0
 · rw [if_pos a2] at h;exact absurd h a2
 rw [if_neg a2] at h;have hf:formBad y=false:=by simpa using h2
 have hd:shpD y.op=true→¬(y.op=20∧y.dst = -1)→0≤y.dst∧y.dst<n:=fun g1 g2=>by
  by_cases hz:dstE n y.dst=0
  · exact dstE_ok hz
  · exact absurd ⟨⟨g1,g2⟩,hz⟩ h3
 have hf2:=hf;unfold formBad at hf2;simp only [Bool.or_eq_false_iff,Bool.and_eq_false_iff,decide_eq_false_iff_not,Bool.not_eq_false'] at hf2;obtain⟨⟨⟨g1,-⟩,-⟩,g4⟩:=hf2;have hdn:y.dst<n:=by
  rcases g1 with g1 | g1
  · by_cases e:y.op=20∧y.dst = -1
    · omega
    · exact (hd g1 e).2
  · have e:y.dst = -1:=Classical.not_not.1 g1
    omega
 have hcall:y.op=20→(0≤y.fn∧y.fn≤(fs.length:Int) - 1)∧(y.args.length:Int)=(fs.getD y.fn.toNat ⟨ByteArray.empty,0,0,[]⟩).params∧∀v∈y.args,InV n v:=fun e=>by
  unfold callE at h;rw [if_neg (by omega)] at h
  by_cases b1:¬(0≤y.fn∧y.fn≤(fs.length:Int) - 1)
  · rw [if_pos b1] at h;omega
  rw [if_neg b1] at h
  by_cases b2:(y.args.length:Int)≠(fs.getD y.fn.toNat ⟨ByteArray.empty,0,0,[]⟩).params
  · rw [if_pos b2] at h;omega
  rw [if_neg b2] at h;exact⟨by omega,by omega,fun v hv=>valE_in.1 (argsE_iff.1 h v hv)⟩
 refine⟨⟨by omega,hf,fun a b=>(hd a b).1,fun e=>⟨(hcall e).1,(hcall e).2.1⟩⟩,valE_in.1 (by omega),valE_in.1 (by omega),fun v hv=>?_,hdn⟩
 by_cases e:y.op=20
 · exact (hcall e).2.2 v hv
 · rcases g4 with g4 | g4
   · exact absurd e g4
   · have h0:y.args.length=0:=by
      have:=g4.2;omega
     rw [List.eq_nil_of_length_eq_zero h0] at hv;cases hv
section
variable {fs : List DFunc} {n : Nat} {bs : List DBlock}
theorem body_of(h:TdOk n bs)(hc:CkOk fs bs)(nm:ByteArray)(p:Int):bodyE fs ⟨nm,p,(n:Int),bs⟩=0:=by
 refine bodyE_zero.2 ⟨fun k hk=>?_,fun k hk=>?_⟩
 · have hk':k<bs.length:=hk
   have hm:=blkOf_mem hk';obtain⟨k1,k2,k3,k4⟩:=hc.kind _ hm;unfold endsE;show (match bs[k]? with | some b=>endE bs.length (n:Int) b.fin | none=>0)=0;rw [blkOf_self bs hk'];refine endE_iff.2 ⟨k1,k2,fun t ht=>⟨k3 t ht,by have:=h.ok.toIn _ hm t ht;omega⟩,?_,valE_in.2 (h.reg _ hm).on⟩;rintro (⟨e1,e2⟩ | ⟨e1,e2⟩)
   · have hn:=h.ok.toNd _ hm
     have hl:(blkOf bs k).fin.to.length=2:=by omega
     match hh:(blkOf bs k).fin.to,hl with
     | [a,b],_ =>
       rw [hh] at hn e2;have e3:a=b:=e2;rw [e3] at hn;exact absurd (List.mem_singleton.2 rfl) (List.nodup_cons.1 hn).1
   · exact e2 (k4 e1)
 · have hk':k<bs.length:=hk
   have hm:=blkOf_mem hk';refine (blockE_zero (blkOf_self bs hk')).2 ⟨fun p hp=>?_,fun y hy=>insE_of (hc.ins _ hm y hy) ((h.reg _ hm).ins y hy)⟩;refine phiE_iff.2 ⟨fun e=>?_,?_,?_,argsE_iff.2 fun v hv=>valE_in.2 (((h.reg _ hm).phi p hp).2 v hv)⟩
   · subst e
     rw [hc.phi0] at hp;cases hp
   · have:=((h.reg _ hm).phi p hp).1
     unfold dstE;rw [if_neg (by show ¬¬(0≤p.dst∧p.dst≤(n:Int) - 1);omega)]
   · show p.src.length=((aheadF bs).getD k []).length
     rw [aheadF_getD hk'];exact h.ok.src k hk' p hp
theorem of_body {f:DFunc}(hnum:∀x∈f.blocks,NumB x)(hr:f.regs=(n:Int))(hb:bodyE fs f=0)(h1:1≤f.blocks.length)(h2:f.blocks.length≤40)(hm:manyOf f.blocks≤300)(hargs:∀x∈f.blocks,∀y∈x.list,y.args.length≤1048576):TdOk n f.blocks∧CkOk fs f.blocks:=by
 obtain⟨e1,e2⟩:=bodyE_zero.1 hb;have he:∀k,k<f.blocks.length→_:=fun k hk=>by
  have h:=e1 k hk;unfold endsE at h;rw [blkOf_self f.blocks hk,hr] at h;exact endE_iff.1 h
 have hbk:∀k,k<f.blocks.length→_:=fun k hk=>(blockE_zero (blkOf_self f.blocks hk)).1 (by have h:=e2 k hk;rw [hr] at h;exact h);have hall:∀x∈f.blocks,∃k,k<f.blocks.length∧x=blkOf f.blocks k:=fun x hx=>mem_blkOf hx;have hph:∀k,k<f.blocks.length→∀p∈(blkOf f.blocks k).phis,k≠0∧InP n p∧p.src.length=(predsOf f.blocks 0 k).length:=fun k hk p hp=>by
  obtain⟨a1,a2,a3,a4⟩:=phiE_iff.1 ((hbk k hk).1 p hp);rw [aheadF_getD hk] at a3;exact⟨a1,⟨dstE_ok a2,fun v hv=>valE_in.1 (argsE_iff.1 a4 v hv)⟩,a3⟩
 have hto2:∀x∈f.blocks,x.fin.to.length≤2:=fun x hx=>by
  obtain⟨k,hk,rfl⟩:=hall x hx;have:=he k hk;omega
 have hok:FunOk f.blocks:=by
  refine⟨by omega,hnum,fun x hx=>?_,hto2,fun x hx t ht=>?_,fun x hx=>?_,fun k hk p hp=>(hph k hk p hp).2.2⟩
  · have:=manyOf_mem hx
    refine⟨by omega,by omega,by have:=hto2 x hx;omega,fun p hp=>?_,hargs x hx⟩;obtain⟨k,hk,rfl⟩:=hall x hx;rw [(hph k hk p hp).2.2];have:=predsOf_len k f.blocks 0 hto2;omega
  · obtain⟨k,hk,rfl⟩:=hall x hx
    have:=(he k hk).2.2.1 t ht;omega
  · obtain⟨k,hk,rfl⟩:=hall x hx
    obtain⟨g1,g2,g3,g4,-⟩:=he k hk
    match hh:(blkOf f.blocks k).fin.to with
    | []=>simp
    | [a]=>simp
    | [a,b] =>
      rw [hh] at g2 g4;have hk3:(blkOf f.blocks k).fin.kind=3:=by simp at g2;omega
      have:¬a=b:=fun e=>g4 (.inl ⟨hk3,e⟩);simp [this]
    | a :: b :: c :: l=>rw [hh] at g2;simp at g2;omega
 refine⟨⟨hok,toOk_of hok (by omega),fun x hx hj=>?_,?_,fun x hx=>?_⟩,⟨fun x hx=>?_,?_,fun x hx y hy=>?_,h2,hm⟩⟩
 · obtain⟨k,hk,rfl⟩:=hall x hx
   have:=he k hk;omega
 · have:(f.blocks.map fun x=>x.list.length).sum≤manyOf f.blocks:=by
    unfold manyOf;generalize f.blocks=l
    induction l with
    | nil=>exact Nat.le_refl _
    | cons a l ih=>simp only [List.map_cons,List.sum_cons];omega
   omega
 · obtain⟨k,hk,rfl⟩:=hall x hx
   exact⟨fun p hp=>(hph k hk p hp).2.1,fun y hy=>(insF_of ((hbk k hk).2 y hy)).2,valE_in.1 (he k hk).2.2.2.2⟩
 · obtain⟨k,hk,rfl⟩:=hall x hx
   obtain⟨g1,g2,g3,g4,-⟩:=he k hk;exact⟨g1,g2,fun t ht=>(g3 t ht).1,fun e=>Classical.not_not.1 fun h=>g4 (.inr ⟨e,h⟩)⟩
 · cases hp:(blkOf f.blocks 0).phis with
   | nil=>rfl
   | cons p l=>exact absurd rfl (hph 0 (by omega) p (by rw [hp];exact List.mem_cons_self ..)).1
 · obtain⟨k,hk,rfl⟩:=hall x hx
   exact (insF_of ((hbk k hk).2 y hy)).1

theorem CkOk.keep(h:TdOk n bs)(hc:CkOk fs bs):CkOk fs (keepF bs (ordL bs)):=by
 have ho:=ordL_ok h.tok;have hin:∀b∈ordL bs,b.toNat<bs.length:=fun b hb=>by have:=ho.inn b hb;omega
 refine⟨fun x hx=>?_,?_,fun x hx y hy=>?_,?_,?_⟩
 · obtain⟨b,hb,rfl⟩:=keepF_mem hx
   obtain⟨k1,k2,k3,k4⟩:=hc.kind _ (blkOf_mem (hin b hb));refine⟨k1,by show ((List.map _ _).length:Int)=_;rw [List.length_map];exact k2,fun t ht=>?_,k4⟩;obtain⟨t0,h0,rfl⟩:=List.mem_map.1 (show t∈List.map _ _ from ht);obtain⟨i,h1,h2,-⟩:=keep_to ho hb h0;have:=k3 t0 h0;rw [h2]
   by_cases e:i=0
   · subst e
     rw [ho.head] at h1;have:=Option.some.inj h1;omega
   · omega
 · rw [keepF_at2 ho.head]
   show List.map _ (blkOf bs 0).phis=[];rw [hc.phi0];rfl
 · obtain⟨b,hb,rfl⟩:=keepF_mem hx
   exact hc.ins _ (blkOf_mem (hin b hb)) y hy
 · rw [keepF_len]
   exact Nat.le_trans (ord_len ho) hc.len
 · exact Nat.le_trans (keep_sum (fun b=>b.phis.length+b.list.length) (fun _ _ _=>by show (List.map _ _).length+_=_;rw [List.length_map];rfl) ho) hc.many
theorem many_merge {b:Nat}(hok:ChOk bs)(hb:b<bs.length)(h:mayM bs b=true):manyOf (mergeF bs b)=manyOf bs:=by
 obtain⟨h1,h2,h3,-,h5,-⟩:=mayM_facts hok hb h;have hbr:b<(renA bs (toJ bs b) b).length:=by rw [renA_len];exact hb
 have htr:toJ bs b<((renA bs (toJ bs b) b).set b (mrgB bs (toJ bs b) b)).length:=by rw [List.length_set,renA_len];exact h5
 have hr:(renA bs (toJ bs b) b).map (fun x=>x.phis.length+x.list.length)=bs.map (fun x=>x.phis.length+x.list.length):=by
  apply List.ext_getElem?;intro i;rw [List.getElem?_map,List.getElem?_map]
  by_cases hi:i<bs.length
  · rw [blkOf_self bs hi,blkOf_self (renA bs (toJ bs b) b) (by rw [renA_len];exact hi),Option.map_some,Option.map_some,(renA_fin hok.ok h5 i).2.1,(renA_fin hok.ok h5 i).2.2]
  · rw [List.getElem?_eq_none (by rw [renA_len];omega),List.getElem?_eq_none (by omega)]
 have s1:=sum_map_set (fun x:DBlock=>x.phis.length+x.list.length) (renA bs (toJ bs b) b) b (mrgB bs (toJ bs b) b) hbr;have s2:=sum_map_set (fun x:DBlock=>x.phis.length+x.list.length) ((renA bs (toJ bs b) b).set b (mrgB bs (toJ bs b) b)) (toJ bs b) emptyB htr;rw [blkOf_get hbr,(renA_fin hok.ok h5 b).2.1,(renA_fin hok.ok h5 b).2.2,hr] at s1;rw [blkOf_get htr,blkOf_set hbr,if_neg h2,(renA_fin hok.ok h5 _).2.1,(renA_fin hok.ok h5 _).2.2,h3] at s2;have s3:(mrgB bs (toJ bs b) b).list.length=(blkOf bs b).list.length+(blkOf bs (toJ bs b)).list.length:=by simp [mrgB]
 have s5:(mrgB bs (toJ bs b) b).phis.length=(blkOf bs b).phis.length:=by
  show (blkOf (renA bs (toJ bs b) b) b).phis.length=_;rw [(renA_fin hok.ok h5 b).2.2]
 have s4:emptyB.phis.length+emptyB.list.length=0:=rfl;have s6:([]:List DPhi).length=0:=rfl;unfold manyOf mergeF;omega
theorem CkOk.merge {b:Nat}(hok:ChOk bs)(hb:b<bs.length)(h:mayM bs b=true)(hc:CkOk fs bs):CkOk fs (mergeF bs b):=by
 obtain⟨h1,h2,h3,h4,h5,h6⟩:=mayM_facts hok hb h;refine⟨fun x hx=>?_,?_,fun x hx y hy=>?_,by rw [mergeF_len];exact hc.len,by rw [many_merge hok hb h];exact hc.many⟩
 · obtain⟨c,hcl,rfl⟩:=mem_blkOf hx
   rw [mergeF_len] at hcl;rcases merge_cases hb h5 c with⟨-,e⟩ | ⟨-,rfl,e⟩ | ⟨-,-,e⟩
   · rw [e]
     refine⟨⟨by decide,by decide⟩,by decide,fun t ht=>?_,fun h=>?_⟩
     · cases ht
     · exact absurd h (by decide)
   · rw [e];exact hc.kind (blkOf bs (toJ bs c)) (blkOf_mem h5)
   · rw [e,(renA_fin hok.ok h5 c).1];exact hc.kind _ (blkOf_mem hcl)
 · have hlen:(blkOf (renA bs (toJ bs b) b) 0).phis.length=0:=by rw [(renA_fin hok.ok h5 0).2.2,hc.phi0];rfl
   rcases merge_cases hb h5 0 with⟨-,e⟩ | ⟨-,e0,e⟩ | ⟨-,-,e⟩
   · rw [e];rfl
   · subst e0
     rw [e];exact List.eq_nil_of_length_eq_zero hlen
   · rw [e];exact List.eq_nil_of_length_eq_zero hlen
 · obtain⟨c,hcl,rfl⟩:=mem_blkOf hx
   rw [mergeF_len] at hcl;rcases merge_cases hb h5 c with⟨-,e⟩ | ⟨-,rfl,e⟩ | ⟨-,-,e⟩
   · rw [e] at hy;cases hy
   · rw [e] at hy
     rcases List.mem_append.1 (show y∈_++_ from hy) with hy | hy
     · exact hc.ins _ (blkOf_mem hcl) y hy
     · exact hc.ins _ (blkOf_mem h5) y hy
   · rw [e,(renA_fin hok.ok h5 c).2.1] at hy;exact hc.ins _ (blkOf_mem hcl) y hy
theorem CkOk.chains(h:TdOk n bs)(hc:CkOk fs bs):CkOk fs (chainsF bs) :=
 chainsTo_keeps (P:=CkOk fs) (fun _bs _b hok hb hm h=>CkOk.merge hok hb hm h) h.ch hc _ (Nat.le_refl _)
theorem renV_const {f:Int→Int}{v:DVal}(h:v=⟨false,0⟩):renV f v=⟨false,0⟩:=by subst h;rfl
theorem CkOk.ren {f:Int→Int}(hc:CkOk fs bs)(hd:∀x∈bs,∀y∈x.list,0≤y.dst→0≤f y.dst):CkOk fs (bs.map (renK f)):=by
 refine⟨fun x hx=>?_,?_,fun x hx y hy=>?_,by rw [List.length_map];exact hc.len,?_⟩
 · obtain⟨x0,h0,rfl⟩:=List.mem_map.1 hx
   obtain⟨k1,k2,k3,k4⟩:=hc.kind x0 h0;exact⟨k1,k2,k3,fun e=>renV_const (k4 e)⟩
 · have h0:=hc.phi0
   cases bs with
   | nil=>rfl
   | cons x l=>show List.map _ x.phis=[];rw [show x.phis=[] from h0];rfl
 · obtain⟨x0,h0,rfl⟩:=List.mem_map.1 hx
   obtain⟨y0,h1,rfl⟩:=List.mem_map.1 (show y∈List.map _ _ from hy);have hi:=hc.ins x0 h0 y0 h1;have hdn:=hd x0 h0 y0 h1;have hfb:=hi.form;unfold formBad at hfb;simp only [Bool.or_eq_false_iff,Bool.and_eq_false_iff,decide_eq_false_iff_not,Bool.not_eq_false'] at hfb;obtain⟨⟨⟨g1,g2⟩,g3⟩,g4⟩:=hfb;have hds:y0.dst = -1→(renI f y0).dst = -1:=fun e=>by
    show renD f y0.dst = -1;unfold renD;rw [if_neg (by omega)];exact e
   refine⟨hi.op,?_,fun a b=>?_,fun e=>?_⟩
   · unfold formBad
     simp only [Bool.or_eq_false_iff,Bool.and_eq_false_iff,decide_eq_false_iff_not,Bool.not_eq_false'];refine⟨⟨⟨?_,?_⟩,?_⟩,?_⟩
     · rcases g1 with g | g
       · exact .inl g
       · exact .inr fun h=>h (hds (Classical.not_not.1 g))
     · rcases g2 with g | g
       · exact .inl g
       · exact .inr fun h=>h (renV_const (Classical.not_not.1 g))
     · rcases g3 with g | g
       · exact .inl g
       · exact .inr fun h=>h (renV_const (Classical.not_not.1 g))
     · rcases g4 with g | g
       · exact .inl g
       · refine .inr ⟨g.1,?_⟩
         show ¬0<(List.map _ _).length;rw [List.length_map];exact g.2
   · show 0≤renD f y0.dst
     have h2:=hi.dst a fun⟨e1,e2⟩=>b ⟨e1,hds e2⟩;unfold renD;rw [if_pos h2];exact hdn h2
   · have hcl:=hi.call e
     refine⟨hcl.1,?_⟩;show ((List.map _ _).length:Int)=_;rw [List.length_map];exact hcl.2
 · have hm:=hc.many
   unfold manyOf at hm ⊢;rw [List.map_map,show ((fun b:DBlock=>b.phis.length+b.list.length) ∘ renK f)=fun b:DBlock=>b.phis.length+b.list.length by funext x;show (List.map _ _).length+(List.map _ _).length=_;rw [List.length_map,List.length_map]];exact hm
theorem CkOk.do {p:Nat}(h:TdOk n bs)(hc:CkOk fs bs)(hp:p≤n):CkOk fs (doB p n bs):=by
 have h1:=CkOk.keep h hc;have h2:CkOk fs (preB bs):=CkOk.chains h.keep h1;have h3:CkOk fs (keptB bs):=CkOk.keep h.pre h2;obtain⟨e,-,e2⟩:=namesB_ext hp h.kept.reg;unfold doB;rw [e];exact h3.ren e2
end

end Go.Proofs.YtnkogppgacappaaGreatDoor

namespace Go.Proofs.YtnkogppgacappaaGreatDoor

def tidyFn(f:DFunc):DFunc:=⟨f.name,f.params,doN f.params.toNat f.regs.toNat f.blocks,doB f.params.toNat f.regs.toNat f.blocks⟩
def tidyU(u:DUnit):DUnit:=⟨u.globals,u.funcs.map tidyFn⟩
def NumU(u:DUnit):Prop:=∀f∈u.funcs,∀x∈f.blocks,NumB x

theorem insF_alike {fs fs':List DFunc}(h:Alike' fs fs'){y:DIns}(hi:InsF fs y):InsF fs' y:=by
 refine⟨hi.op,hi.form,hi.dst,fun e=>?_⟩;obtain⟨h1,h2⟩:=hi.call e;refine⟨by rw [h.len];exact h1,?_⟩;have hk:y.fn.toNat<fs.length:=by omega
 obtain⟨f',e1,-,e3⟩:=h.at_ _ _ (List.getElem?_eq_getElem hk);rw [List.getD_eq_getElem?_getD,e1,Option.getD_some,e3];rw [List.getD_eq_getElem?_getD,List.getElem?_eq_getElem hk,Option.getD_some] at h2;exact h2
theorem ckOk_alike {fs fs':List DFunc}(h:Alike' fs fs'){bs:List DBlock}(hc:CkOk fs bs):CkOk fs' bs:=⟨hc.kind,hc.phi0,fun x hx y hy=>insF_alike h (hc.ins x hx y hy),hc.len,hc.many⟩
theorem checkF_like {gs : List DGlobal} {fs fs' : List DFunc} (h : checkF ⟨gs, fs⟩ = (0, 0)) (hl : fs'.length = fs.length)
 (ht:∀(k:Nat) (f:DFunc),fs[k]?=some f→∃(n:Nat) (bs:List DBlock),fs'[k]?=some ⟨f.name,f.params,(n:Int),bs⟩∧TdOk n bs∧CkOk fs bs∧f.params≤n∧n≤100∧1≤bs.length):checkF ⟨gs,fs'⟩=(0,0):=by
 have hal:Alike' fs fs':=⟨hl,fun k f hf=>by obtain⟨n,bs,h1,-⟩:=ht k f hf;exact⟨_,h1,rfl,rfl⟩⟩
 obtain⟨h1,h2,h3,h4,h5⟩:=checkF_ok (by rw [h]);have hnames:∀k,(fs'.take k).map (·.name)=(fs.take k).map (·.name):=fun k=>by
  refine List.ext_getElem? fun i=>?_;rw [List.getElem?_map,List.getElem?_map,List.getElem?_take,List.getElem?_take]
  by_cases hik:i<k
  · rw [if_pos hik,if_pos hik]
    cases hf:fs[i]? with
    | none =>
      have:fs'[i]?=none:=by rw [List.getElem?_eq_none_iff] at hf ⊢;omega
      rw [this]
    | some f =>
      obtain⟨f',h1,h2,-⟩:=hal.at_ i f hf;rw [h1,Option.map_some,Option.map_some,h2]
  · rw [if_neg hik,if_neg hik]
 have hheads:∀k,headsE gs fs' k=0:=fun k=>by
  have h6:=h4 k;unfold headsE fNames at h6 ⊢;rw [hnames];cases hf:fs[k]? with
  | none =>
    have:fs'[k]?=none:=by rw [List.getElem?_eq_none_iff] at hf ⊢;omega
    rw [this]
  | some f =>
    obtain⟨n,bs,e1,htd,hck,hp,hn,h1b⟩:=ht k f hf;rw [hf] at h6;rw [e1];obtain⟨q1,q2,q3,q4,-,-,-,-,-⟩:=headE_ok h6;show headE _ ⟨f.name,f.params,(n:Int),bs⟩=0;unfold headE;rw [if_neg (by rw [q1];simp),if_neg (by simp only [Bool.not_eq_true];exact q2),if_neg (by show ¬(¬(0≤f.params∧f.params≤6)∨¬(f.params≤(n:Int)∧(n:Int)≤100));omega),if_neg];have:=hck.len;have:=hck.many;show ¬(¬(1≤bs.length∧bs.length≤40)∨300<manyOf bs);omega
 have hbody:∀k,bodiesE fs' k=0:=fun k=>by
  unfold bodiesE;cases hf:fs[k]? with
  | none =>
    have:fs'[k]?=none:=by rw [List.getElem?_eq_none_iff] at hf ⊢;omega
    rw [this]
  | some f =>
    obtain⟨n,bs,e1,htd,hck,-⟩:=ht k f hf;rw [e1];exact body_of htd (ckOk_alike hal hck) _ _
 have hmain:idxMain fs'=idxMain fs:=by
  unfold idxMain;have:fs'.findIdx? isMain=fs.findIdx? isMain:=by
   have e1:∀l:List DFunc,l.findIdx? isMain=(l.map (·.name)).findIdx? (fun s=>s.toList == [109,97,105,110]):=fun l=>by
    rw [List.findIdx?_map];rfl
   have e2:=hnames fs.length;rw [List.take_of_length_le (by omega),List.take_of_length_le (by omega)] at e2;rw [e1,e1,e2]
  rw [this]
 have hlast:lastE fs'=lastE fs:=by
  unfold lastE;rw [hmain]
  by_cases hm:idxMain fs<0
  · rw [if_pos hm,if_pos hm]
  · rw [if_neg hm,if_neg hm]
    obtain⟨m,hm1,hm2⟩:=idxMain_lt hm;rw [hm2,Int.toNat_natCast];obtain⟨f',e1,-,e3⟩:=hal.at_ m _ (List.getElem?_eq_getElem hm1);rw [List.getD_eq_getElem?_getD,List.getD_eq_getElem?_getD,e1,List.getElem?_eq_getElem hm1,Option.getD_some,Option.getD_some,e3]
 rw [←h];unfold checkF;dsimp only;rw [hl,hlast];have p1:posF (globE gs) gs.length=gs.length:=posF_all fun j _=>h3 j;have p2:posF (headsE gs fs') fs.length=fs.length:=posF_all fun j _=>hheads j;have p3:posF (bodiesE fs') fs.length=fs.length:=posF_all fun j _=>hbody j;have p4:posF (bodiesE fs) fs.length=fs.length:=posF_all fun j _=>h5 j;have p5:posF (headsE gs fs) fs.length=fs.length:=posF_all fun j _=>h4 j;rw [p1,p2,p3,p4,p5];simp only [Nat.lt_irrefl,if_false]
theorem fn_td {u:DUnit}(h:checkF u=(0,0))(hn:NumU u){k:Nat}{f:DFunc}(hf:u.funcs[k]?=some f) :
 TdOk f.regs.toNat f.blocks∧CkOk u.funcs f.blocks∧f.params.toNat≤f.regs.toNat∧f.regs.toNat≤100∧0≤f.params∧0≤f.regs:=by
 obtain⟨hh,hb⟩:=checkF_at h hf;obtain⟨-,-,p1,p2,p3,p4,l1,l2,hm⟩:=headE_ok hh;have hsm:=(checkF_small h).2 f (List.mem_of_getElem? hf);have hr:f.regs=((f.regs.toNat:Nat):Int):=by omega
 obtain⟨h1,h2⟩:=of_body (n:=f.regs.toNat) (hn f (List.mem_of_getElem? hf)) hr hb l1 l2 hm (fun x hx=>(hsm.each x hx).args);exact⟨h1,h2,by omega,by omega,p1,by omega⟩
theorem doB_td {n p:Nat}{bs:List DBlock}(h:TdOk n bs)(hp:p≤n)(hn:n≤1048576):TdOk (doN p n bs).toNat (doB p n bs):=h.kept.names hp hn
theorem doN_le {n p:Nat}{bs:List DBlock}(h:TdOk n bs)(hp:p≤n):(p:Int)≤doN p n bs∧doN p n bs≤n:=namesN_le hp h.kept.reg
theorem tidyU_num {u:DUnit}(h:checkF u=(0,0))(hn:NumU u):NumU (tidyU u):=fun f hf x hx=>by
 obtain⟨f0,h0,rfl⟩:=List.mem_map.1 hf;obtain⟨i,hi,rfl⟩:=List.getElem_of_mem h0;obtain⟨h1,-,h3,h4,-⟩:=fn_td h hn (List.getElem?_eq_getElem hi);exact (doB_td h1 h3 (by omega)).ok.num x hx
theorem tidyU_check {u:DUnit}(h:checkF u=(0,0))(hn:NumU u):checkF (tidyU u)=(0,0):=by
 refine checkF_like (fs:=u.funcs) h (by simp) fun k f hf=>?_;obtain⟨h1,h2,h3,h4,h5,h6⟩:=fn_td h hn hf;have h7:=doN_le h1 h3;refine⟨(doN f.params.toNat f.regs.toNat f.blocks).toNat,doB f.params.toNat f.regs.toNat f.blocks,?_,doB_td h1 h3 (by omega),CkOk.do h1 h2 h3,by omega,by omega,(doB_td h1 h3 (by omega)).tok.pos⟩;rw [List.getElem?_map,hf,Int.toNat_of_nonneg (by omega)];rfl
end Go.Proofs.YtnkogppgacappaaGreatDoor

namespace Go.Proofs.YtnkogppgacappaaGreatDoor
open Go.RowKit

set_option maxRecDepth 100000 in
set_option maxHeartbeats 1000000 in
theorem large_no {S : Nat → Prop} (nm : ByteArray) (p r : Int) (ba : Option Addr) (n bc : Nat) (bs : List DBlock) (w : World) (hb : SlAt S w 6 rBlock (.slice ba n bc) bs) (hbn : bs.length = n)
 (h1:n≤40) (h2:manyOf bs≤300) (h3:r≤100) (h4:0≤r) :
 Calls Tryz.prog 71 #[.agg #[.string nm,.int .i64 p,.int .i64 r,.slice ba n bc]] w fun e w'=>e = .returned (.bool false)∧Below w.heap.size w w':=by
 have Hb:=hid hb;have Hbn:=hid hbn;clear hb hbn;go_enter Tryz.func71,Tryz.ntmps71;go_wp2_with fail
 go_loopw [3, 9] (fun m i wr => ∃ k : Nat, k ≤ n ∧ i = .int .i64 k ∧ m = .int .i64 (manyOf (bs.take k) : Nat) ∧ Below (w.heap.size + 1) (w.alloc (Obj.cells #[.string nm, .int .i64 p, .int .i64 r, .slice ba n bc] 38)) wr)
  (fun _ i _=>n - (intOf i).toNat)
 case atStart=>exact⟨0,Nat.zero_le _,rfl,rfl,Below.refl _ _⟩
 case round =>
  obtain⟨k,hk,rfl,rfl,hbl⟩:=hrel
  by_cases hlt:k<n
  · have hlt2:k<bs.length:=by rw [Hbn.out];exact hlt
    have hmt:=manyOf_take bs k hlt2;have hml:=manyOf_le bs (k+1);have hbl2:=hid hbl;have hn2:=((Below.refl w.heap.size w).alloc (Nat.le_refl _) _).trans (hbl.mono (by simp));obtain⟨b,off,cs,rfl,hS,hx,hcl,hcs⟩:=(Hb.out.later rBlock_mono hn2).get hlt2;obtain⟨pa,pc,la,lc,ta,tc,rfl,-,-,-,hpm,hlm2,htm,-,-⟩:=hx.opens;obtain⟨c0,c1,c2,c3,c4,c5⟩:=hcs.get6;have hsz:=hbl.size;simp at hsz;clear hbl hn2 hcs hcl hx;go_wp2_with fail;go_roundw
    case rel=>exact⟨k+1,by omega,by go_num,by rw [hmt];go_num,by have h:=hbl2.out;(have hz0:=(h).size;have hy0:=hz0;(try simp at hy0);repeat (first | exact Below.refl _ _ | refine Below.trans ?_ ((h).mono (by first|omega|(simp<;>omega))) | refine Below.alloc ?_ (by first|omega|(simp<;>omega)) _ | refine Below.setCell ?_ (by first|omega|(simp<;>omega)) _ | refine below_drewN ?_ _ | refine Below.drew ?_))⟩
    case measure=>simp [intOf];omega
  · obtain⟨hc,hf⟩:=below_cells hbl
    have hbl2:=hid hbl;have hsz:=hbl.size;simp at hsz;clear hbl;obtain rfl:k=n:=by omega
    rw [List.take_of_length_le (by rw [Hbn.out];exact Nat.le_refl _)];generalize hmany:manyOf bs=many at *;clear hmany;have hD:(decide (40<(k:Int))||decide (300<(many:Int))||decide (100<r))=false:=by
     simp only [Bool.or_eq_false_iff,decide_eq_false_iff_not];omega
    have HD:=hid hD;clear hD;go_wp2_with fail;go_ret;exact⟨congrArg (fun b=>Ending.returned (Value.bool b)) HD.out,by have h:=hbl2.out;(have hz0:=(h).size;have hy0:=hz0;(try simp at hy0);repeat (first | exact Below.refl _ _ | refine Below.trans ?_ ((h).mono (by first|omega|(simp<;>omega))) | refine Below.alloc ?_ (by first|omega|(simp<;>omega)) _ | refine Below.setCell ?_ (by first|omega|(simp<;>omega)) _ | refine below_drewN ?_ _ | refine Below.drew ?_))⟩

end Go.Proofs.YtnkogppgacappaaGreatDoor
