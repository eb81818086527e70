import Derived.Test.YtpeejlpcikefcaaGreatDoorPTid1
/- tidy.NamesOf: what of a function its second pass writes, in memory. tidy.NamesOf: a block on its way through the second pass. tidy, plain: names are given by one table, the last one; what is asked stays. tidy, plain: a checked unit stays checked. tidy, plain: the unit. graph.Large of a function that is not too large. -/
namespace Go.Proofs.YtpeejlpcikefcaaGreatDoor
section
open Go.RowKit
def atw (x y : DBlock) (b : Nat) : Pth -> Prop
 | .blks=>x.fin.kind=y.fin.kind∧x.fin.on=y.fin.on
 | .phis c=>c=b->x.phis.map (·.dst)=y.phis.map (·.dst)
 | .src c i=>c=b->(x.phis.getD i abw).src=(y.phis.getD i abw).src
 | .list c=>c=b->x.list.map (fun y=>(y.op,y.dst,y.a,y.b,y.fn))=y.list.map (fun y=>(y.op,y.dst,y.a,y.b,y.fn))
 | .args c i=>c=b->(x.list.getD i abM).args=(y.list.getD i abM).args
 | .to c=>c=b->x.fin.to=y.fin.to
 | _=>True
theorem afN {α β γ:Type}{f:α->γ}{F:Nat->α->β}{l l':List α}(h:l.map f=l'.map f)(hF:∀i x y,f x=f y->F i x=F i y):l.mapIdx F=l'.mapIdx F:=by
 apply Aao;intro i;rw [Abt,Abt];have h1:=congrArg (·[i]?) h;simp only [Aak] at h1;cases hx:l[i]? with
 | none =>
   rw [hx] at h1;cases hy:l'[i]? with
   | none=>rfl
   | some y=>rw [hy] at h1;cases h1
 | some x =>
   rw [hx] at h1;cases hy:l'[i]? with
   | none=>rw [hy] at h1;cases h1
   | some y =>
     rw [hy] at h1;have h2:f x=f y:=by injection h1
     show some _=some _;rw [hF i x y h2]
section
variable {bs : List DBlock} {b : Nat} {y z : DBlock} {V : Pth -> Value}
theorem aas(hb:b<bs.length)(y:DBlock):blkOf (bs.set b y) b=y:=(aaR hb y b).trans (if_pos rfl)
theorem aa3(hb:b<bs.length)(y:DBlock){c:Nat}(hc:c≠b):blkOf (bs.set b y) c=blkOf bs c:=(aaR hb y c).trans (if_neg hc)
theorem alE(hb:b<bs.length){p:Pth}{E:List (List Value)}(hE:aae (bs.set b z) V p=E)(hs:∀q,q≠p->atw z y b q)(q:Pth):aae (bs.set b z) V q=aaU (aae (bs.set b y) V) p E q:=by
 by_cases e:q=p
 . subst e;rw [aaj,hE]
 rw [aag _ _ e];have h:=hs q e;cases q with
 | blks =>
   refine aft (by simp) fun c hc=>?_
   by_cases ec:c=b
   . subst ec
     rw [aas hb,aas hb];unfold abe;rw [h.1,h.2]
   . rw [aa3 hb _ ec,aa3 hb _ ec]
 | phis c =>
   simp only [aae]
   by_cases ec:c=b
   . subst ec
     rw [aas hb,aas hb];exact afN (h rfl) fun i x y al=>by rw [show x.dst=y.dst from al]
   . rw [aa3 hb _ ec,aa3 hb _ ec]
 | src c i =>
   simp only [aae]
   by_cases ec:c=b
   . subst ec
     rw [aas hb,aas hb,h rfl]
   . rw [aa3 hb _ ec,aa3 hb _ ec]
 | list c =>
   simp only [aae]
   by_cases ec:c=b
   . subst ec
     rw [aas hb,aas hb];refine afN (h rfl) fun i x y al=>?_;simp only [Prod.mk.injEq] at al;unfold abN;rw [al.1,al.2.1,al.2.2.1,al.2.2.2.1,al.2.2.2.2]
   . rw [aa3 hb _ ec,aa3 hb _ ec]
 | args c i =>
   simp only [aae]
   by_cases ec:c=b
   . subst ec
     rw [aas hb,aas hb,h rfl]
   . rw [aa3 hb _ ec,aa3 hb _ ec]
 | «to» c =>
   simp only [aae]
   by_cases ec:c=b
   . subst ec
     rw [aas hb,aas hb,h rfl]
   . rw [aa3 hb _ ec,aa3 hb _ ec]
 | vBlk=>rfl
 | vPhi=>rfl
 | vIns=>rfl
theorem amw(hb:b<bs.length)(h1:z.phis.length=y.phis.length)(h2:z.list.length=y.list.length)(q:Pth):okP (bs.set b z) q↔okP (bs.set b y) q:=by
 refine akM (bs:=bs.set b y) (bs':=bs.set b z) (by rw [Aar,Aar]) (fun c=>?_) q
 by_cases ec:c=b
 . subst ec;rw [aas hb,aas hb];exact⟨h1,h2⟩
 . rw [aa3 hb _ ec,aa3 hb _ ec];exact⟨rfl,rfl⟩
end
section
variable {W W' : World} {base : Nat} {ok : Pth -> Prop} {V : Pth -> Value} {C : Pth -> List (List Value)}
theorem aah.kp {G:Nat->Prop}(h:aah W base ok V C)(hk:Kp G W W')(hG:∀p,ok p->∀k,(V p).ownBlock=some k->G k):aah W' base ok V C:=by
 refine⟨fun p hp=>⟨(h.own p hp).1,?_⟩,h.wid,h.apart⟩;rcases (h.own p hp).2 with h1 | ⟨g,cap,cur,e,h3,h4,h5⟩
 . exact .inl h1
 . exact .inr ⟨g,cap,cur,e,h3,(hk.block g (Aag.1 h4).1 (hG p hp g (by rw [e];rfl))).trans h4,h5⟩
theorem aah.setTwo(h:aah W base ok V C){p:Pth}(hp:ok p){g n c i j:Nat}(hv:V p = .slice (some ⟨g,0,none⟩) n c){cs:List Value}(hi:(C p)[i]?=some cs)(hj:j+1<p.sz)(u u':Value) :
 aah ((W.setCell ⟨g,i * p.sz+j,none⟩ u).setCell ⟨g,i * p.sz+(j+1),none⟩ u') base ok V (aaU C p ((C p).set i ((cs.set j u).set (j+1) u'))):=by
 have az:i<(C p).length:=(Aad.1 hi).1;have r1:=h.set hp hv hi (j:=j) (by omega) u;have r2:=r1.set hp hv (i:=i) (cs:=cs.set j u) (by rw [aaj];exact Aa5 az) (j:=j+1) (by omega) u';refine r2.congr (fun q _=>rfl) (fun q _=>?_)
 by_cases e:q=p
 . subst e;simp only [aaj,Aaz]
 . simp only [aag _ _ e]
end
structure aei (W:World)(base T NB n:Nat)(F:Nat->Prop)(bs:List DBlock)(V:Pth->Value)(s:Nm):Prop where
 rows:abK W base bs V
 nm:afC W T NB n s
 off:∀p,okP bs p->∀k,(V p).ownBlock=some k->¬F k∧k≠T∧k≠NB
 nf:¬F T∧¬F NB
section
variable {W W' : World} {base T NB n : Nat} {F : Nat -> Prop} {bs : List DBlock} {V : Pth -> Value} {s s' : Nm} {b : Nat} {y z : DBlock}
theorem aei.named(h:aei W base T NB n F bs V s)(hn:afC W' T NB n s')(hk:Kp (NmF T NB) W W'):aei W' base T NB n F bs V s' :=
 ⟨aah.kp h.rows hk fun p hp k aF=>(h.off p hp k aF).2,hn,h.off,h.nf⟩
theorem aei.later(h:aei W base T NB n F bs V s)(hb:Below W.heap.size W W'):aei W' base T NB n F bs V s:=h.named (h.nm.below hb) (Kp.of hb)
theorem aei.keepN(h:aei W base T NB n F bs V s)(hk:Kp (NmF T NB) W W'):Kp F W W' :=
 hk.less fun b hb=>⟨fun e=>h.nf.1 (by rw [<-e];exact hb),fun e=>h.nf.2 (by rw [<-e];exact hb)⟩
variable {g:Nat}
theorem aei.other(h:aei W base T NB n F bs V s)(hk:Kp (fun k=>k≠g) W W')(hg:F g):aei W' base T NB n F bs V s :=
 ⟨aah.kp h.rows hk fun p hp k aF e=>(h.off p hp k aF).1 (by rw [e];exact hg),h.nm.later hk (fun e=>h.nf.1 (by rw [e];exact hg)) (fun e=>h.nf.2 (by rw [e];exact hg)),h.off,h.nf⟩
variable {pn pc:Nat}
theorem aei.turn(h : aei W base T NB n F (bs.set b y) V s) (hb : b < bs.length) {p : Pth} (hp : okP (bs.set b y) p)  (hv : V p = .slice (some ⟨g, 0, none⟩) pn pc) {E : List (List Value)}
 (hr:aah W' base (okP (bs.set b y)) V (aaU (aae (bs.set b y) V) p E)) (hW:Kp (fun k=>k≠g) W W') (hE:aae (bs.set b z) V p=E) (hs:∀q,q≠p->atw z y b q)
 (h1:z.phis.length=y.phis.length) (h2:z.list.length=y.list.length):aei W' base T NB n F (bs.set b z) V s∧Kp F W W':=by
 have hg:=h.off p hp g (by rw [hv];rfl);refine⟨⟨(hr.less fun q hq=>(amw hb h1 h2 q).1 hq).congr (fun _ _=>rfl) (fun q _=>alE hb hE hs q),h.nm.later hW (fun e=>hg.2.1 e.symm) (fun e=>hg.2.2 e.symm),fun q hq=>h.off q ((amw hb h1 h2 q).1 hq),h.nf⟩,?_⟩;exact hW.less fun k hk e=>hg.1 (by rw [<-e];exact hk)
theorem aaP(W:World)(g o:Nat)(u:Value):Kp (fun k=>k≠g) W (W.setCell ⟨g,o,none⟩ u):=(Kp.refl _ _).set (fun h=>h rfl) _
theorem aaD{W W':World}(h:Kp (fun k=>k≠g) W W')(o:Nat)(u:Value):Kp (fun k=>k≠g) W (W'.setCell ⟨g,o,none⟩ u):=h.set (fun h=>h rfl) _
def atx(y:DBlock)(i:Nat)(d:Int):DBlock:={ y with phis:=y.phis.set i ⟨d,(y.phis.getD i abw).src⟩ }
def aoK(y:DBlock)(i m:Nat)(v:aaA):DBlock:={ y with phis:=y.phis.set i ⟨(y.phis.getD i abw).dst,(y.phis.getD i abw).src.set m v⟩ }
def aoL(y:DBlock)(i m:Nat)(v:aaA):DBlock:={ y with list:=y.list.set i { y.list.getD i abM with args:=(y.list.getD i abM).args.set m v } }
def aoM(y:DBlock)(i:Nat)(z:aaK):DBlock:={ y with list:=y.list.set i { z with args:=(y.list.getD i abM).args } }
def onB(y:DBlock)(v:aaA):DBlock:={ y with fin:={ y.fin with on:=v } }
variable {i:Nat}
theorem agE{α β:Type}(f:α->β){l:List α}{x d:α}(hx:f x=f (l.getD i d))(j:Nat):f ((l.set i x).getD j d)=f (l.getD j d):=by
 rw [Aaf,Aaf,Aa6]
 by_cases e:i=j
 . subst e
   rw [if_pos rfl]
   by_cases h:i<l.length
   . rw [if_pos h]
     show f x=_;rw [hx,Aaf]
   . rw [if_neg h,Aap (by omega)]
 . rw [if_neg e]
theorem agF{α β:Type}(f:α->β){l:List α}{x d:α}(hx:f x=f (l.getD i d)):(l.set i x).map f=l.map f:=by
 apply Aao;intro j;rw [Aak,Aak,Aa6]
 by_cases e:i=j
 . subst e
   rw [if_pos rfl]
   by_cases h:i<l.length
   . rw [if_pos h,Aaa h]
     show some (f x)=some _;rw [hx,Aaf,Aaa h];rfl
   . rw [if_neg h,Aap (by omega)]
 . rw [if_neg e]
theorem aei.setDst(h:aei W base T NB n F (bs.set b y) V s)(hb:b<bs.length)(hi:i<y.phis.length)(hv:V (.phis b) = .slice (some ⟨g,0,none⟩) pn pc)(d:Int) :
 aei (W.setCell ⟨g,i * 2,none⟩ (.int .i64 d)) base T NB n F (bs.set b (atx y i d)) V s∧Kp F W (W.setCell ⟨g,i * 2,none⟩ (.int .i64 d)):=by
 have hc:(aae (bs.set b y) V (.phis b))[i]?=some [.int .i64 (y.phis.getD i abw).dst,V (.src b i)]:=by
  simp only [aae];rw [aas hb,aai,Aaa hi,Aaf,Aaa hi];rfl
 have hr:=h.rows.set (p := .phis b) (by show b<_;simp;exact hb) hv hc (j:=0) (Pth.sz_pos _) (.int .i64 d);refine h.turn hb (p := .phis b) (by show b<_;simp;exact hb) hv hr (aaP _ _ _ _) ?_ ?_ (by simp [atx]) rfl
 . simp only [aae]
   rw [aas hb,aas hb];simp only [atx,List.mapIdx_set];rfl
 . intro q hq
   cases q with
   | blks=>exact⟨rfl,rfl⟩
   | phis c=>intro e;exact absurd (by rw [e]) hq
   | src c j=>intro _;exact agE (l:=y.phis) (i:=i) (x:=⟨d,(y.phis.getD i abw).src⟩) (d:=abw) (fun p:acr=>p.src) rfl j
   | list c=>intro _;rfl
   | args c j=>intro _;rfl
   | «to» c=>intro _;rfl
   | _=>trivial
theorem aei.setSrc(h:aei W base T NB n F (bs.set b y) V s)(hb:b<bs.length){m:Nat}(hi:i<y.phis.length)(hm:m<(y.phis.getD i abw).src.length)(hv:V (.src b i) = .slice (some ⟨g,0,none⟩) pn pc)(v:aaA) :
 aei ((W.setCell ⟨g,m * 2,none⟩ (.bool v.reg)).setCell ⟨g,m * 2+1,none⟩ (.int .i64 v.n)) base T NB n F (bs.set b (aoK y i m v)) V s∧Kp F W ((W.setCell ⟨g,m * 2,none⟩ (.bool v.reg)).setCell ⟨g,m * 2+1,none⟩ (.int .i64 v.n)):=by
 have ad:okP (bs.set b y) (.src b i):=by show i<_;rw [aas hb];exact hi
 have hc:(aae (bs.set b y) V (.src b i))[m]?=some (aaz ((y.phis.getD i abw).src[m])):=by
  simp only [aae];rw [aas hb,Aak,Aaa hm];rfl
 have hr:=aah.setTwo h.rows ad hv hc (j:=0) (by show _<_;simp [Pth.sz]) (.bool v.reg) (.int .i64 v.n);refine h.turn hb ad hv hr (aaD (aaP _ _ _ _) _ _) ?_ ?_ (by simp [aoK]) rfl
 . simp only [aae]
   rw [aas hb,aas hb];simp only [aoK];rw [Aaf,Aa5 hi];show (List.set _ _ _).map aaz=_;rw [List.map_set];rfl
 . intro q hq
   cases q with
   | blks=>exact⟨rfl,rfl⟩
   | phis c=>intro e;exact agF (l:=y.phis) (i:=i) (x:=⟨(y.phis.getD i abw).dst,(y.phis.getD i abw).src.set m v⟩) (fun p:acr=>p.dst) (d:=abw) rfl
   | src c j =>
     intro e;have aN:i≠j:=fun e2=>hq (by rw [e,e2]);show (List.getD (y.phis.set i _) j abw).src=_;rw [Aaf,Acm aN,<-Aaf]
   | list c=>intro _;rfl
   | args c j=>intro _;rfl
   | «to» c=>intro _;rfl
   | _=>trivial
theorem aei.setArg(h:aei W base T NB n F (bs.set b y) V s)(hb:b<bs.length){m:Nat}(hi:i<y.list.length)(hm:m<(y.list.getD i abM).args.length)(hv:V (.args b i) = .slice (some ⟨g,0,none⟩) pn pc)(v:aaA) :
 aei ((W.setCell ⟨g,m * 2,none⟩ (.bool v.reg)).setCell ⟨g,m * 2+1,none⟩ (.int .i64 v.n)) base T NB n F (bs.set b (aoL y i m v)) V s∧Kp F W ((W.setCell ⟨g,m * 2,none⟩ (.bool v.reg)).setCell ⟨g,m * 2+1,none⟩ (.int .i64 v.n)):=by
 have ad:okP (bs.set b y) (.args b i):=by show i<_;rw [aas hb];exact hi
 have hc:(aae (bs.set b y) V (.args b i))[m]?=some (aaz ((y.list.getD i abM).args[m])):=by
  simp only [aae];rw [aas hb,Aak,Aaa hm];rfl
 have hr:=aah.setTwo h.rows ad hv hc (j:=0) (by show _<_;simp [Pth.sz]) (.bool v.reg) (.int .i64 v.n);refine h.turn hb ad hv hr (aaD (aaP _ _ _ _) _ _) ?_ ?_ rfl (by simp [aoL])
 . simp only [aae]
   rw [aas hb,aas hb];simp only [aoL];rw [Aaf,Aa5 hi];show (List.set _ _ _).map aaz=_;rw [List.map_set];rfl
 . intro q hq
   cases q with
   | blks=>exact⟨rfl,rfl⟩
   | phis c=>intro _;rfl
   | src c j=>intro _;rfl
   | list c=>intro _;exact agF (l:=y.list) (i:=i) (x:={ y.list.getD i abM with args:=(y.list.getD i abM).args.set m v }) (fun y:aaK=>(y.op,y.dst,y.a,y.b,y.fn)) (d:=abM) rfl
   | args c j =>
     intro e;have aN:i≠j:=fun e2=>hq (by rw [e,e2]);show (List.getD (y.list.set i _) j abM).args=_;rw [Aaf,Acm aN,<-Aaf]
   | «to» c=>intro _;rfl
   | _=>trivial
theorem aei.setOn(h:aei W base T NB n F (bs.set b y) V s)(hb:b<bs.length)(hv:V .blks = .slice (some ⟨g,0,none⟩) pn pc)(v:aaA) :
 aei ((W.setCell ⟨g,b * 6+3,none⟩ (.bool v.reg)).setCell ⟨g,b * 6+4,none⟩ (.int .i64 v.n)) base T NB n F (bs.set b (onB y v)) V s∧Kp F W ((W.setCell ⟨g,b * 6+3,none⟩ (.bool v.reg)).setCell ⟨g,b * 6+4,none⟩ (.int .i64 v.n)):=by
 have hc:(aae (bs.set b y) V .blks)[b]?=some (abe y (V (.phis b)) (V (.list b)) (V (.to b))):=by
  simp only [aae];rw [aai,Aa5 hb];rfl
 have hr:=aah.setTwo h.rows (p := .blks) trivial hv hc (j:=3) (by simp [Pth.sz]) (.bool v.reg) (.int .i64 v.n);refine h.turn hb (p := .blks) trivial hv hr (aaD (aaP _ _ _ _) _ _) ?_ ?_ rfl rfl
 . simp only [aae,List.mapIdx_set,Aaz]
   rfl
 . intro q hq
   cases q with
   | blks=>exact absurd rfl hq
   | phis c=>intro _;rfl
   | src c j=>intro _;rfl
   | list c=>intro _;rfl
   | args c j=>intro _;rfl
   | «to» c=>intro _;rfl
   | _=>trivial
theorem aei.setIns(h:aei W base T NB n F (bs.set b y) V s)(hb:b<bs.length)(hi:i<y.list.length)(hv:V (.list b) = .slice (some ⟨g,0,none⟩) pn pc)(z:aaK){u:Value}(hu:u=V (.args b i)) :
 aei ((((((((W.setCell ⟨g,i * 8,none⟩ (.int .i64 z.op)).setCell ⟨g,i * 8+1,none⟩ (.int .i64 z.dst)).setCell ⟨g,i * 8+2,none⟩ (.bool z.a.reg)).setCell ⟨g,i * 8+3,none⟩ (.int .i64 z.a.n)).setCell ⟨g,i * 8+4,none⟩ (.bool z.b.reg)).setCell ⟨g,i * 8+5,none⟩ (.int .i64 z.b.n)).setCell ⟨g,i * 8+6,none⟩ (.int .i64 z.fn)).setCell ⟨g,i * 8+7,none⟩ u) base T NB n F (bs.set b (aoM y i z)) V s ∧
 Kp F W ((((((((W.setCell ⟨g,i * 8,none⟩ (.int .i64 z.op)).setCell ⟨g,i * 8+1,none⟩ (.int .i64 z.dst)).setCell ⟨g,i * 8+2,none⟩ (.bool z.a.reg)).setCell ⟨g,i * 8+3,none⟩ (.int .i64 z.a.n)).setCell ⟨g,i * 8+4,none⟩ (.bool z.b.reg)).setCell ⟨g,i * 8+5,none⟩ (.int .i64 z.b.n)).setCell ⟨g,i * 8+6,none⟩ (.int .i64 z.fn)).setCell ⟨g,i * 8+7,none⟩ u):=by
 have ad:okP (bs.set b y) (.list b):=by show b<_;simp;exact hb
 obtain⟨x,hx⟩:∃x,y.list[i]?=some x:=⟨_,Aaa hi⟩
 have hc:(aae (bs.set b y) V (.list b))[i]?=some (abN x (V (.args b i))):=by
  simp only [aae];rw [aas hb,aai,hx];rfl
 have az:i<(aae (bs.set b y) V (.list b)).length:=(Aad.1 hc).1;have r0:=aah.setTwo h.rows ad hv hc (j:=0) (by show _<_;simp [Pth.sz]) (.int .i64 z.op) (.int .i64 z.dst);have r1:=r0.setTwo ad hv (i:=i) (by rw [aaj];exact Aa5 az) (j:=2) (by simp [Pth.sz]) (.bool z.a.reg) (.int .i64 z.a.n);have r2:=r1.setTwo ad hv (i:=i) (by rw [aaj,aaj,Aaz];exact Aa5 az) (j:=4) (by simp [Pth.sz]) (.bool z.b.reg) (.int .i64 z.b.n);have r3:=r2.setTwo ad hv (i:=i) (by rw [aaj,aaj,aaj,Aaz,Aaz];exact Aa5 az) (j:=6) (by simp [Pth.sz]) (.int .i64 z.fn) u
 have hr := r3.congr (V' := V) (C' := aaU (aae (bs.set b y) V) (.list b) ((aae (bs.set b y) V (.list b)).set i (abN z (V (.args b i))))) (fun q _ => rfl) (fun q _ => by
  by_cases e : q = .list b
  . subst e
    simp only [aaj, Aaz]
    rw [hu]; rfl
  . simp only [aag _ _ e])
 refine h.turn hb ad hv hr (aaD (aaD (aaD (aaD (aaD (aaD (aaD (aaP _ _ _ _) _ _) _ _) _ _) _ _) _ _) _ _) _ _) ?_ ?_ rfl (by simp [aoM])
 . simp only [aae]
   rw [aas hb,aas hb];simp only [aoM,List.mapIdx_set];rfl
 . intro q hq
   cases q with
   | blks=>exact⟨rfl,rfl⟩
   | phis c=>intro _;rfl
   | src c j=>intro _;rfl
   | list c=>intro e;exact absurd (by rw [e]) hq
   | args c j=>intro _;exact agE (l:=y.list) (i:=i) (x:={ z with args:=(y.list.getD i abM).args }) (d:=abM) (fun p:aaK=>p.args) rfl j
   | «to» c=>intro _;rfl
   | _=>trivial
end
end
section
open Go.RowKit
def phB(s1 s':Nm)(x:DBlock)(i:Nat)(ph:acr)(d:Int)(m:Nat):DBlock:=⟨(aco s1 x.phis i).set i ⟨d,abG s' ph.src m⟩,x.list,x.fin⟩
def phA(s1:Nm)(x:DBlock)(i:Nat):DBlock:=⟨aco s1 x.phis i,x.list,x.fin⟩
theorem agn(s:Nm)(l:List acr)(k:Nat):(aco s l k).length=l.length:=by simp [aco]
theorem aiR(s:Nm)(l:List aaK)(k:Nat):(adX s l k).length=l.length:=by simp [adX]
theorem aiS(s:Nm)(l:List aaA)(k:Nat):(abG s l k).length=l.length:=by simp [abG]
theorem adD {α:Type}{l:List α}{i:Nat}{x d:α}(h:l[i]?=some x):l.getD i d=x:=by rw [Aaf,h];rfl
section
variable {s1 s' s2 s4 : Nm} {x : DBlock} {i : Nat} {ph : acr} {d : Int} {m : Nat} {y : aaK}
theorem aqG(s1:Nm)(x:DBlock):phA s1 x 0=x:=by unfold phA;rw [al3]
theorem aoN(h:x.phis[i]?=some ph)(s':Nm)(d:Int):atx (phA s1 x i) i d=phB s1 s' x i ph d 0:=by
 unfold atx phB;rw [aid];show DBlock.mk (List.set (aco s1 x.phis i) i ⟨d,((aco s1 x.phis i).getD i abw).src⟩) x.list x.fin=_;rw [adD (aie s1 h)]
theorem amx(h:x.phis[i]?=some ph):(phB s1 s' x i ph d m).phis[i]?=some ⟨d,abG s' ph.src m⟩:=by
 unfold phB;exact Aa5 (by rw [agn];exact (Aad.1 h).1)
theorem aqH(h:x.phis[i]?=some ph){v:aaA}(hv:ph.src[m]?=some v):aoK (phB s1 s' x i ph d m) i m (aep (abf s' (ph.src.take m)) v)=phB s1 s' x i ph d (m+1):=by
 unfold aoK;rw [adD (amx h)];unfold phB;rw [Aaz];show DBlock.mk (List.set _ i ⟨d,(abG s' ph.src m).set m _⟩) x.list x.fin=_;rw [ajb s' hv]
theorem asx(h:x.phis[i]?=some ph):phB s1 (nmS ((x.phis.take i).foldl ai8 s1) ph.dst) x i ph (nmR ((x.phis.take i).foldl ai8 s1) ph.dst) ph.src.length=phA s1 x (i+1):=by
 unfold phB phA;rw [<-anP s1 h];rfl
def lsA(P:List acr)(s2:Nm)(x:DBlock)(i:Nat):DBlock:=⟨P,adX s2 x.list i,x.fin⟩
def lsB(P:List acr)(s2 s4:Nm)(x:DBlock)(i:Nat)(y:aaK)(m:Nat):DBlock:=⟨P,(adX s2 x.list i).set i { y with args:=abG s4 y.args m },x.fin⟩
theorem aqI(s1 s2:Nm)(x:DBlock):phA s1 x x.phis.length=lsA (aco s1 x.phis x.phis.length) s2 x 0:=by unfold phA lsA;rw [al4]
theorem aqJ(P:List acr)(s4:Nm)(h:x.list[i]?=some y):lsA P s2 x i=lsB P s2 s4 x i y 0:=by
 unfold lsA lsB;rw [aid]
 congr 1
 exact (abW (aif s2 h)).symm
theorem ahI {P:List acr}(h:x.list[i]?=some y):(lsB P s2 s4 x i y m).list[i]?=some { y with args:=abG s4 y.args m }:=by
 unfold lsB;exact Aa5 (by rw [aiR];exact (Aad.1 h).1)
theorem aqK {P:List acr}(h:x.list[i]?=some y){v:aaA}(hv:y.args[m]?=some v):aoL (lsB P s2 s4 x i y m) i m (aep (abf s4 (y.args.take m)) v)=lsB P s2 s4 x i y (m+1):=by
 unfold aoL;rw [adD (ahI h)];unfold lsB;rw [Aaz];show DBlock.mk P (List.set _ i { y with args:=(abG s4 y.args m).set m _ }) x.fin=_;rw [ajb s4 hv]
theorem asy {P:List acr}(h:x.list[i]?=some y)(z:aaK)(hz:{ z with args:=abG (afc ((x.list.take i).foldl acX s2) y) y.args y.args.length }=arx ((x.list.take i).foldl acX s2) y) :
 aoM (lsB P s2 (afc ((x.list.take i).foldl acX s2) y) x i y y.args.length) i z=lsA P s2 x (i+1):=by
 unfold aoM;rw [adD (ahI h)];unfold lsB lsA;rw [Aaz];show DBlock.mk P (List.set _ i { z with args:=abG _ y.args y.args.length }) x.fin=_;rw [hz,anQ s2 h]
theorem aqL(s1:Nm)(x:DBlock):onB (lsA (aco s1 x.phis x.phis.length) (x.phis.foldl ai8 s1) x x.list.length) (aep (ary s1 x) x.fin.on)=ar3 s1 x:=rfl
end
end
section
structure Ext (s s':Nm):Prop where
 many:s.many<=s'.many
 at_:∀r:Nat,0<=s.now.getD r 0->s.now.length=s'.now.length->s'.now.getD r 0=s.now.getD r 0
 len:s'.now.length=s.now.length
theorem Ext.refl(s:Nm):Ext s s:=⟨Int.le_refl _,fun _ _ _=>rfl,rfl⟩
theorem Ext.trans {s s' aV:Nm}(h:Ext s s')(k:Ext s' aV):Ext s aV :=
 ⟨Int.le_trans h.many k.many, fun r h0 _ => by
   have e := h.at_ r h0 h.len.symm
   rw [<- e]
   exact k.at_ r (by rw [e]; exact h0) k.len.symm, k.len.trans h.len⟩
variable {n:Nat}
theorem asz{s:Nm}(_h:aha n s)(r:Int):Ext s (nmS s r):=by
 unfold nmS
 by_cases h0:s.now.getD r.toNat 0<0
 . rw [if_pos h0]
   refine⟨by show s.many<=s.many+1;omega,fun q hq _=>?_,by simp⟩;show (s.now.set r.toNat s.many).getD q 0=_;rw [Aaf,Aaf,Aa6]
   by_cases e:r.toNat=q
   . subst e;omega
   . rw [if_neg e]
 . rw [if_neg h0];exact Ext.refl s
structure Stp (n:Nat)(f:Nm->Nm):Prop where
 ok:∀s,aha n s->aha n (f s)
 ext:∀s,aha n s->Ext s (f s)
theorem Stp.id(n:Nat):Stp n (fun s=>s):=⟨fun _ h=>h,fun s _=>Ext.refl s⟩
theorem Stp.comp{f g:Nm->Nm}(h:Stp n f)(k:Stp n g):Stp n (fun s=>g (f s)):=⟨fun s hs=>k.ok _ (h.ok s hs),fun s hs=>(h.ext s hs).trans (k.ext _ (h.ok s hs))⟩
theorem Stp.fold{α : Type}  {f : Nm -> α -> Nm} : ∀ {l : List α}, (∀ x ∈ l, Stp n (fun s => f s x)) -> Stp n (fun s => l.foldl f s)
 | [],_=>Stp.id n
 | x :: l,h=>(h x (Aa3 ..)).comp (Stp.fold (l:=l) fun y hy=>h y (Aa2 _ hy))
theorem ago{r:Int}(hr:0<=r∧r<n):Stp n (fun s=>nmS s r):=⟨fun _ h=>h.step hr,fun _ h=>asz h r⟩
theorem acJ{v:aaA}(hv:InV n v):Stp n (fun s=>aeY s v):=by
 unfold aeY
 by_cases e:v.reg=true
 . simp only [if_pos e];exact ago (hv e)
 . simp only [if_neg e];exact Stp.id n
theorem afO{l:List aaA}(hl:∀v∈l,InV n v):Stp n (fun s=>abf s l):=Stp.fold fun v hv=>acJ (hl v hv)
theorem aoO{d:Int}(hd:d<n):Stp n (fun s=>ajL s d):=by
 unfold ajL
 by_cases e:0<=d
 . simp only [if_pos e];exact ago ⟨e,hd⟩
 . simp only [if_neg e];exact Stp.id n
def InI(n:Nat)(y:aaK):Prop:=InV n y.a∧InV n y.b∧(∀v∈y.args,InV n v)∧y.dst<n
def InP(n:Nat)(p:acr):Prop:=(0<=p.dst∧p.dst<n)∧∀v∈p.src,InV n v
theorem aty{y:aaK}(h:InI n y):Stp n (fun s=>afc s y):=(acJ h.1).comp (acJ h.2.1)
theorem aoP{y:aaK}(h:InI n y):Stp n (fun s=>acX s y):=((aty h).comp (afO h.2.2.1)).comp (aoO h.2.2.2)
theorem amy{p:acr}(h:InP n p):Stp n (fun s=>ai8 s p):=(ago h.1).comp (afO h.2)
theorem amz{l:List acr}(h:∀p∈l,InP n p):Stp n (fun s=>l.foldl ai8 s):=Stp.fold fun p hp=>amy (h p hp)
theorem ag0{l:List aaK}(h:∀y∈l,InI n y):Stp n (fun s=>l.foldl acX s):=Stp.fold fun y hy=>aoP (h y hy)
variable {x:DBlock}
theorem aqM(h:aee n x):Stp n (fun s=>ary s x):=(amz (fun p hp=>h.phi p hp)).comp (ag0 fun y hy=>h.ins y hy)
theorem aoQ(h:aee n x):Stp n (fun s=>ajM s x):=(aqM h).comp (acJ h.on)
theorem arS(h:aee n x):Stp n (fun s=>aqc s x) :=
 ((Stp.fold (f:=anO) fun p hp=>ago (h.phi p hp).1).comp (ag0 fun y hy=>h.ins y hy)).comp (acJ h.on)
theorem aoR{p:Nat}(h:p<=n):Stp n (fun s=>aib s p):=Stp.fold (f:=fun s (r:Nat)=>nmS s (r:Int)) fun r hr=>ago (by have:=Abv.1 hr;omega)
def adE(s:Nm)(r:Int):Int:=s.now.getD r.toNat 0
def ajT(f:Int->Int)(v:aaA):aaA:=if v.reg then ⟨true,f v.n⟩ else v
def ap5(f:Int->Int)(d:Int):Int:=if 0<=d then f d else d
def akq(f:Int->Int)(p:acr):acr:=⟨f p.dst,p.src.map (ajT f)⟩
def aoS(f:Int->Int)(y:aaK):aaK:=⟨y.op,ap5 f y.dst,ajT f y.a,ajT f y.b,y.fn,y.args.map (ajT f)⟩
def afB(f:Int->Int)(x:DBlock):DBlock:=⟨x.phis.map (akq f),x.list.map (aoS f),⟨x.fin.kind,ajT f x.fin.on,x.fin.to⟩⟩
section
variable {n : Nat} {s sF : Nm}
theorem alF(hs:aha n s){r:Int}(hr:0<=r∧r<n)(he:Ext (nmS s r) sF):nmR s r=adE sF r∧0<=nmR s r∧nmR s r<sF.many:=by
 have h:=atO hs hr;have hm:=he.many;refine⟨?_,h.1,by omega⟩;have h3:(nmS s r).now.getD r.toNat 0=nmR s r:=rfl;unfold adE;rw [he.at_ r.toNat (by rw [h3];exact h.1) he.len.symm,h3]
theorem ag1(hs:aha n s){v:aaA}(hv:InV n v)(he:Ext (aeY s v) sF):aep s v=ajT (adE sF) v∧InV sF.many.toNat (aep s v):=by
 unfold aeY at he;unfold aep ajT
 by_cases e:v.reg=true
 . rw [if_pos e] at he ⊢
   rw [if_pos e];have h:=alF hs (hv e) he;exact⟨by rw [h.1],fun _=>by show 0<=nmR s v.n∧nmR s v.n<_;omega⟩
 . rw [if_neg e,if_neg e]
   exact⟨rfl,fun h=>absurd h e⟩
theorem amA {α:Type}(f:Nat->α->α)(g:α->α){l:List α}(h:∀i x,l[i]?=some x->f i x=g x):(l.mapIdx fun i x=>if i<l.length then f i x else x)=l.map g:=by
 apply Aao;intro i;rw [Abt,Aak];cases hx:l[i]? with
 | none=>rfl
 | some x =>
   have hi:=(Aad.1 hx).1;simp only [Aaw,if_pos hi,h i x hx]
theorem afP {α:Type}{f:Nm->α->Nm}{l:List α}(h:∀x∈l,Stp n (fun s=>f s x))(hs:aha n s){i:Nat}{x:α}(hx:l[i]?=some x)(he:Ext (l.foldl f s) sF) :
 aha n ((l.take i).foldl f s)∧Ext (f ((l.take i).foldl f s) x) sF:=by
 have h1:=(Stp.fold (f:=f) (l:=l.take i) fun y hy=>h y (List.mem_of_mem_take hy)).ok s hs;refine⟨h1,?_⟩;have e:l=l.take (i+1)++l.drop (i+1):=(List.take_append_drop _ _).symm;rw [e,List.foldl_append,abo f s hx] at he;have ad:=(h x (Aae hx)).ok _ h1;exact ((Stp.fold (f:=f) (l:=l.drop (i+1)) fun y hy=>h y (List.mem_of_mem_drop hy)).ext _ ad).trans he
theorem aiT(hs:aha n s){l:List aaA}(hl:∀v∈l,InV n v)(he:Ext (abf s l) sF):abG s l l.length=l.map (ajT (adE sF))∧∀v∈l,InV sF.many.toNat (ajT (adE sF) v):=by
 have au:∀(i:Nat) v,l[i]?=some v->aep (abf s (l.take i)) v=ajT (adE sF) v∧InV sF.many.toNat (aep (abf s (l.take i)) v):=fun i v hv=>by
  obtain⟨h1,h2⟩:=afP (f:=aeY) (fun v hv=>acJ (hl v hv)) hs hv he;exact ag1 h1 (hl v (Aae hv)) h2
 refine⟨amA _ _ fun i v hv=>(au i v hv).1,fun v hv=>?_⟩;obtain⟨i,hi,rfl⟩:=Aav hv;have h:=au i _ (Aaa hi);rw [<-h.1];exact h.2
theorem aqN(hs:aha n s){p:acr}(hp:InP n p)(he:Ext (ai8 s p) sF):atb s p=akq (adE sF) p∧InP sF.many.toNat (akq (adE sF) p):=by
 have h1:=(ago hp.1).ok s hs;obtain⟨h2,h3⟩:=aiT h1 hp.2 he;have h4:=alF hs hp.1 (((afO hp.2).ext _ h1).trans he);refine⟨?_,⟨?_,fun v hv=>?_⟩⟩
 . show acr.mk (nmR s p.dst) (abG _ _ _)=_
   rw [h2,h4.1];rfl
 . show 0<=adE sF p.dst∧adE sF p.dst<_;rw [<-h4.1];omega
 . obtain⟨v0,h0,rfl⟩:=Aal.1 (show v∈List.map _ _ from hv)
   exact h3 v0 h0
theorem aqO(hs:aha n s){y:aaK}(hy:InI n y)(he:Ext (acX s y) sF):arx s y=aoS (adE sF) y∧InI sF.many.toNat (aoS (adE sF) y)∧(0<=y.dst->0<=adE sF y.dst):=by
 obtain⟨ha,hb,hl,hd⟩:=hy;have k1:=(acJ ha).ok s hs;have k2:=(acJ hb).ok _ k1;have k3:=(afO hl).ok _ k2;have x3:Ext (abf (aeY (aeY s y.a) y.b) y.args) sF:=((aoO hd).ext _ k3).trans he;have x2:=((afO hl).ext _ k2).trans x3;have x1:=((acJ hb).ext _ k1).trans x2;have ea:=ag1 hs ha x1;have eb:=ag1 k1 hb x2;obtain⟨el,bf⟩:=aiT k2 hl x3;have ed:at2 (abf (afc s y) y.args) y.dst=ap5 (adE sF) y.dst∧ap5 (adE sF) y.dst<sF.many.toNat∧(0<=y.dst->0<=adE sF y.dst):=by
  unfold at2 ap5
  by_cases e:0<=y.dst
  . rw [if_pos e,if_pos e]
    have h4 := alF k3 ⟨e, hd⟩ (sF := sF) (by
     have h5 : acX s y = nmS (abf (aeY (aeY s y.a) y.b) y.args) y.dst := if_pos e
     rw [<- h5]; exact he)
    have h6:nmR (abf (afc s y) y.args) y.dst=adE sF y.dst:=h4.1;exact⟨h6,by rw [<-h6];have:=h4.2;show nmR (abf (aeY (aeY s y.a) y.b) y.args) y.dst<_;omega,fun _=>by rw [<-h6];exact h4.2.1⟩
  . rw [if_neg e,if_neg e]
    exact⟨rfl,by omega,fun h=>absurd h e⟩
 refine⟨?_,⟨?_,?_,fun v hv=>?_,ed.2.1⟩,ed.2.2⟩
 . unfold arx aoS
   rw [ea.1,eb.1,ed.1];show aaK.mk _ _ _ _ _ (abG (aeY (aeY s y.a) y.b) y.args y.args.length)=_;rw [el]
 . show InV _ (ajT (adE sF) y.a);rw [<-ea.1];exact ea.2
 . show InV _ (ajT (adE sF) y.b);rw [<-eb.1];exact eb.2
 . obtain⟨v0,h0,rfl⟩:=Aal.1 (show v∈List.map _ _ from hv)
   exact bf v0 h0
theorem aqP(hs:aha n s){x:DBlock}(hx:aee n x)(he:Ext (ajM s x) sF):ar3 s x=afB (adE sF) x∧aee sF.many.toNat (afB (adE sF) x)∧(∀y∈x.list,0<=y.dst->0<=adE sF y.dst):=by
 have k1:=(amz (fun p hp=>hx.phi p hp)).ok s hs;have k2:=(ag0 (fun y hy=>hx.ins y hy)).ok _ k1;have x2:Ext (ary s x) sF:=((acJ hx.on).ext _ k2).trans he;have x1:=((ag0 (fun y hy=>hx.ins y hy)).ext _ k1).trans x2;have hp:∀(i:Nat) p,x.phis[i]?=some p->atb ((x.phis.take i).foldl ai8 s) p=akq (adE sF) p∧InP sF.many.toNat (akq (adE sF) p):=fun i p hp=>by
  obtain⟨h1,h2⟩:=afP (f:=ai8) (fun p hp=>amy (hx.phi p hp)) hs hp x1;exact aqN h1 (hx.phi p (Aae hp)) h2
 have hy:∀(i:Nat) y,x.list[i]?=some y->arx ((x.list.take i).foldl acX (x.phis.foldl ai8 s)) y=aoS (adE sF) y∧InI sF.many.toNat (aoS (adE sF) y)∧(0<=y.dst->0<=adE sF y.dst):=fun i y hy=>by
  obtain⟨h1,h2⟩:=afP (f:=acX) (fun y hy=>aoP (hx.ins y hy)) k1 hy x2;exact aqO h1 (hx.ins y (Aae hy)) h2
 have ho:=ag1 k2 hx.on he;refine⟨?_,⟨fun p bg=>?_,fun y aM=>?_,?_⟩,fun y aM=>?_⟩
 . unfold ar3 afB
   rw [show aco s x.phis x.phis.length=x.phis.map (akq (adE sF)) from amA _ _ fun i p h=>(hp i p h).1,show adX (x.phis.foldl ai8 s) x.list x.list.length=x.list.map (aoS (adE sF)) from amA _ _ fun i y h=>(hy i y h).1];rw [show aep (ary s x) x.fin.on=ajT (adE sF) x.fin.on from ho.1]
 . obtain⟨p0,h0,rfl⟩:=Aal.1 (show p∈List.map _ _ from bg)
   obtain⟨i,hi,rfl⟩:=Aav h0;exact (hp i _ (Aaa hi)).2
 . obtain⟨y0,h0,rfl⟩:=Aal.1 (show y∈List.map _ _ from aM)
   obtain⟨i,hi,rfl⟩:=Aav h0;exact (hy i _ (Aaa hi)).2.1
 . show InV _ (ajT (adE sF) x.fin.on)
   rw [<-ho.1];exact ho.2
 . obtain⟨i,hi,rfl⟩:=Aav aM
   exact (hy i _ (Aaa hi)).2.2
end
def aeD(p n:Nat)(bs:List DBlock):Nm:=bs.foldl ajM (al2 p n bs)
section
variable {p n : Nat} {bs : List DBlock}
theorem ajq(hp:p<=n)(hr:∀x∈bs,aee n x):aha n (al2 p n bs):=(Stp.fold (f:=aqc) fun x hx=>arS (hr x hx)).ok _ ((aoR hp).ok _ (apU n))
theorem aqQ(hp:p<=n)(hr:∀x∈bs,aee n x):aha n (aeD p n bs):=(Stp.fold (f:=ajM) fun x hx=>aoQ (hr x hx)).ok _ (ajq hp hr)
theorem adT(hp:p<=n)(hr:∀x∈bs,aee n x):adm p n bs=bs.map (afB (adE (aeD p n bs)))∧(∀x∈bs,aee (aeD p n bs).many.toNat (afB (adE (aeD p n bs)) x))∧∀x∈bs,∀y∈x.list,0<=y.dst->0<=adE (aeD p n bs) y.dst:=by
 have au:∀(i:Nat) x,bs[i]?=some x->ar3 ((bs.take i).foldl ajM (al2 p n bs)) x=afB (adE (aeD p n bs)) x∧aee (aeD p n bs).many.toNat (afB (adE (aeD p n bs)) x)∧(∀y∈x.list,0<=y.dst->0<=adE (aeD p n bs) y.dst):=fun i x hx=>by
  obtain⟨h1,h2⟩:=afP (f:=ajM) (sF:=aeD p n bs) (fun x hx=>aoQ (hr x hx)) (ajq hp hr) hx (Ext.refl _);exact aqP h1 (hr x (Aae hx)) h2
 have e:adm p n bs=bs.map (afB (adE (aeD p n bs))):=amA _ _ fun i x hx=>(au i x hx).1;refine⟨e,fun x hx=>?_,fun x hx=>?_⟩
 all_goals
  obtain⟨i,hi,rfl⟩:=Aav hx
 . exact (au i _ (Aaa hi)).2.1
 . exact (au i _ (Aaa hi)).2.2
theorem aiU (hp : p <= n) : ∀ k, k <= p -> (aib (nm0 n) k).many = (k : Int) ∧ ∀ r : Nat, k <= r -> r < n -> (aib (nm0 n) k).now.getD r 0 = -1
 | 0, _ => ⟨rfl, fun r _ hr => by
   show (List.replicate n (-1 : Int)).getD r 0 = -1
   rw [Aaf, Acb, if_pos hr]; rfl⟩
 | k+1,hk=>by
   obtain⟨h1,h2⟩:=aiU hp k (by omega);rw [aja];have h3:=h2 k (Aac _) (by omega);unfold nmS;rw [Aan,if_pos (by omega)];refine⟨by show (aib (nm0 n) k).many+1=_;omega,fun r hr hn=>?_⟩;show ((aib (nm0 n) k).now.set k _).getD r 0 = -1;rw [Aaf,Acm (by omega),<-Aaf];exact h2 r (by omega) hn
theorem akr(hp:p<=n)(hr:∀x∈bs,aee n x):(p:Int)<=afe p n bs∧afe p n bs<=n:=by
 have h1:=(aiU hp p (Aac _)).1;have k1:=(aoR hp).ok _ (apU n);have e1:=((Stp.fold (f:=aqc) fun x hx=>arS (hr x hx)).ext _ k1).many;have e2:=((Stp.fold (f:=ajM) fun x hx=>aoQ (hr x hx)).ext _ (ajq hp hr)).many;have h3:=(aqQ hp hr).many_le.2;have e3:afe p n bs=(aeD p n bs).many:=rfl;refine⟨?_,by rw [e3];exact h3⟩;rw [e3,<-h1];exact Int.le_trans e1 e2
end
theorem ahJ {N:Nat}(hN:N<=1048576){x:Int}(h : -1<=x∧x<(N:Int)):I64 x:=by unfold I64;omega
theorem afQ {N:Nat}(hN:N<=1048576){f:Int->Int}{v:aaA}(h:InV N (ajT f v))(h0:I64 v.n):I64 (ajT f v).n:=by
 unfold ajT at *
 by_cases e:v.reg=true
 . rw [if_pos e] at h ⊢
   have:=h rfl;exact ahJ hN ⟨by omega,this.2⟩
 . rw [if_neg e];exact h0
theorem aen.ren {n N:Nat}{bs:List DBlock}(h:aen n bs)(hN:N<=1048576){f:Int->Int}(hr:∀x∈bs,aee N (afB f x))(hd:∀x∈bs,∀y∈x.list,0<=y.dst->0<=f y.dst):aen N (bs.map (afB f)):=by
 have hto:(bs.map (afB f)).map (·.fin.to)=bs.map (·.fin.to):=by rw [Abb];rfl
 have aA:∀b,b<bs.length->blkOf (bs.map (afB f)) b=afB f (blkOf bs b):=fun b hb=>aaZ (by rw [Aak,aan bs hb];rfl);have ag:∀{x},x∈bs.map (afB f)->∃x0∈bs,x=afB f x0:=fun hx=>by
  obtain⟨x0,h0,rfl⟩:=Aal.1 hx;exact⟨x0,h0,rfl⟩
 have ad:acC (bs.map (afB f)):=by
  refine⟨by rw [Aah];exact h.ok.len,fun x hx=>?_,fun x hx=>?_,fun x hx=>?_,fun x hx t ht=>?_,fun x hx=>?_,fun b hb q hq=>?_⟩
  . obtain⟨x0,h0,rfl⟩:=ag hx
    have hn:=h.ok.num x0 h0;have aO:=hr x0 h0;refine⟨hn.kind,afQ hN aO.on hn.on,hn.to,fun q hq=>?_,fun y hy=>?_⟩
    . obtain⟨q0,h1,rfl⟩:=Aal.1 (show q∈List.map _ _ from hq)
      have hp:=aO.phi (akq f q0) hq;refine⟨ahJ hN ⟨by have:=hp.1.1;omega,hp.1.2⟩,fun v hv=>?_⟩;obtain⟨v0,h2,rfl⟩:=Aal.1 (show v∈List.map _ _ from hv);exact afQ hN (hp.2 _ hv) ((hn.phi q0 h1).2 v0 h2)
    . obtain⟨y0,h1,rfl⟩:=Aal.1 (show y∈List.map _ _ from hy)
      have hp:=aO.ins (aoS f y0) hy;obtain⟨n1,n2,n3,n4,n5,n6⟩:=hn.ins y0 h1;refine⟨n1,?_,afQ hN hp.1 n3,afQ hN hp.2.1 n4,n5,fun v hv=>?_⟩
      . show I64 (ap5 f y0.dst)
        have aQ:=hp.2.2.2;unfold ap5
        by_cases e:0<=y0.dst
        . rw [if_pos e]
          have e2:(aoS f y0).dst=f y0.dst:=if_pos e;rw [e2] at aQ;exact ahJ hN ⟨by have:=hd x0 h0 y0 h1 e;omega,aQ⟩
        . rw [if_neg e];exact n2
      . obtain⟨v0,h2,rfl⟩:=Aal.1 (show v∈List.map _ _ from hv)
        exact afQ hN (hp.2.2.1 _ hv) (n6 v0 h2)
  . obtain⟨x0,h0,rfl⟩:=ag hx
    have hs:=h.ok.small x0 h0;refine⟨by show (List.map _ _).length<=_;rw [Aah];exact hs.phis,by show (List.map _ _).length<=_;rw [Aah];exact hs.list,hs.to,fun q hq=>?_,fun y hy=>?_⟩
    . obtain⟨q0,h1,rfl⟩:=Aal.1 (show q∈List.map _ _ from hq)
      show (List.map _ _).length<=_;rw [Aah];exact hs.src q0 h1
    . obtain⟨y0,h1,rfl⟩:=Aal.1 (show y∈List.map _ _ from hy)
      show (List.map _ _).length<=_;rw [Aah];exact hs.args y0 h1
  . obtain⟨x0,h0,rfl⟩:=ag hx
    exact h.ok.to2 x0 h0
  . obtain⟨x0,h0,rfl⟩:=ag hx
    rw [Aah];exact h.ok.toIn x0 h0 t ht
  . obtain⟨x0,h0,rfl⟩:=ag hx
    exact h.ok.toNd x0 h0
  . rw [Aah] at hb
    rw [aA b hb] at hq;obtain⟨q0,h1,rfl⟩:=Aal.1 (show q∈List.map _ _ from hq);rw [acH _ _ 0 b hto];show (List.map _ _).length=_;rw [Aah];exact h.ok.src b hb q0 h1
 refine⟨ad,aii ad (by rw [Aah];exact h.tok.pos),fun x hx hj=>?_,?_,fun x hx=>?_⟩
 . obtain⟨x0,h0,rfl⟩:=ag hx
   exact h.jump x0 h0 hj
 . rw [Abb,show ((fun x:DBlock=>x.list.length) ∘ afB f)=fun x:DBlock=>x.list.length by funext x;show (List.map _ _).length=_;rw [Aah]]
   exact h.sum
 . obtain⟨x0,h0,rfl⟩:=ag hx
   exact hr x0 h0
theorem aen.names {p n:Nat}{bs:List DBlock}(h:aen n bs)(hp:p<=n)(hn:n<=1048576):aen (afe p n bs).toNat (adm p n bs):=by
 obtain⟨e,h1,h2⟩:=adT hp h.reg;have hN:=akr hp h.reg;rw [e];exact h.ren (by omega) h1 h2
end
section
structure as7 (fs:List aav)(y:aaK):Prop where
 op:1<=y.op∧y.op<=22
 form:acx y=false
 dst:shpD y.op=true->¬(y.op=20∧y.dst = -1)->0<=y.dst
 call:y.op=20->(0<=y.fn∧y.fn<=(fs.length:Int) - 1)∧(y.args.length:Int)=(fs.getD y.fn.toNat ⟨ByteArray.empty,0,0,[]⟩).params
structure aeE (fs:List aav)(bs:List DBlock):Prop where
 kind:∀x∈bs,(1<=x.fin.kind∧x.fin.kind<=3)∧(x.fin.to.length:Int)=x.fin.kind - 1∧(∀t∈x.fin.to,1<=t)∧(x.fin.kind=2->x.fin.on=⟨false,0⟩)
 phi0:(blkOf bs 0).phis=[]
 ins:∀x∈bs,∀y∈x.list,as7 fs y
 len:bs.length<=40
 many:aa5 bs<=300
theorem adF {n:Nat}{v:aaA}:acu (n:Int) v=0↔InV n v:=by
 unfold acu InV;constructor
 . intro h hr
   by_cases h1:v.reg=true∧¬(0<=v.n∧v.n<=(n:Int) - 1)
   . rw [if_pos h1] at h;omega
   . have:¬¬(0<=v.n∧v.n<=(n:Int) - 1):=fun h3=>h1 ⟨hr,h3⟩
     omega
 . intro h
   rw [if_neg];rintro⟨h1,h2⟩;have:=h h1;omega
theorem asA {fs:List aav}{n:Nat}{y:aaK}(h:as7 fs y)(hr:InI n y):age fs (n:Int) y=0:=by
 unfold age;rw [if_neg (by have:=h.op;omega),if_neg (by rw [h.form];simp)];rw [if_neg]
 . unfold adh
   rw [adF.2 hr.1,adF.2 hr.2.1,if_neg (by omega),if_neg (by omega)];unfold ado
   by_cases e:y.op=20
   . rw [if_neg (by omega)]
     have hc:=h.call e;rw [if_neg (by omega),if_neg (by omega)];exact adU.2 fun v hv=>adF.2 (hr.2.2.1 v hv)
   . rw [if_pos e]
 . rintro⟨⟨h1,h2⟩,h3⟩
   apply h3;unfold agY;have:=h.dst h1 h2;have:=hr.2.2.2;rw [if_neg (by omega)]
theorem aoT {fs:List aav}{n:Nat}{y:aaK}(h:age fs (n:Int) y=0):as7 fs y∧InI n y:=by
 unfold age at h
 by_cases h1:¬(1<=y.op∧y.op<=22)
 . rw [if_pos h1] at h;omega
 rw [if_neg h1] at h
 by_cases h2:acx y=true
 . rw [if_pos h2] at h;omega
 rw [if_neg h2] at h
 by_cases h3:(shpD y.op=true∧¬(y.op=20∧y.dst = -1))∧agY n y.dst≠0
 . rw [if_pos h3] at h;omega
 rw [if_neg h3] at h;unfold adh at h
 by_cases a1:acu n y.a≠0
 . rw [if_pos a1] at h;exact absurd h a1
 rw [if_neg a1] at h
 by_cases a2:acu n y.b≠0
 . rw [if_pos a2] at h;exact absurd h a2
 rw [if_neg a2] at h;have hf:acx y=false:=by simpa using h2
 have hd:shpD y.op=true->¬(y.op=20∧y.dst = -1)->0<=y.dst∧y.dst<n:=fun g1 g2=>by
  by_cases hz:agY n y.dst=0
  . exact ajF hz
  . exact absurd ⟨⟨g1,g2⟩,hz⟩ h3
 have aJ:=hf;unfold acx at aJ;simp only [Bool.or_eq_false_iff,Bool.and_eq_false_iff,decide_eq_false_iff_not,Bool.not_eq_false'] at aJ;obtain⟨⟨⟨g1,-⟩,-⟩,g4⟩:=aJ;have aI:y.dst<n:=by
  rcases g1 with g1 | g1
  . by_cases e:y.op=20∧y.dst = -1
    . omega
    . exact (hd g1 e).2
  . have e:y.dst = -1:=Classical.not_not.1 g1
    omega
 have ah:y.op=20->(0<=y.fn∧y.fn<=(fs.length:Int) - 1)∧(y.args.length:Int)=(fs.getD y.fn.toNat ⟨ByteArray.empty,0,0,[]⟩).params∧∀v∈y.args,InV n v:=fun e=>by
  unfold ado at h;rw [if_neg (by omega)] at h
  by_cases b1:¬(0<=y.fn∧y.fn<=(fs.length:Int) - 1)
  . rw [if_pos b1] at h;omega
  rw [if_neg b1] at h
  by_cases b2:(y.args.length:Int)≠(fs.getD y.fn.toNat ⟨ByteArray.empty,0,0,[]⟩).params
  . rw [if_pos b2] at h;omega
  rw [if_neg b2] at h;exact⟨by omega,by omega,fun v hv=>adF.1 (adU.1 h v hv)⟩
 refine⟨⟨by omega,hf,fun a b=>(hd a b).1,fun e=>⟨(ah e).1,(ah e).2.1⟩⟩,adF.1 (by omega),adF.1 (by omega),fun v hv=>?_,aI⟩
 by_cases e:y.op=20
 . exact (ah e).2.2 v hv
 . rcases g4 with g4 | g4
   . exact absurd e g4
   . have h0:y.args.length=0:=by
      have:=g4.2;omega
     rw [Aba h0] at hv;cases hv
section
variable {fs : List aav} {n : Nat} {bs : List DBlock}
theorem asB(h:aen n bs)(hc:aeE fs bs)(nm:ByteArray)(p:Int):adx fs ⟨nm,p,(n:Int),bs⟩=0:=by
 refine aeW.2 ⟨fun k hk=>?_,fun k hk=>?_⟩
 . have an:k<bs.length:=hk
   have hm:=aar an;obtain⟨k1,k2,k3,k4⟩:=hc.kind _ hm;unfold agf;show (match bs[k]? with | some b=>afA bs.length (n:Int) b.fin | none=>0)=0;rw [aan bs an];refine ag6.2 ⟨k1,k2,fun t ht=>⟨k3 t ht,by have:=h.ok.toIn _ hm t ht;omega⟩,?_,adF.2 (h.reg _ hm).on⟩;rintro (⟨e1,e2⟩ | ⟨e1,e2⟩)
   . have hn:=h.ok.toNd _ hm
     have hl:(blkOf bs k).fin.to.length=2:=by omega
     match hh:(blkOf bs k).fin.to,hl with
     | [a,b],_ =>
       rw [hh] at hn e2;have e3:a=b:=e2;rw [e3] at hn;exact absurd (Aax.2 rfl) (List.nodup_cons.1 hn).1
   . exact e2 (k4 e1)
 . have an:k<bs.length:=hk
   have hm:=aar an;refine (aea (aan bs an)).2 ⟨fun p hp=>?_,fun y hy=>asA (hc.ins _ hm y hy) ((h.reg _ hm).ins y hy)⟩;refine af1.2 ⟨fun e=>?_,?_,?_,adU.2 fun v hv=>adF.2 (((h.reg _ hm).phi p hp).2 v hv)⟩
   . subst e
     rw [hc.phi0] at hp;cases hp
   . have:=((h.reg _ hm).phi p hp).1
     unfold agY;rw [if_neg (by show ¬¬(0<=p.dst∧p.dst<=(n:Int) - 1);omega)]
   . show p.src.length=((aheadF bs).getD k []).length
     rw [acF an];exact h.ok.src k an p hp
theorem asC {f:aav}(aL:∀x∈f.blocks,aoq x)(hr:f.regs=(n:Int))(hb:adx fs f=0)(h1:1<=f.blocks.length)(h2:f.blocks.length<=40)(hm:aa5 f.blocks<=300)(ay:∀x∈f.blocks,∀y∈x.list,y.args.length<=1048576):aen n f.blocks∧aeE fs f.blocks:=by
 obtain⟨e1,e2⟩:=aeW.1 hb;have he:∀k,k<f.blocks.length->_:=fun k hk=>by
  have h:=e1 k hk;unfold agf at h;rw [aan f.blocks hk,hr] at h;exact ag6.1 h
 have aA:∀k,k<f.blocks.length->_:=fun k hk=>(aea (aan f.blocks hk)).1 (by have h:=e2 k hk;rw [hr] at h;exact h);have af:∀x∈f.blocks,∃k,k<f.blocks.length∧x=blkOf f.blocks k:=fun x hx=>abS hx;have aC:∀k,k<f.blocks.length->∀p∈(blkOf f.blocks k).phis,k≠0∧InP n p∧p.src.length=(aaf f.blocks 0 k).length:=fun k hk p hp=>by
  obtain⟨a1,a2,a3,a4⟩:=af1.1 ((aA k hk).1 p hp);rw [acF hk] at a3;exact⟨a1,⟨ajF a2,fun v hv=>adF.1 (adU.1 a4 v hv)⟩,a3⟩
 have ar:∀x∈f.blocks,x.fin.to.length<=2:=fun x hx=>by
  obtain⟨k,hk,rfl⟩:=af x hx;have:=he k hk;omega
 have ad:acC f.blocks:=by
  refine⟨by omega,aL,fun x hx=>?_,ar,fun x hx t ht=>?_,fun x hx=>?_,fun k hk p hp=>(aC k hk p hp).2.2⟩
  . have:=ags hx
    refine⟨by omega,by omega,by have:=ar x hx;omega,fun p hp=>?_,ay x hx⟩;obtain⟨k,hk,rfl⟩:=af x hx;rw [(aC k hk p hp).2.2];have:=afr k f.blocks 0 ar;omega
  . obtain⟨k,hk,rfl⟩:=af x hx
    have:=(he k hk).2.2.1 t ht;omega
  . obtain⟨k,hk,rfl⟩:=af x hx
    obtain⟨g1,g2,g3,g4,-⟩:=he k hk
    match hh:(blkOf f.blocks k).fin.to with
    | []=>simp
    | [a]=>simp
    | [a,b] =>
      rw [hh] at g2 g4;have bd:(blkOf f.blocks k).fin.kind=3:=by simp at g2;omega
      have:¬a=b:=fun e=>g4 (.inl ⟨bd,e⟩);simp [this]
    | a :: b :: c :: l=>rw [hh] at g2;simp at g2;omega
 refine⟨⟨ad,aii ad (by omega),fun x hx hj=>?_,?_,fun x hx=>?_⟩,⟨fun x hx=>?_,?_,fun x hx y hy=>?_,h2,hm⟩⟩
 . obtain⟨k,hk,rfl⟩:=af x hx
   have:=he k hk;omega
 . have:(f.blocks.map fun x=>x.list.length).sum<=aa5 f.blocks:=by
    unfold aa5;generalize f.blocks=l
    induction l with
    | nil=>exact Aac _
    | cons a l ih=>simp only [Aa1,Abj];omega
   omega
 . obtain⟨k,hk,rfl⟩:=af x hx
   exact⟨fun p hp=>(aC k hk p hp).2.1,fun y hy=>(aoT ((aA k hk).2 y hy)).2,adF.1 (he k hk).2.2.2.2⟩
 . obtain⟨k,hk,rfl⟩:=af x hx
   obtain⟨g1,g2,g3,g4,-⟩:=he k hk;exact⟨g1,g2,fun t ht=>(g3 t ht).1,fun e=>Classical.not_not.1 fun h=>g4 (.inr ⟨e,h⟩)⟩
 . cases hp:(blkOf f.blocks 0).phis with
   | nil=>rfl
   | cons p l=>exact absurd rfl (aC 0 (by omega) p (by rw [hp];exact Aa3 ..)).1
 . obtain⟨k,hk,rfl⟩:=af x hx
   exact (aoT ((aA k hk).2 y hy)).1
theorem aeE.keep(h:aen n bs)(hc:aeE fs bs):aeE fs (aa1 bs (ordL bs)):=by
 have ho:=aef h.tok;have aS:∀b∈ordL bs,b.toNat<bs.length:=fun b hb=>by have:=ho.inn b hb;omega
 refine⟨fun x hx=>?_,?_,fun x hx y hy=>?_,?_,?_⟩
 . obtain⟨b,hb,rfl⟩:=ab1 hx
   obtain⟨k1,k2,k3,k4⟩:=hc.kind _ (aar (aS b hb));refine⟨k1,by show ((List.map _ _).length:Int)=_;rw [Aah];exact k2,fun t ht=>?_,k4⟩;obtain⟨t0,h0,rfl⟩:=Aal.1 (show t∈List.map _ _ from ht);obtain⟨i,h1,h2,-⟩:=afw ho hb h0;have:=k3 t0 h0;rw [h2]
   by_cases e:i=0
   . subst e
     rw [ho.head] at h1;have:=Option.some.inj h1;omega
   . omega
 . rw [acY ho.head]
   show List.map _ (blkOf bs 0).phis=[];rw [hc.phi0];rfl
 . obtain⟨b,hb,rfl⟩:=ab1 hx
   exact hc.ins _ (aar (aS b hb)) y hy
 . rw [abg]
   exact Aai (al6 ho) hc.len
 . exact Aai (amS (fun b=>b.phis.length+b.list.length) (fun _ _ _=>by show (List.map _ _).length+_=_;rw [Aah];rfl) ho) hc.many
theorem ano {b:Nat}(ad:ae4 bs)(hb:b<bs.length)(h:acd bs b=true):aa5 (aaJ bs b)=aa5 bs:=by
 obtain⟨h1,h2,h3,-,h5,-⟩:=aba ad hb h;have aH:b<(ac7 bs (toJ bs b) b).length:=by rw [aa7];exact hb
 have aR:toJ bs b<((ac7 bs (toJ bs b) b).set b (afZ bs (toJ bs b) b)).length:=by rw [Aar,aa7];exact h5
 have hr:(ac7 bs (toJ bs b) b).map (fun x=>x.phis.length+x.list.length)=bs.map (fun x=>x.phis.length+x.list.length):=by
  apply Aao;intro i;rw [Aak,Aak]
  by_cases hi:i<bs.length
  . rw [aan bs hi,aan (ac7 bs (toJ bs b) b) (by rw [aa7];exact hi),Aaw,Aaw,(aaN ad.ok h5 i).2.1,(aaN ad.ok h5 i).2.2]
  . rw [Aap (by rw [aa7];omega),Aap (by omega)]
 have s1:=ab6 (fun x:DBlock=>x.phis.length+x.list.length) (ac7 bs (toJ bs b) b) b (afZ bs (toJ bs b) b) aH;have s2:=ab6 (fun x:DBlock=>x.phis.length+x.list.length) ((ac7 bs (toJ bs b) b).set b (afZ bs (toJ bs b) b)) (toJ bs b) ac6 aR;rw [ab0 aH,(aaN ad.ok h5 b).2.1,(aaN ad.ok h5 b).2.2,hr] at s1;rw [ab0 aR,aaR aH,if_neg h2,(aaN ad.ok h5 _).2.1,(aaN ad.ok h5 _).2.2,h3] at s2;have s3:(afZ bs (toJ bs b) b).list.length=(blkOf bs b).list.length+(blkOf bs (toJ bs b)).list.length:=by simp [afZ]
 have s5:(afZ bs (toJ bs b) b).phis.length=(blkOf bs b).phis.length:=by
  show (blkOf (ac7 bs (toJ bs b) b) b).phis.length=_;rw [(aaN ad.ok h5 b).2.2]
 have s4:ac6.phis.length+ac6.list.length=0:=rfl;have s6:([]:List acr).length=0:=rfl;unfold aa5 aaJ;omega
theorem aeE.merge {b:Nat}(ad:ae4 bs)(hb:b<bs.length)(h:acd bs b=true)(hc:aeE fs bs):aeE fs (aaJ bs b):=by
 obtain⟨h1,h2,h3,h4,h5,h6⟩:=aba ad hb h;refine⟨fun x hx=>?_,?_,fun x hx y hy=>?_,by rw [aaQ];exact hc.len,by rw [ano ad hb h];exact hc.many⟩
 . obtain⟨c,ai,rfl⟩:=abS hx
   rw [aaQ] at ai;rcases abT hb h5 c with⟨-,e⟩ | ⟨-,rfl,e⟩ | ⟨-,-,e⟩
   . rw [e]
     refine⟨⟨by decide,by decide⟩,by decide,fun t ht=>?_,fun h=>?_⟩
     . cases ht
     . exact absurd h (by decide)
   . rw [e];exact hc.kind (blkOf bs (toJ bs c)) (aar h5)
   . rw [e,(aaN ad.ok h5 c).1];exact hc.kind _ (aar ai)
 . have hlen:(blkOf (ac7 bs (toJ bs b) b) 0).phis.length=0:=by rw [(aaN ad.ok h5 0).2.2,hc.phi0];rfl
   rcases abT hb h5 0 with⟨-,e⟩ | ⟨-,e0,e⟩ | ⟨-,-,e⟩
   . rw [e];rfl
   . subst e0
     rw [e];exact Aba hlen
   . rw [e];exact Aba hlen
 . obtain⟨c,ai,rfl⟩:=abS hx
   rw [aaQ] at ai;rcases abT hb h5 c with⟨-,e⟩ | ⟨-,rfl,e⟩ | ⟨-,-,e⟩
   . rw [e] at hy;cases hy
   . rw [e] at hy
     rcases Aa7.1 (show y∈_++_ from hy) with hy | hy
     . exact hc.ins _ (aar ai) y hy
     . exact hc.ins _ (aar h5) y hy
   . rw [e,(aaN ad.ok h5 c).2.1] at hy;exact hc.ins _ (aar ai) y hy
theorem aeE.chains(h:aen n bs)(hc:aeE fs bs):aeE fs (acm bs) :=
 abI (P:=aeE fs) (fun _bs _b ad hb hm h=>aeE.merge ad hb hm h) h.ch hc _ (Aac _)
theorem agp {f:Int->Int}{v:aaA}(h:v=⟨false,0⟩):ajT f v=⟨false,0⟩:=by subst h;rfl
theorem aeE.ren {f:Int->Int}(hc:aeE fs bs)(hd:∀x∈bs,∀y∈x.list,0<=y.dst->0<=f y.dst):aeE fs (bs.map (afB f)):=by
 refine⟨fun x hx=>?_,?_,fun x hx y hy=>?_,by rw [Aah];exact hc.len,?_⟩
 . obtain⟨x0,h0,rfl⟩:=Aal.1 hx
   obtain⟨k1,k2,k3,k4⟩:=hc.kind x0 h0;exact⟨k1,k2,k3,fun e=>agp (k4 e)⟩
 . have h0:=hc.phi0
   cases bs with
   | nil=>rfl
   | cons x l=>show List.map _ x.phis=[];rw [show x.phis=[] from h0];rfl
 . obtain⟨x0,h0,rfl⟩:=Aal.1 hx
   obtain⟨y0,h1,rfl⟩:=Aal.1 (show y∈List.map _ _ from hy);have hi:=hc.ins x0 h0 y0 h1;have aI:=hd x0 h0 y0 h1;have aE:=hi.form;unfold acx at aE;simp only [Bool.or_eq_false_iff,Bool.and_eq_false_iff,decide_eq_false_iff_not,Bool.not_eq_false'] at aE;obtain⟨⟨⟨g1,g2⟩,g3⟩,g4⟩:=aE;have aP:y0.dst = -1->(aoS f y0).dst = -1:=fun e=>by
    show ap5 f y0.dst = -1;unfold ap5;rw [if_neg (by omega)];exact e
   refine⟨hi.op,?_,fun a b=>?_,fun e=>?_⟩
   . unfold acx
     simp only [Bool.or_eq_false_iff,Bool.and_eq_false_iff,decide_eq_false_iff_not,Bool.not_eq_false'];refine⟨⟨⟨?_,?_⟩,?_⟩,?_⟩
     . rcases g1 with g | g
       . exact .inl g
       . exact .inr fun h=>h (aP (Classical.not_not.1 g))
     . rcases g2 with g | g
       . exact .inl g
       . exact .inr fun h=>h (agp (Classical.not_not.1 g))
     . rcases g3 with g | g
       . exact .inl g
       . exact .inr fun h=>h (agp (Classical.not_not.1 g))
     . rcases g4 with g | g
       . exact .inl g
       . refine .inr ⟨g.1,?_⟩
         show ¬0<(List.map _ _).length;rw [Aah];exact g.2
   . show 0<=ap5 f y0.dst
     have h2:=hi.dst a fun⟨e1,e2⟩=>b ⟨e1,aP e2⟩;unfold ap5;rw [if_pos h2];exact aI h2
   . have ai:=hi.call e
     refine⟨ai.1,?_⟩;show ((List.map _ _).length:Int)=_;rw [Aah];exact ai.2
 . have hm:=hc.many
   unfold aa5 at hm ⊢;rw [Abb,show ((fun b:DBlock=>b.phis.length+b.list.length) ∘ afB f)=fun b:DBlock=>b.phis.length+b.list.length by funext x;show (List.map _ _).length+(List.map _ _).length=_;rw [Aah,Aah]];exact hm
theorem aeE.do {p:Nat}(h:aen n bs)(hc:aeE fs bs)(hp:p<=n):aeE fs (doB p n bs):=by
 have h1:=aeE.keep h hc;have h2:aeE fs (amT bs):=aeE.chains h.keep h1;have h3:aeE fs (ac3 bs):=aeE.keep h.pre h2;obtain⟨e,-,e2⟩:=adT hp h.kept.reg;unfold doB;rw [e];exact h3.ren e2
end
end
section
def abi(f:aav):aav:=⟨f.name,f.params,doN f.params.toNat f.regs.toNat f.blocks,doB f.params.toNat f.regs.toNat f.blocks⟩
def atz(u:adz):adz:=⟨u.globals,u.funcs.map abi⟩
def ais(u:adz):Prop:=∀f∈u.funcs,∀x∈f.blocks,aoq x
variable {fs ae:List aav}
theorem anp(h:apG fs ae){y:aaK}(hi:as7 fs y):as7 ae y:=by
 refine⟨hi.op,hi.form,hi.dst,fun e=>?_⟩;obtain⟨h1,h2⟩:=hi.call e;refine⟨by rw [h.len];exact h1,?_⟩;have hk:y.fn.toNat<fs.length:=by omega
 obtain⟨f',e1,-,e3⟩:=h.at_ _ _ (Aaa hk);rw [Aaf,e1,Option.getD_some,e3];rw [Aaf,Aaa hk,Option.getD_some] at h2;exact h2
variable {bs:List DBlock}
theorem anq(h:apG fs ae)(hc:aeE fs bs):aeE ae bs:=⟨hc.kind,hc.phi0,fun x hx y hy=>anp h (hc.ins x hx y hy),hc.len,hc.many⟩
theorem ahK{gs : List aaG}  (h : aat ⟨gs, fs⟩ = (0, 0)) (hl : ae.length = fs.length)
 (ht:∀(k:Nat) (f:aav),fs[k]?=some f->∃(n:Nat) (bs:List DBlock),ae[k]?=some ⟨f.name,f.params,(n:Int),bs⟩∧aen n bs∧aeE fs bs∧f.params<=n∧n<=100∧1<=bs.length):aat ⟨gs,ae⟩=(0,0):=by
 have aK:apG fs ae:=⟨hl,fun k f hf=>by obtain⟨n,bs,h1,-⟩:=ht k f hf;exact⟨_,h1,rfl,rfl⟩⟩
 obtain⟨h1,h2,h3,h4,h5⟩:=acq (by rw [h]);have aj:∀k,(ae.take k).map (·.name)=(fs.take k).map (·.name):=fun k=>by
  refine Aao fun i=>?_;rw [Aak,Aak,Abk,Abk]
  by_cases hik:i<k
  . rw [if_pos hik,if_pos hik]
    cases hf:fs[i]? with
    | none =>
      have:ae[i]?=none:=by rw [List.getElem?_eq_none_iff] at hf ⊢;omega
      rw [this]
    | some f =>
      obtain⟨f',h1,h2,-⟩:=aK.at_ i f hf;rw [h1,Aaw,Aaw,h2]
  . rw [if_neg hik,if_neg hik]
 have ao:∀k,ab9 gs ae k=0:=fun k=>by
  have h6:=h4 k;unfold ab9 ac4 at h6 ⊢;rw [aj];cases hf:fs[k]? with
  | none =>
    have:ae[k]?=none:=by rw [List.getElem?_eq_none_iff] at hf ⊢;omega
    rw [this]
  | some f =>
    obtain⟨n,bs,e1,aY,aD,hp,hn,bl⟩:=ht k f hf;rw [hf] at h6;rw [e1];obtain⟨q1,q2,q3,q4,-,-,-,-,-⟩:=ac9 h6;show aev _ ⟨f.name,f.params,(n:Int),bs⟩=0;unfold aev;rw [if_neg (by rw [q1];simp),if_neg (by simp only [Bool.not_eq_true];exact q2),if_neg (by show ¬(¬(0<=f.params∧f.params<=6)∨¬(f.params<=(n:Int)∧(n:Int)<=100));omega),if_neg];have:=aD.len;have:=aD.many;show ¬(¬(1<=bs.length∧bs.length<=40)∨300<aa5 bs);omega
 have av:∀k,abJ ae k=0:=fun k=>by
  unfold abJ;cases hf:fs[k]? with
  | none =>
    have:ae[k]?=none:=by rw [List.getElem?_eq_none_iff] at hf ⊢;omega
    rw [this]
  | some f =>
    obtain⟨n,bs,e1,aY,aD,-⟩:=ht k f hf;rw [e1];exact asB aY (anq aK aD) _ _
 have ax:abz ae=abz fs:=by
  unfold abz;have:ae.findIdx? ahs=fs.findIdx? ahs:=by
   have e1:∀l:List aav,l.findIdx? ahs=(l.map (·.name)).findIdx? (fun s=>s.toList == [109,97,105,110]):=fun l=>by
    rw [List.findIdx?_map];rfl
   have e2:=aj fs.length;rw [Abr (by omega),Abr (by omega)] at e2;rw [e1,e1,e2]
  rw [this]
 have aw:air ae=air fs:=by
  unfold air;rw [ax]
  by_cases hm:abz fs<0
  . rw [if_pos hm,if_pos hm]
  . rw [if_neg hm,if_neg hm]
    obtain⟨m,aZ,a6⟩:=aiF hm;rw [a6,Aan];obtain⟨f',e1,-,e3⟩:=aK.at_ m _ (Aaa aZ);rw [Aaf,Aaf,e1,Aaa aZ,Option.getD_some,Option.getD_some,e3]
 rw [<-h];unfold aat;dsimp only;rw [hl,aw];have p1:adq (ad1 gs) gs.length=gs.length:=abV fun j _=>h3 j;have p2:adq (ab9 gs ae) fs.length=fs.length:=abV fun j _=>ao j;have p3:adq (abJ ae) fs.length=fs.length:=abV fun j _=>av j;have p4:adq (abJ fs) fs.length=fs.length:=abV fun j _=>h5 j;have p5:adq (ab9 gs fs) fs.length=fs.length:=abV fun j _=>h4 j;rw [p1,p2,p3,p4,p5];simp only [Abq,if_false]
variable {u:adz}
theorem aks(h:aat u=(0,0))(hn:ais u){k:Nat}{f:aav}(hf:u.funcs[k]?=some f) :
 aen f.regs.toNat f.blocks∧aeE u.funcs f.blocks∧f.params.toNat<=f.regs.toNat∧f.regs.toNat<=100∧0<=f.params∧0<=f.regs:=by
 obtain⟨hh,hb⟩:=adl h hf;obtain⟨-,-,p1,p2,p3,p4,l1,l2,hm⟩:=ac9 hh;have a8:=(ace h).2 f (Aae hf);have hr:f.regs=((f.regs.toNat:Nat):Int):=by omega
 obtain⟨h1,h2⟩:=asC (n:=f.regs.toNat) (hn f (Aae hf)) hr hb l1 l2 hm (fun x hx=>(a8.each x hx).args);exact⟨h1,h2,by omega,by omega,p1,by omega⟩
theorem akt{n p:Nat}(h:aen n bs)(hp:p<=n)(hn:n<=1048576):aen (doN p n bs).toNat (doB p n bs):=h.kept.names hp hn
theorem aoU{n p:Nat}(h:aen n bs)(hp:p<=n):(p:Int)<=doN p n bs∧doN p n bs<=n:=akr hp h.kept.reg
theorem ahL(h:aat u=(0,0))(hn:ais u):ais (atz u):=fun f hf x hx=>by
 obtain⟨f0,h0,rfl⟩:=Aal.1 hf;obtain⟨i,hi,rfl⟩:=Aav h0;obtain⟨h1,-,h3,h4,-⟩:=aks h hn (Aaa hi);exact (akt h1 h3 (by omega)).ok.num x hx
theorem afn(h:aat u=(0,0))(hn:ais u):aat (atz u)=(0,0):=by
 refine ahK (fs:=u.funcs) h (by simp) fun k f hf=>?_;obtain⟨h1,h2,h3,h4,h5,h6⟩:=aks h hn hf;have h7:=aoU h1 h3;refine⟨(doN f.params.toNat f.regs.toNat f.blocks).toNat,doB f.params.toNat f.regs.toNat f.blocks,?_,akt h1 h3 (by omega),aeE.do h1 h2 h3,by omega,by omega,(akt h1 h3 (by omega)).tok.pos⟩;rw [Aak,hf,Abf (by omega)];rfl
end
section
open Go.RowKit
set_option maxRecDepth 100000 in
set_option maxHeartbeats 1000000 in
theorem aqR {S : Nat -> Prop} (nm : ByteArray) (p r : Int) (ba : Option Addr) (n bc : Nat) (bs : List DBlock) (w : World) (hb : SlAt S w 6 aa2 (.slice ba n bc) bs) (aT : bs.length = n)
 (h1:n<=40) (h2:aa5 bs<=300) (h3:r<=100) (h4:0<=r) :
 Calls Tryz.prog 55 #[.agg #[.string nm,.int .i64 p,.int .i64 r,.slice ba n bc]] w fun e w'=>e = .returned (.bool false)∧Below w.heap.size w w':=by
 have Hb:=hid hb;have aU:=hid aT;clear hb aT;go_enter Tryz.func55,Tryz.ntmps55;go_wp2_with fail
 go_loopw [3, 9] (fun m i wr => ∃ k : Nat, k <= n ∧ i = .int .i64 k ∧ m = .int .i64 (aa5 (bs.take k) : Nat) ∧ Below (w.heap.size + 1) (w.alloc (Obj.cells #[.string nm, .int .i64 p, .int .i64 r, .slice ba n bc] 37)) wr)
  (fun _ i _=>n - (intOf i).toNat)
 case atStart=>exact⟨0,Aaj _,rfl,rfl,Below.refl _ _⟩
 case round =>
  obtain⟨k,hk,rfl,rfl,ak⟩:=hrel
  by_cases hlt:k<n
  . have aB:k<bs.length:=by rw [aU.out];exact hlt
    have a7:=ahw bs k aB;have bk:=aj9 bs (k+1);have aq:=hid ak;have aX:=((Below.refl w.heap.size w).alloc (Aac _) _).trans (ak.mono (by simp));obtain⟨b,off,cs,rfl,hS,hx,ai,aW⟩:=(Hb.out.later aau aX).get aB;obtain⟨pa,pc,la,lc,ta,tc,rfl,-,-,-,bh,be,bj,-,-⟩:=hx.opens;obtain⟨c0,c1,c2,c3,c4,c5⟩:=aW.get6;have aG:=ak.size;simp at aG;clear ak aX aW ai hx;go_wp2_with fail;go_roundw
    case rel=>exact⟨k+1,by omega,by go_num,by rw [a7];go_num,by have h:=aq.out;exact bE1 h⟩
    case measure=>simp [intOf];omega
  . obtain⟨hc,hf⟩:=aaI ak
    have aq:=hid ak;have aG:=ak.size;simp at aG;clear ak;obtain rfl:k=n:=by omega
    rw [Abr (by rw [aU.out];exact Aac _)];generalize hmany:aa5 bs=many at *;clear hmany;have hD:(decide (40<(k:Int))||decide (300<(many:Int))||decide (100<r))=false:=by
     simp only [Bool.or_eq_false_iff,decide_eq_false_iff_not];omega
    have HD:=hid hD;clear hD;go_wp2_with fail;go_ret;exact⟨congrArg (fun b=>Ending.returned (Value.bool b)) HD.out,by have h:=aq.out;exact bE1 h⟩
end
end Go.Proofs.YtpeejlpcikefcaaGreatDoor
