import Derived.Test.YtpeejlpcikefcaaGreatDoorPTid1
/- tidy.NamesOf: what of a function its second pass writes, in memory. tidy.NamesOf: a block on its way through the second pass. tidy, plain: names are given by one table, the last one; what is asked stays. tidy, plain: a checked unit stays checked. tidy, plain: the unit. graph.Large of a function that is not too large. -/
namespace Go.Proofs.YtpeejlpcikefcaaGreatDoor
section
open Go.RowKit
def ato (x y : DBlock) (b : Nat) : Pth -> Prop
 | .blks=>x.fin.kind=y.fin.kind∧x.fin.on=y.fin.on
 | .phis c=>c=b->x.phis.map (·.dst)=y.phis.map (·.dst)
 | .src c i=>c=b->(x.phis.getD i abu).src=(y.phis.getD i abu).src
 | .list c=>c=b->x.list.map (fun y=>(y.op,y.dst,y.a,y.b,y.fn))=y.list.map (fun y=>(y.op,y.dst,y.a,y.b,y.fn))
 | .args c i=>c=b->(x.list.getD i abM).args=(y.list.getD i abM).args
 | .to c=>c=b->x.fin.to=y.fin.to
 | _=>True
theorem afM {α β γ:Type}{f:α->γ}{F:Nat->α->β}{l l':List α}(h:l.map f=l'.map f)(hF:∀i x y,f x=f y->F i x=F i y):l.mapIdx F=l'.mapIdx F:=by
 apply Aap;intro i;rw [Abr,Abr];have h1:=congrArg (·[i]?) h;simp only [Aak] at h1;cases hx:l[i]? with
 | none =>
   rw [hx] at h1;cases hy:l'[i]? with
   | none=>rfl
   | some y=>rw [hy] at h1;cases h1
 | some x =>
   rw [hx] at h1;cases hy:l'[i]? with
   | none=>rw [hy] at h1;cases h1
   | some y =>
     rw [hy] at h1;have h2:f x=f y:=by injection h1
     show some _=some _;rw [hF i x y h2]
section
variable {bs : List DBlock} {b : Nat} {y z : DBlock} {V : Pth -> Value}
theorem aau(hb:b<bs.length)(y:DBlock):blkOf (bs.set b y) b=y:=(aaT hb y b).trans (if_pos rfl)
theorem aa3(hb:b<bs.length)(y:DBlock){c:Nat}(hc:c≠b):blkOf (bs.set b y) c=blkOf bs c:=(aaT hb y c).trans (if_neg hc)
theorem alC(hb:b<bs.length){p:Pth}{E:List (List Value)}(hE:aae (bs.set b z) V p=E)(hs:∀q,q≠p->ato z y b q)(q:Pth):aae (bs.set b z) V q=aaU (aae (bs.set b y) V) p E q:=by
 by_cases e:q=p
 . subst e;rw [aaj,hE]
 rw [aag _ _ e];have h:=hs q e;cases q with
 | blks =>
   refine afs (by simp) fun c hc=>?_
   by_cases ec:c=b
   . subst ec
     rw [aau hb,aau hb];unfold abd;rw [h.1,h.2]
   . rw [aa3 hb _ ec,aa3 hb _ ec]
 | phis c =>
   simp only [aae]
   by_cases ec:c=b
   . subst ec
     rw [aau hb,aau hb];exact afM (h rfl) fun i x y al=>by rw [show x.dst=y.dst from al]
   . rw [aa3 hb _ ec,aa3 hb _ ec]
 | src c i =>
   simp only [aae]
   by_cases ec:c=b
   . subst ec
     rw [aau hb,aau hb,h rfl]
   . rw [aa3 hb _ ec,aa3 hb _ ec]
 | list c =>
   simp only [aae]
   by_cases ec:c=b
   . subst ec
     rw [aau hb,aau hb];refine afM (h rfl) fun i x y al=>?_;simp only [Prod.mk.injEq] at al;unfold abN;rw [al.1,al.2.1,al.2.2.1,al.2.2.2.1,al.2.2.2.2]
   . rw [aa3 hb _ ec,aa3 hb _ ec]
 | args c i =>
   simp only [aae]
   by_cases ec:c=b
   . subst ec
     rw [aau hb,aau hb,h rfl]
   . rw [aa3 hb _ ec,aa3 hb _ ec]
 | «to» c =>
   simp only [aae]
   by_cases ec:c=b
   . subst ec
     rw [aau hb,aau hb,h rfl]
   . rw [aa3 hb _ ec,aa3 hb _ ec]
 | vBlk=>rfl
 | vPhi=>rfl
 | vIns=>rfl
theorem amy(hb:b<bs.length)(h1:z.phis.length=y.phis.length)(h2:z.list.length=y.list.length)(q:Pth):okP (bs.set b z) q↔okP (bs.set b y) q:=by
 refine akM (bs:=bs.set b y) (bs':=bs.set b z) (by rw [Aat,Aat]) (fun c=>?_) q
 by_cases ec:c=b
 . subst ec;rw [aau hb,aau hb];exact⟨h1,h2⟩
 . rw [aa3 hb _ ec,aa3 hb _ ec];exact⟨rfl,rfl⟩
end
section
variable {W W' : World} {base : Nat} {ok : Pth -> Prop} {V : Pth -> Value} {C : Pth -> List (List Value)}
theorem aah.kp {G:Nat->Prop}(h:aah W base ok V C)(hk:Kp G W W')(hG:∀p,ok p->∀k,(V p).ownBlock=some k->G k):aah W' base ok V C:=by
 refine⟨fun p hp=>⟨(h.own p hp).1,?_⟩,h.wid,h.apart⟩;rcases (h.own p hp).2 with h1 | ⟨g,cap,cur,e,h3,h4,h5⟩
 . exact .inl h1
 . exact .inr ⟨g,cap,cur,e,h3,(hk.block g (Aag.1 h4).1 (hG p hp g (by rw [e];rfl))).trans h4,h5⟩
theorem aah.setTwo(h:aah W base ok V C){p:Pth}(hp:ok p){g n c i j:Nat}(hv:V p = .slice (some ⟨g,0,none⟩) n c){cs:List Value}(hi:(C p)[i]?=some cs)(hj:j+1<p.sz)(u u':Value) :
 aah ((W.setCell ⟨g,i * p.sz+j,none⟩ u).setCell ⟨g,i * p.sz+(j+1),none⟩ u') base ok V (aaU C p ((C p).set i ((cs.set j u).set (j+1) u'))):=by
 have aw:i<(C p).length:=(Aad.1 hi).1;have r1:=h.set hp hv hi (j:=j) (by omega) u;have r2:=r1.set hp hv (i:=i) (cs:=cs.set j u) (by rw [aaj];exact Aa6 aw) (j:=j+1) (by omega) u';refine r2.congr (fun q _=>rfl) (fun q _=>?_)
 by_cases e:q=p
 . subst e;simp only [aaj,Aaz]
 . simp only [aag _ _ e]
end
structure aei (W:World)(base T NB n:Nat)(F:Nat->Prop)(bs:List DBlock)(V:Pth->Value)(s:Nm):Prop where
 rows:abJ W base bs V
 nm:afB W T NB n s
 off:∀p,okP bs p->∀k,(V p).ownBlock=some k->¬F k∧k≠T∧k≠NB
 nf:¬F T∧¬F NB
section
variable {W W' : World} {base T NB n : Nat} {F : Nat -> Prop} {bs : List DBlock} {V : Pth -> Value} {s s' : Nm} {b : Nat} {y z : DBlock}
theorem aei.named(h:aei W base T NB n F bs V s)(hn:afB W' T NB n s')(hk:Kp (NmF T NB) W W'):aei W' base T NB n F bs V s' :=
 ⟨aah.kp h.rows hk fun p hp k aK=>(h.off p hp k aK).2,hn,h.off,h.nf⟩
theorem aei.later(h:aei W base T NB n F bs V s)(hb:Below W.heap.size W W'):aei W' base T NB n F bs V s:=h.named (h.nm.below hb) (Kp.of hb)
theorem aei.keepN(h:aei W base T NB n F bs V s)(hk:Kp (NmF T NB) W W'):Kp F W W' :=
 hk.less fun b hb=>⟨fun e=>h.nf.1 (by rw [<-e];exact hb),fun e=>h.nf.2 (by rw [<-e];exact hb)⟩
variable {g:Nat}
theorem aei.other(h:aei W base T NB n F bs V s)(hk:Kp (fun k=>k≠g) W W')(hg:F g):aei W' base T NB n F bs V s :=
 ⟨aah.kp h.rows hk fun p hp k aK e=>(h.off p hp k aK).1 (by rw [e];exact hg),h.nm.later hk (fun e=>h.nf.1 (by rw [e];exact hg)) (fun e=>h.nf.2 (by rw [e];exact hg)),h.off,h.nf⟩
variable {pn pc:Nat}
theorem aei.turn(h : aei W base T NB n F (bs.set b y) V s) (hb : b < bs.length) {p : Pth} (hp : okP (bs.set b y) p)  (hv : V p = .slice (some ⟨g, 0, none⟩) pn pc) {E : List (List Value)}
 (hr:aah W' base (okP (bs.set b y)) V (aaU (aae (bs.set b y) V) p E)) (hW:Kp (fun k=>k≠g) W W') (hE:aae (bs.set b z) V p=E) (hs:∀q,q≠p->ato z y b q)
 (h1:z.phis.length=y.phis.length) (h2:z.list.length=y.list.length):aei W' base T NB n F (bs.set b z) V s∧Kp F W W':=by
 have hg:=h.off p hp g (by rw [hv];rfl);refine⟨⟨(hr.less fun q hq=>(amy hb h1 h2 q).1 hq).congr (fun _ _=>rfl) (fun q _=>alC hb hE hs q),h.nm.later hW (fun e=>hg.2.1 e.symm) (fun e=>hg.2.2 e.symm),fun q hq=>h.off q ((amy hb h1 h2 q).1 hq),h.nf⟩,?_⟩;exact hW.less fun k hk e=>hg.1 (by rw [<-e];exact hk)
theorem aaQ(W:World)(g o:Nat)(u:Value):Kp (fun k=>k≠g) W (W.setCell ⟨g,o,none⟩ u):=(Kp.refl _ _).set (fun h=>h rfl) _
theorem aaD{W W':World}(h:Kp (fun k=>k≠g) W W')(o:Nat)(u:Value):Kp (fun k=>k≠g) W (W'.setCell ⟨g,o,none⟩ u):=h.set (fun h=>h rfl) _
def atp(y:DBlock)(i:Nat)(d:Int):DBlock:={ y with phis:=y.phis.set i ⟨d,(y.phis.getD i abu).src⟩ }
def aoM(y:DBlock)(i m:Nat)(v:aay):DBlock:={ y with phis:=y.phis.set i ⟨(y.phis.getD i abu).dst,(y.phis.getD i abu).src.set m v⟩ }
def aoN(y:DBlock)(i m:Nat)(v:aay):DBlock:={ y with list:=y.list.set i { y.list.getD i abM with args:=(y.list.getD i abM).args.set m v } }
def aoO(y:DBlock)(i:Nat)(z:aaJ):DBlock:={ y with list:=y.list.set i { z with args:=(y.list.getD i abM).args } }
def onB(y:DBlock)(v:aay):DBlock:={ y with fin:={ y.fin with on:=v } }
variable {i:Nat}
theorem agC{α β:Type}(f:α->β){l:List α}{x d:α}(hx:f x=f (l.getD i d))(j:Nat):f ((l.set i x).getD j d)=f (l.getD j d):=by
 rw [Aaf,Aaf,Aa5]
 by_cases e:i=j
 . subst e
   rw [if_pos rfl]
   by_cases h:i<l.length
   . rw [if_pos h]
     show f x=_;rw [hx,Aaf]
   . rw [if_neg h,Aas (by omega)]
 . rw [if_neg e]
theorem agD{α β:Type}(f:α->β){l:List α}{x d:α}(hx:f x=f (l.getD i d)):(l.set i x).map f=l.map f:=by
 apply Aap;intro j;rw [Aak,Aak,Aa5]
 by_cases e:i=j
 . subst e
   rw [if_pos rfl]
   by_cases h:i<l.length
   . rw [if_pos h,Aaa h]
     show some (f x)=some _;rw [hx,Aaf,Aaa h];rfl
   . rw [if_neg h,Aas (by omega)]
 . rw [if_neg e]
theorem aei.setDst(h:aei W base T NB n F (bs.set b y) V s)(hb:b<bs.length)(hi:i<y.phis.length)(hv:V (.phis b) = .slice (some ⟨g,0,none⟩) pn pc)(d:Int) :
 aei (W.setCell ⟨g,i * 2,none⟩ (.int .i64 d)) base T NB n F (bs.set b (atp y i d)) V s∧Kp F W (W.setCell ⟨g,i * 2,none⟩ (.int .i64 d)):=by
 have hc:(aae (bs.set b y) V (.phis b))[i]?=some [.int .i64 (y.phis.getD i abu).dst,V (.src b i)]:=by
  simp only [aae];rw [aau hb,aai,Aaa hi,Aaf,Aaa hi];rfl
 have hr:=h.rows.set (p := .phis b) (by show b<_;simp;exact hb) hv hc (j:=0) (Pth.sz_pos _) (.int .i64 d);refine h.turn hb (p := .phis b) (by show b<_;simp;exact hb) hv hr (aaQ _ _ _ _) ?_ ?_ (by simp [atp]) rfl
 . simp only [aae]
   rw [aau hb,aau hb];simp only [atp,List.mapIdx_set];rfl
 . intro q hq
   cases q with
   | blks=>exact⟨rfl,rfl⟩
   | phis c=>intro e;exact absurd (by rw [e]) hq
   | src c j=>intro _;exact agC (l:=y.phis) (i:=i) (x:=⟨d,(y.phis.getD i abu).src⟩) (d:=abu) (fun p:acn=>p.src) rfl j
   | list c=>intro _;rfl
   | args c j=>intro _;rfl
   | «to» c=>intro _;rfl
   | _=>trivial
theorem aei.setSrc(h:aei W base T NB n F (bs.set b y) V s)(hb:b<bs.length){m:Nat}(hi:i<y.phis.length)(hm:m<(y.phis.getD i abu).src.length)(hv:V (.src b i) = .slice (some ⟨g,0,none⟩) pn pc)(v:aay) :
 aei ((W.setCell ⟨g,m * 2,none⟩ (.bool v.reg)).setCell ⟨g,m * 2+1,none⟩ (.int .i64 v.n)) base T NB n F (bs.set b (aoM y i m v)) V s∧Kp F W ((W.setCell ⟨g,m * 2,none⟩ (.bool v.reg)).setCell ⟨g,m * 2+1,none⟩ (.int .i64 v.n)):=by
 have ad:okP (bs.set b y) (.src b i):=by show i<_;rw [aau hb];exact hi
 have hc:(aae (bs.set b y) V (.src b i))[m]?=some (aaA ((y.phis.getD i abu).src[m])):=by
  simp only [aae];rw [aau hb,Aak,Aaa hm];rfl
 have hr:=aah.setTwo h.rows ad hv hc (j:=0) (by show _<_;simp [Pth.sz]) (.bool v.reg) (.int .i64 v.n);refine h.turn hb ad hv hr (aaD (aaQ _ _ _ _) _ _) ?_ ?_ (by simp [aoM]) rfl
 . simp only [aae]
   rw [aau hb,aau hb];simp only [aoM];rw [Aaf,Aa6 hi];show (List.set _ _ _).map aaA=_;rw [List.map_set];rfl
 . intro q hq
   cases q with
   | blks=>exact⟨rfl,rfl⟩
   | phis c=>intro e;exact agD (l:=y.phis) (i:=i) (x:=⟨(y.phis.getD i abu).dst,(y.phis.getD i abu).src.set m v⟩) (fun p:acn=>p.dst) (d:=abu) rfl
   | src c j =>
     intro e;have aH:i≠j:=fun e2=>hq (by rw [e,e2]);show (List.getD (y.phis.set i _) j abu).src=_;rw [Aaf,Ack aH,<-Aaf]
   | list c=>intro _;rfl
   | args c j=>intro _;rfl
   | «to» c=>intro _;rfl
   | _=>trivial
theorem aei.setArg(h:aei W base T NB n F (bs.set b y) V s)(hb:b<bs.length){m:Nat}(hi:i<y.list.length)(hm:m<(y.list.getD i abM).args.length)(hv:V (.args b i) = .slice (some ⟨g,0,none⟩) pn pc)(v:aay) :
 aei ((W.setCell ⟨g,m * 2,none⟩ (.bool v.reg)).setCell ⟨g,m * 2+1,none⟩ (.int .i64 v.n)) base T NB n F (bs.set b (aoN y i m v)) V s∧Kp F W ((W.setCell ⟨g,m * 2,none⟩ (.bool v.reg)).setCell ⟨g,m * 2+1,none⟩ (.int .i64 v.n)):=by
 have ad:okP (bs.set b y) (.args b i):=by show i<_;rw [aau hb];exact hi
 have hc:(aae (bs.set b y) V (.args b i))[m]?=some (aaA ((y.list.getD i abM).args[m])):=by
  simp only [aae];rw [aau hb,Aak,Aaa hm];rfl
 have hr:=aah.setTwo h.rows ad hv hc (j:=0) (by show _<_;simp [Pth.sz]) (.bool v.reg) (.int .i64 v.n);refine h.turn hb ad hv hr (aaD (aaQ _ _ _ _) _ _) ?_ ?_ rfl (by simp [aoN])
 . simp only [aae]
   rw [aau hb,aau hb];simp only [aoN];rw [Aaf,Aa6 hi];show (List.set _ _ _).map aaA=_;rw [List.map_set];rfl
 . intro q hq
   cases q with
   | blks=>exact⟨rfl,rfl⟩
   | phis c=>intro _;rfl
   | src c j=>intro _;rfl
   | list c=>intro _;exact agD (l:=y.list) (i:=i) (x:={ y.list.getD i abM with args:=(y.list.getD i abM).args.set m v }) (fun y:aaJ=>(y.op,y.dst,y.a,y.b,y.fn)) (d:=abM) rfl
   | args c j =>
     intro e;have aH:i≠j:=fun e2=>hq (by rw [e,e2]);show (List.getD (y.list.set i _) j abM).args=_;rw [Aaf,Ack aH,<-Aaf]
   | «to» c=>intro _;rfl
   | _=>trivial
theorem aei.setOn(h:aei W base T NB n F (bs.set b y) V s)(hb:b<bs.length)(hv:V .blks = .slice (some ⟨g,0,none⟩) pn pc)(v:aay) :
 aei ((W.setCell ⟨g,b * 6+3,none⟩ (.bool v.reg)).setCell ⟨g,b * 6+4,none⟩ (.int .i64 v.n)) base T NB n F (bs.set b (onB y v)) V s∧Kp F W ((W.setCell ⟨g,b * 6+3,none⟩ (.bool v.reg)).setCell ⟨g,b * 6+4,none⟩ (.int .i64 v.n)):=by
 have hc:(aae (bs.set b y) V .blks)[b]?=some (abd y (V (.phis b)) (V (.list b)) (V (.to b))):=by
  simp only [aae];rw [aai,Aa6 hb];rfl
 have hr:=aah.setTwo h.rows (p := .blks) trivial hv hc (j:=3) (by simp [Pth.sz]) (.bool v.reg) (.int .i64 v.n);refine h.turn hb (p := .blks) trivial hv hr (aaD (aaQ _ _ _ _) _ _) ?_ ?_ rfl rfl
 . simp only [aae,List.mapIdx_set,Aaz]
   rfl
 . intro q hq
   cases q with
   | blks=>exact absurd rfl hq
   | phis c=>intro _;rfl
   | src c j=>intro _;rfl
   | list c=>intro _;rfl
   | args c j=>intro _;rfl
   | «to» c=>intro _;rfl
   | _=>trivial
theorem aei.setIns(h:aei W base T NB n F (bs.set b y) V s)(hb:b<bs.length)(hi:i<y.list.length)(hv:V (.list b) = .slice (some ⟨g,0,none⟩) pn pc)(z:aaJ){u:Value}(hu:u=V (.args b i)) :
 aei ((((((((W.setCell ⟨g,i * 8,none⟩ (.int .i64 z.op)).setCell ⟨g,i * 8+1,none⟩ (.int .i64 z.dst)).setCell ⟨g,i * 8+2,none⟩ (.bool z.a.reg)).setCell ⟨g,i * 8+3,none⟩ (.int .i64 z.a.n)).setCell ⟨g,i * 8+4,none⟩ (.bool z.b.reg)).setCell ⟨g,i * 8+5,none⟩ (.int .i64 z.b.n)).setCell ⟨g,i * 8+6,none⟩ (.int .i64 z.fn)).setCell ⟨g,i * 8+7,none⟩ u) base T NB n F (bs.set b (aoO y i z)) V s ∧
 Kp F W ((((((((W.setCell ⟨g,i * 8,none⟩ (.int .i64 z.op)).setCell ⟨g,i * 8+1,none⟩ (.int .i64 z.dst)).setCell ⟨g,i * 8+2,none⟩ (.bool z.a.reg)).setCell ⟨g,i * 8+3,none⟩ (.int .i64 z.a.n)).setCell ⟨g,i * 8+4,none⟩ (.bool z.b.reg)).setCell ⟨g,i * 8+5,none⟩ (.int .i64 z.b.n)).setCell ⟨g,i * 8+6,none⟩ (.int .i64 z.fn)).setCell ⟨g,i * 8+7,none⟩ u):=by
 have ad:okP (bs.set b y) (.list b):=by show b<_;simp;exact hb
 obtain⟨x,hx⟩:∃x,y.list[i]?=some x:=⟨_,Aaa hi⟩
 have hc:(aae (bs.set b y) V (.list b))[i]?=some (abN x (V (.args b i))):=by
  simp only [aae];rw [aau hb,aai,hx];rfl
 have aw:i<(aae (bs.set b y) V (.list b)).length:=(Aad.1 hc).1;have r0:=aah.setTwo h.rows ad hv hc (j:=0) (by show _<_;simp [Pth.sz]) (.int .i64 z.op) (.int .i64 z.dst);have r1:=r0.setTwo ad hv (i:=i) (by rw [aaj];exact Aa6 aw) (j:=2) (by simp [Pth.sz]) (.bool z.a.reg) (.int .i64 z.a.n);have r2:=r1.setTwo ad hv (i:=i) (by rw [aaj,aaj,Aaz];exact Aa6 aw) (j:=4) (by simp [Pth.sz]) (.bool z.b.reg) (.int .i64 z.b.n);have r3:=r2.setTwo ad hv (i:=i) (by rw [aaj,aaj,aaj,Aaz,Aaz];exact Aa6 aw) (j:=6) (by simp [Pth.sz]) (.int .i64 z.fn) u
 have hr := r3.congr (V' := V) (C' := aaU (aae (bs.set b y) V) (.list b) ((aae (bs.set b y) V (.list b)).set i (abN z (V (.args b i))))) (fun q _ => rfl) (fun q _ => by
  by_cases e : q = .list b
  . subst e
    simp only [aaj, Aaz]
    rw [hu]; rfl
  . simp only [aag _ _ e])
 refine h.turn hb ad hv hr (aaD (aaD (aaD (aaD (aaD (aaD (aaD (aaQ _ _ _ _) _ _) _ _) _ _) _ _) _ _) _ _) _ _) ?_ ?_ rfl (by simp [aoO])
 . simp only [aae]
   rw [aau hb,aau hb];simp only [aoO,List.mapIdx_set];rfl
 . intro q hq
   cases q with
   | blks=>exact⟨rfl,rfl⟩
   | phis c=>intro _;rfl
   | src c j=>intro _;rfl
   | list c=>intro e;exact absurd (by rw [e]) hq
   | args c j=>intro _;exact agC (l:=y.list) (i:=i) (x:={ z with args:=(y.list.getD i abM).args }) (d:=abM) (fun p:aaJ=>p.args) rfl j
   | «to» c=>intro _;rfl
   | _=>trivial
end
end
section
open Go.RowKit
def phB(s1 s':Nm)(x:DBlock)(i:Nat)(ph:acn)(d:Int)(m:Nat):DBlock:=⟨(acj s1 x.phis i).set i ⟨d,abF s' ph.src m⟩,x.list,x.fin⟩
def phA(s1:Nm)(x:DBlock)(i:Nat):DBlock:=⟨acj s1 x.phis i,x.list,x.fin⟩
theorem agj(s:Nm)(l:List acn)(k:Nat):(acj s l k).length=l.length:=by simp [acj]
theorem aiW(s:Nm)(l:List aaJ)(k:Nat):(adX s l k).length=l.length:=by simp [adX]
theorem aiX(s:Nm)(l:List aay)(k:Nat):(abF s l k).length=l.length:=by simp [abF]
theorem adD {α:Type}{l:List α}{i:Nat}{x d:α}(h:l[i]?=some x):l.getD i d=x:=by rw [Aaf,h];rfl
section
variable {s1 s' s2 s4 : Nm} {x : DBlock} {i : Nat} {ph : acn} {d : Int} {m : Nat} {y : aaJ}
theorem aqB(s1:Nm)(x:DBlock):phA s1 x 0=x:=by unfold phA;rw [al4]
theorem aoP(h:x.phis[i]?=some ph)(s':Nm)(d:Int):atp (phA s1 x i) i d=phB s1 s' x i ph d 0:=by
 unfold atp phB;rw [aih];show DBlock.mk (List.set (acj s1 x.phis i) i ⟨d,((acj s1 x.phis i).getD i abu).src⟩) x.list x.fin=_;rw [adD (aii s1 h)]
theorem amz(h:x.phis[i]?=some ph):(phB s1 s' x i ph d m).phis[i]?=some ⟨d,abF s' ph.src m⟩:=by
 unfold phB;exact Aa6 (by rw [agj];exact (Aad.1 h).1)
theorem aqC(h:x.phis[i]?=some ph){v:aay}(hv:ph.src[m]?=some v):aoM (phB s1 s' x i ph d m) i m (aem (aba s' (ph.src.take m)) v)=phB s1 s' x i ph d (m+1):=by
 unfold aoM;rw [adD (amz h)];unfold phB;rw [Aaz];show DBlock.mk (List.set _ i ⟨d,(abF s' ph.src m).set m _⟩) x.list x.fin=_;rw [ajh s' hv]
theorem asn(h:x.phis[i]?=some ph):phB s1 (nmS ((x.phis.take i).foldl aiz s1) ph.dst) x i ph (nmR ((x.phis.take i).foldl aiz s1) ph.dst) ph.src.length=phA s1 x (i+1):=by
 unfold phB phA;rw [<-anS s1 h];rfl
def lsA(P:List acn)(s2:Nm)(x:DBlock)(i:Nat):DBlock:=⟨P,adX s2 x.list i,x.fin⟩
def lsB(P:List acn)(s2 s4:Nm)(x:DBlock)(i:Nat)(y:aaJ)(m:Nat):DBlock:=⟨P,(adX s2 x.list i).set i { y with args:=abF s4 y.args m },x.fin⟩
theorem aqD(s1 s2:Nm)(x:DBlock):phA s1 x x.phis.length=lsA (acj s1 x.phis x.phis.length) s2 x 0:=by unfold phA lsA;rw [al5]
theorem aqE(P:List acn)(s4:Nm)(h:x.list[i]?=some y):lsA P s2 x i=lsB P s2 s4 x i y 0:=by
 unfold lsA lsB;rw [aih]
 congr 1
 exact (abV (aij s2 h)).symm
theorem ahK {P:List acn}(h:x.list[i]?=some y):(lsB P s2 s4 x i y m).list[i]?=some { y with args:=abF s4 y.args m }:=by
 unfold lsB;exact Aa6 (by rw [aiW];exact (Aad.1 h).1)
theorem aqF {P:List acn}(h:x.list[i]?=some y){v:aay}(hv:y.args[m]?=some v):aoN (lsB P s2 s4 x i y m) i m (aem (aba s4 (y.args.take m)) v)=lsB P s2 s4 x i y (m+1):=by
 unfold aoN;rw [adD (ahK h)];unfold lsB;rw [Aaz];show DBlock.mk P (List.set _ i { y with args:=(abF s4 y.args m).set m _ }) x.fin=_;rw [ajh s4 hv]
theorem aso {P:List acn}(h:x.list[i]?=some y)(z:aaJ)(hz:{ z with args:=abF (ae9 ((x.list.take i).foldl acr s2) y) y.args y.args.length }=arl ((x.list.take i).foldl acr s2) y) :
 aoO (lsB P s2 (ae9 ((x.list.take i).foldl acr s2) y) x i y y.args.length) i z=lsA P s2 x (i+1):=by
 unfold aoO;rw [adD (ahK h)];unfold lsB lsA;rw [Aaz];show DBlock.mk P (List.set _ i { z with args:=abF _ y.args y.args.length }) x.fin=_;rw [hz,anT s2 h]
theorem aqG(s1:Nm)(x:DBlock):onB (lsA (acj s1 x.phis x.phis.length) (x.phis.foldl aiz s1) x x.list.length) (aem (arn s1 x) x.fin.on)=arT s1 x:=rfl
end
end
section
structure Ext (s s':Nm):Prop where
 many:s.many<=s'.many
 at_:∀r:Nat,0<=s.now.getD r 0->s.now.length=s'.now.length->s'.now.getD r 0=s.now.getD r 0
 len:s'.now.length=s.now.length
theorem Ext.refl(s:Nm):Ext s s:=⟨Int.le_refl _,fun _ _ _=>rfl,rfl⟩
theorem Ext.trans {s s' aY:Nm}(h:Ext s s')(k:Ext s' aY):Ext s aY :=
 ⟨Int.le_trans h.many k.many, fun r h0 _ => by
   have e := h.at_ r h0 h.len.symm
   rw [<- e]
   exact k.at_ r (by rw [e]; exact h0) k.len.symm, k.len.trans h.len⟩
variable {n:Nat}
theorem asp{s:Nm}(_h:agL n s)(r:Int):Ext s (nmS s r):=by
 unfold nmS
 by_cases h0:s.now.getD r.toNat 0<0
 . rw [if_pos h0]
   refine⟨by show s.many<=s.many+1;omega,fun q hq _=>?_,by simp⟩;show (s.now.set r.toNat s.many).getD q 0=_;rw [Aaf,Aaf,Aa5]
   by_cases e:r.toNat=q
   . subst e;omega
   . rw [if_neg e]
 . rw [if_neg h0];exact Ext.refl s
structure Stp (n:Nat)(f:Nm->Nm):Prop where
 ok:∀s,agL n s->agL n (f s)
 ext:∀s,agL n s->Ext s (f s)
theorem Stp.id(n:Nat):Stp n (fun s=>s):=⟨fun _ h=>h,fun s _=>Ext.refl s⟩
theorem Stp.comp{f g:Nm->Nm}(h:Stp n f)(k:Stp n g):Stp n (fun s=>g (f s)):=⟨fun s hs=>k.ok _ (h.ok s hs),fun s hs=>(h.ext s hs).trans (k.ext _ (h.ok s hs))⟩
theorem Stp.fold{α : Type}  {f : Nm -> α -> Nm} : ∀ {l : List α}, (∀ x ∈ l, Stp n (fun s => f s x)) -> Stp n (fun s => l.foldl f s)
 | [],_=>Stp.id n
 | x :: l,h=>(h x (Aa2 ..)).comp (Stp.fold (l:=l) fun y hy=>h y (Aa0 _ hy))
theorem afk{r:Int}(hr:0<=r∧r<n):Stp n (fun s=>nmS s r):=⟨fun _ h=>h.step hr,fun _ h=>asp h r⟩
theorem acJ{v:aay}(hv:InV n v):Stp n (fun s=>ael s v):=by
 unfold ael
 by_cases e:v.reg=true
 . simp only [if_pos e];exact afk (hv e)
 . simp only [if_neg e];exact Stp.id n
theorem afN{l:List aay}(hl:∀v∈l,InV n v):Stp n (fun s=>aba s l):=Stp.fold fun v hv=>acJ (hl v hv)
theorem aoQ{d:Int}(hd:d<n):Stp n (fun s=>aie s d):=by
 unfold aie
 by_cases e:0<=d
 . simp only [if_pos e];exact afk ⟨e,hd⟩
 . simp only [if_neg e];exact Stp.id n
def InI(n:Nat)(y:aaJ):Prop:=InV n y.a∧InV n y.b∧(∀v∈y.args,InV n v)∧y.dst<n
def InP(n:Nat)(p:acn):Prop:=(0<=p.dst∧p.dst<n)∧∀v∈p.src,InV n v
theorem atq{y:aaJ}(h:InI n y):Stp n (fun s=>ae9 s y):=(acJ h.1).comp (acJ h.2.1)
theorem aoR{y:aaJ}(h:InI n y):Stp n (fun s=>acr s y):=((atq h).comp (afN h.2.2.1)).comp (aoQ h.2.2.2)
theorem amA{p:acn}(h:InP n p):Stp n (fun s=>aiz s p):=(afk h.1).comp (afN h.2)
theorem amB{l:List acn}(h:∀p∈l,InP n p):Stp n (fun s=>l.foldl aiz s):=Stp.fold fun p hp=>amA (h p hp)
theorem ag0{l:List aaJ}(h:∀y∈l,InI n y):Stp n (fun s=>l.foldl acr s):=Stp.fold fun y hy=>aoR (h y hy)
variable {x:DBlock}
theorem aqH(h:ac6 n x):Stp n (fun s=>arn s x):=(amB (fun p hp=>h.phi p hp)).comp (ag0 fun y hy=>h.ins y hy)
theorem aoS(h:ac6 n x):Stp n (fun s=>aiA s x):=(aqH h).comp (acJ h.on)
theorem arI(h:ac6 n x):Stp n (fun s=>anZ s x) :=
 ((Stp.fold (f:=al2) fun p hp=>afk (h.phi p hp).1).comp (ag0 fun y hy=>h.ins y hy)).comp (acJ h.on)
theorem aoT{p:Nat}(h:p<=n):Stp n (fun s=>agU s p):=Stp.fold (f:=fun s (r:Nat)=>nmS s (r:Int)) fun r hr=>afk (by have:=Abx.1 hr;omega)
def ac1(s:Nm)(r:Int):Int:=s.now.getD r.toNat 0
def agk(f:Int->Int)(v:aay):aay:=if v.reg then ⟨true,f v.n⟩ else v
def ap1(f:Int->Int)(d:Int):Int:=if 0<=d then f d else d
def akq(f:Int->Int)(p:acn):acn:=⟨f p.dst,p.src.map (agk f)⟩
def aiY(f:Int->Int)(y:aaJ):aaJ:=⟨y.op,ap1 f y.dst,agk f y.a,agk f y.b,y.fn,y.args.map (agk f)⟩
def agE(f:Int->Int)(x:DBlock):DBlock:=⟨x.phis.map (akq f),x.list.map (aiY f),⟨x.fin.kind,agk f x.fin.on,x.fin.to⟩⟩
section
variable {n : Nat} {s sF : Nm}
theorem alD(hs:agL n s){r:Int}(hr:0<=r∧r<n)(he:Ext (nmS s r) sF):nmR s r=ac1 sF r∧0<=nmR s r∧nmR s r<sF.many:=by
 have h:=atK hs hr;have hm:=he.many;refine⟨?_,h.1,by omega⟩;have h3:(nmS s r).now.getD r.toNat 0=nmR s r:=rfl;unfold ac1;rw [he.at_ r.toNat (by rw [h3];exact h.1) he.len.symm,h3]
theorem ag1(hs:agL n s){v:aay}(hv:InV n v)(he:Ext (ael s v) sF):aem s v=agk (ac1 sF) v∧InV sF.many.toNat (aem s v):=by
 unfold ael at he;unfold aem agk
 by_cases e:v.reg=true
 . rw [if_pos e] at he ⊢
   rw [if_pos e];have h:=alD hs (hv e) he;exact⟨by rw [h.1],fun _=>by show 0<=nmR s v.n∧nmR s v.n<_;omega⟩
 . rw [if_neg e,if_neg e]
   exact⟨rfl,fun h=>absurd h e⟩
theorem amC {α:Type}(f:Nat->α->α)(g:α->α){l:List α}(h:∀i x,l[i]?=some x->f i x=g x):(l.mapIdx fun i x=>if i<l.length then f i x else x)=l.map g:=by
 apply Aap;intro i;rw [Abr,Aak];cases hx:l[i]? with
 | none=>rfl
 | some x =>
   have hi:=(Aad.1 hx).1;simp only [Aaw,if_pos hi,h i x hx]
theorem afO {α:Type}{f:Nm->α->Nm}{l:List α}(h:∀x∈l,Stp n (fun s=>f s x))(hs:agL n s){i:Nat}{x:α}(hx:l[i]?=some x)(he:Ext (l.foldl f s) sF) :
 agL n ((l.take i).foldl f s)∧Ext (f ((l.take i).foldl f s) x) sF:=by
 have h1:=(Stp.fold (f:=f) (l:=l.take i) fun y hy=>h y (List.mem_of_mem_take hy)).ok s hs;refine⟨h1,?_⟩;have e:l=l.take (i+1)++l.drop (i+1):=(List.take_append_drop _ _).symm;rw [e,List.foldl_append,abk f s hx] at he;have ad:=(h x (Aae hx)).ok _ h1;exact ((Stp.fold (f:=f) (l:=l.drop (i+1)) fun y hy=>h y (List.mem_of_mem_drop hy)).ext _ ad).trans he
theorem aiZ(hs:agL n s){l:List aay}(hl:∀v∈l,InV n v)(he:Ext (aba s l) sF):abF s l l.length=l.map (agk (ac1 sF))∧∀v∈l,InV sF.many.toNat (agk (ac1 sF) v):=by
 have au:∀(i:Nat) v,l[i]?=some v->aem (aba s (l.take i)) v=agk (ac1 sF) v∧InV sF.many.toNat (aem (aba s (l.take i)) v):=fun i v hv=>by
  obtain⟨h1,h2⟩:=afO (f:=ael) (fun v hv=>acJ (hl v hv)) hs hv he;exact ag1 h1 (hl v (Aae hv)) h2
 refine⟨amC _ _ fun i v hv=>(au i v hv).1,fun v hv=>?_⟩;obtain⟨i,hi,rfl⟩:=Aav hv;have h:=au i _ (Aaa hi);rw [<-h.1];exact h.2
theorem aqI(hs:agL n s){p:acn}(hp:InP n p)(he:Ext (aiz s p) sF):as3 s p=akq (ac1 sF) p∧InP sF.many.toNat (akq (ac1 sF) p):=by
 have h1:=(afk hp.1).ok s hs;obtain⟨h2,h3⟩:=aiZ h1 hp.2 he;have h4:=alD hs hp.1 (((afN hp.2).ext _ h1).trans he);refine⟨?_,⟨?_,fun v hv=>?_⟩⟩
 . show acn.mk (nmR s p.dst) (abF _ _ _)=_
   rw [h2,h4.1];rfl
 . show 0<=ac1 sF p.dst∧ac1 sF p.dst<_;rw [<-h4.1];omega
 . obtain⟨v0,h0,rfl⟩:=Aal.1 (show v∈List.map _ _ from hv)
   exact h3 v0 h0
theorem aqJ(hs:agL n s){y:aaJ}(hy:InI n y)(he:Ext (acr s y) sF):arl s y=aiY (ac1 sF) y∧InI sF.many.toNat (aiY (ac1 sF) y)∧(0<=y.dst->0<=ac1 sF y.dst):=by
 obtain⟨ha,hb,hl,hd⟩:=hy;have k1:=(acJ ha).ok s hs;have k2:=(acJ hb).ok _ k1;have k3:=(afN hl).ok _ k2;have x3:Ext (aba (ael (ael s y.a) y.b) y.args) sF:=((aoQ hd).ext _ k3).trans he;have x2:=((afN hl).ext _ k2).trans x3;have x1:=((acJ hb).ext _ k1).trans x2;have ea:=ag1 hs ha x1;have eb:=ag1 k1 hb x2;obtain⟨el,be⟩:=aiZ k2 hl x3;have ed:atW (aba (ae9 s y) y.args) y.dst=ap1 (ac1 sF) y.dst∧ap1 (ac1 sF) y.dst<sF.many.toNat∧(0<=y.dst->0<=ac1 sF y.dst):=by
  unfold atW ap1
  by_cases e:0<=y.dst
  . rw [if_pos e,if_pos e]
    have h4 := alD k3 ⟨e, hd⟩ (sF := sF) (by
     have h5 : acr s y = nmS (aba (ael (ael s y.a) y.b) y.args) y.dst := if_pos e
     rw [<- h5]; exact he)
    have h6:nmR (aba (ae9 s y) y.args) y.dst=ac1 sF y.dst:=h4.1;exact⟨h6,by rw [<-h6];have:=h4.2;show nmR (aba (ael (ael s y.a) y.b) y.args) y.dst<_;omega,fun _=>by rw [<-h6];exact h4.2.1⟩
  . rw [if_neg e,if_neg e]
    exact⟨rfl,by omega,fun h=>absurd h e⟩
 refine⟨?_,⟨?_,?_,fun v hv=>?_,ed.2.1⟩,ed.2.2⟩
 . unfold arl aiY
   rw [ea.1,eb.1,ed.1];show aaJ.mk _ _ _ _ _ (abF (ael (ael s y.a) y.b) y.args y.args.length)=_;rw [el]
 . show InV _ (agk (ac1 sF) y.a);rw [<-ea.1];exact ea.2
 . show InV _ (agk (ac1 sF) y.b);rw [<-eb.1];exact eb.2
 . obtain⟨v0,h0,rfl⟩:=Aal.1 (show v∈List.map _ _ from hv)
   exact be v0 h0
theorem aqK(hs:agL n s){x:DBlock}(hx:ac6 n x)(he:Ext (aiA s x) sF):arT s x=agE (ac1 sF) x∧ac6 sF.many.toNat (agE (ac1 sF) x)∧(∀y∈x.list,0<=y.dst->0<=ac1 sF y.dst):=by
 have k1:=(amB (fun p hp=>hx.phi p hp)).ok s hs;have k2:=(ag0 (fun y hy=>hx.ins y hy)).ok _ k1;have x2:Ext (arn s x) sF:=((acJ hx.on).ext _ k2).trans he;have x1:=((ag0 (fun y hy=>hx.ins y hy)).ext _ k1).trans x2;have hp:∀(i:Nat) p,x.phis[i]?=some p->as3 ((x.phis.take i).foldl aiz s) p=akq (ac1 sF) p∧InP sF.many.toNat (akq (ac1 sF) p):=fun i p hp=>by
  obtain⟨h1,h2⟩:=afO (f:=aiz) (fun p hp=>amA (hx.phi p hp)) hs hp x1;exact aqI h1 (hx.phi p (Aae hp)) h2
 have hy:∀(i:Nat) y,x.list[i]?=some y->arl ((x.list.take i).foldl acr (x.phis.foldl aiz s)) y=aiY (ac1 sF) y∧InI sF.many.toNat (aiY (ac1 sF) y)∧(0<=y.dst->0<=ac1 sF y.dst):=fun i y hy=>by
  obtain⟨h1,h2⟩:=afO (f:=acr) (fun y hy=>aoR (hx.ins y hy)) k1 hy x2;exact aqJ h1 (hx.ins y (Aae hy)) h2
 have ho:=ag1 k2 hx.on he;refine⟨?_,⟨fun p a6=>?_,fun y aJ=>?_,?_⟩,fun y aJ=>?_⟩
 . unfold arT agE
   rw [show acj s x.phis x.phis.length=x.phis.map (akq (ac1 sF)) from amC _ _ fun i p h=>(hp i p h).1,show adX (x.phis.foldl aiz s) x.list x.list.length=x.list.map (aiY (ac1 sF)) from amC _ _ fun i y h=>(hy i y h).1];rw [show aem (arn s x) x.fin.on=agk (ac1 sF) x.fin.on from ho.1]
 . obtain⟨p0,h0,rfl⟩:=Aal.1 (show p∈List.map _ _ from a6)
   obtain⟨i,hi,rfl⟩:=Aav h0;exact (hp i _ (Aaa hi)).2
 . obtain⟨y0,h0,rfl⟩:=Aal.1 (show y∈List.map _ _ from aJ)
   obtain⟨i,hi,rfl⟩:=Aav h0;exact (hy i _ (Aaa hi)).2.1
 . show InV _ (agk (ac1 sF) x.fin.on)
   rw [<-ho.1];exact ho.2
 . obtain⟨i,hi,rfl⟩:=Aav aJ
   exact (hy i _ (Aaa hi)).2.2
end
def ach(p n:Nat)(bs:List DBlock):Nm:=bs.foldl aiA (al3 p n bs)
section
variable {p n : Nat} {bs : List DBlock}
theorem ajw(hp:p<=n)(hr:∀x∈bs,ac6 n x):agL n (al3 p n bs):=(Stp.fold (f:=anZ) fun x hx=>arI (hr x hx)).ok _ ((aoT hp).ok _ (amU n))
theorem amD(hp:p<=n)(hr:∀x∈bs,ac6 n x):agL n (ach p n bs):=(Stp.fold (f:=aiA) fun x hx=>aoS (hr x hx)).ok _ (ajw hp hr)
theorem adR(hp:p<=n)(hr:∀x∈bs,ac6 n x):adh p n bs=bs.map (agE (ac1 (ach p n bs)))∧(∀x∈bs,ac6 (ach p n bs).many.toNat (agE (ac1 (ach p n bs)) x))∧∀x∈bs,∀y∈x.list,0<=y.dst->0<=ac1 (ach p n bs) y.dst:=by
 have au:∀(i:Nat) x,bs[i]?=some x->arT ((bs.take i).foldl aiA (al3 p n bs)) x=agE (ac1 (ach p n bs)) x∧ac6 (ach p n bs).many.toNat (agE (ac1 (ach p n bs)) x)∧(∀y∈x.list,0<=y.dst->0<=ac1 (ach p n bs) y.dst):=fun i x hx=>by
  obtain⟨h1,h2⟩:=afO (f:=aiA) (sF:=ach p n bs) (fun x hx=>aoS (hr x hx)) (ajw hp hr) hx (Ext.refl _);exact aqK h1 (hr x (Aae hx)) h2
 have e:adh p n bs=bs.map (agE (ac1 (ach p n bs))):=amC _ _ fun i x hx=>(au i x hx).1;refine⟨e,fun x hx=>?_,fun x hx=>?_⟩
 all_goals
  obtain⟨i,hi,rfl⟩:=Aav hx
 . exact (au i _ (Aaa hi)).2.1
 . exact (au i _ (Aaa hi)).2.2
theorem ai0 (hp : p <= n) : ∀ k, k <= p -> (agU (nm0 n) k).many = (k : Int) ∧ ∀ r : Nat, k <= r -> r < n -> (agU (nm0 n) k).now.getD r 0 = -1
 | 0, _ => ⟨rfl, fun r _ hr => by
   show (List.replicate n (-1 : Int)).getD r 0 = -1
   rw [Aaf, Abz, if_pos hr]; rfl⟩
 | k+1,hk=>by
   obtain⟨h1,h2⟩:=ai0 hp k (by omega);rw [ajg];have h3:=h2 k (Aac _) (by omega);unfold nmS;rw [Aan,if_pos (by omega)];refine⟨by show (agU (nm0 n) k).many+1=_;omega,fun r hr hn=>?_⟩;show ((agU (nm0 n) k).now.set k _).getD r 0 = -1;rw [Aaf,Ack (by omega),<-Aaf];exact h2 r (by omega) hn
theorem akr(hp:p<=n)(hr:∀x∈bs,ac6 n x):(p:Int)<=afb p n bs∧afb p n bs<=n:=by
 have h1:=(ai0 hp p (Aac _)).1;have k1:=(aoT hp).ok _ (amU n);have e1:=((Stp.fold (f:=anZ) fun x hx=>arI (hr x hx)).ext _ k1).many;have e2:=((Stp.fold (f:=aiA) fun x hx=>aoS (hr x hx)).ext _ (ajw hp hr)).many;have h3:=(amD hp hr).many_le.2;have e3:afb p n bs=(ach p n bs).many:=rfl;refine⟨?_,by rw [e3];exact h3⟩;rw [e3,<-h1];exact Int.le_trans e1 e2
end
theorem ahL {N:Nat}(hN:N<=1048576){x:Int}(h : -1<=x∧x<(N:Int)):I64 x:=by unfold I64;omega
theorem afP {N:Nat}(hN:N<=1048576){f:Int->Int}{v:aay}(h:InV N (agk f v))(h0:I64 v.n):I64 (agk f v).n:=by
 unfold agk at *
 by_cases e:v.reg=true
 . rw [if_pos e] at h ⊢
   have:=h rfl;exact ahL hN ⟨by omega,this.2⟩
 . rw [if_neg e];exact h0
theorem aen.ren {n N:Nat}{bs:List DBlock}(h:aen n bs)(hN:N<=1048576){f:Int->Int}(hr:∀x∈bs,ac6 N (agE f x))(hd:∀x∈bs,∀y∈x.list,0<=y.dst->0<=f y.dst):aen N (bs.map (agE f)):=by
 have hto:(bs.map (agE f)).map (·.fin.to)=bs.map (·.fin.to):=by rw [Abl];rfl
 have ay:∀b,b<bs.length->blkOf (bs.map (agE f)) b=agE f (blkOf bs b):=fun b hb=>aa2 (by rw [Aak,aap bs hb];rfl);have ag:∀{x},x∈bs.map (agE f)->∃x0∈bs,x=agE f x0:=fun hx=>by
  obtain⟨x0,h0,rfl⟩:=Aal.1 hx;exact⟨x0,h0,rfl⟩
 have ad:acU (bs.map (agE f)):=by
  refine⟨by rw [Aah];exact h.ok.len,fun x hx=>?_,fun x hx=>?_,fun x hx=>?_,fun x hx t ht=>?_,fun x hx=>?_,fun b hb q hq=>?_⟩
  . obtain⟨x0,h0,rfl⟩:=ag hx
    have hn:=h.ok.num x0 h0;have aN:=hr x0 h0;refine⟨hn.kind,afP hN aN.on hn.on,hn.to,fun q hq=>?_,fun y hy=>?_⟩
    . obtain⟨q0,h1,rfl⟩:=Aal.1 (show q∈List.map _ _ from hq)
      have hp:=aN.phi (akq f q0) hq;refine⟨ahL hN ⟨by have:=hp.1.1;omega,hp.1.2⟩,fun v hv=>?_⟩;obtain⟨v0,h2,rfl⟩:=Aal.1 (show v∈List.map _ _ from hv);exact afP hN (hp.2 _ hv) ((hn.phi q0 h1).2 v0 h2)
    . obtain⟨y0,h1,rfl⟩:=Aal.1 (show y∈List.map _ _ from hy)
      have hp:=aN.ins (aiY f y0) hy;obtain⟨n1,n2,n3,n4,n5,n6⟩:=hn.ins y0 h1;refine⟨n1,?_,afP hN hp.1 n3,afP hN hp.2.1 n4,n5,fun v hv=>?_⟩
      . show I64 (ap1 f y0.dst)
        have aP:=hp.2.2.2;unfold ap1
        by_cases e:0<=y0.dst
        . rw [if_pos e]
          have e2:(aiY f y0).dst=f y0.dst:=if_pos e;rw [e2] at aP;exact ahL hN ⟨by have:=hd x0 h0 y0 h1 e;omega,aP⟩
        . rw [if_neg e];exact n2
      . obtain⟨v0,h2,rfl⟩:=Aal.1 (show v∈List.map _ _ from hv)
        exact afP hN (hp.2.2.1 _ hv) (n6 v0 h2)
  . obtain⟨x0,h0,rfl⟩:=ag hx
    have hs:=h.ok.small x0 h0;refine⟨by show (List.map _ _).length<=_;rw [Aah];exact hs.phis,by show (List.map _ _).length<=_;rw [Aah];exact hs.list,hs.to,fun q hq=>?_,fun y hy=>?_⟩
    . obtain⟨q0,h1,rfl⟩:=Aal.1 (show q∈List.map _ _ from hq)
      show (List.map _ _).length<=_;rw [Aah];exact hs.src q0 h1
    . obtain⟨y0,h1,rfl⟩:=Aal.1 (show y∈List.map _ _ from hy)
      show (List.map _ _).length<=_;rw [Aah];exact hs.args y0 h1
  . obtain⟨x0,h0,rfl⟩:=ag hx
    exact h.ok.to2 x0 h0
  . obtain⟨x0,h0,rfl⟩:=ag hx
    rw [Aah];exact h.ok.toIn x0 h0 t ht
  . obtain⟨x0,h0,rfl⟩:=ag hx
    exact h.ok.toNd x0 h0
  . rw [Aah] at hb
    rw [ay b hb] at hq;obtain⟨q0,h1,rfl⟩:=Aal.1 (show q∈List.map _ _ from hq);rw [acH _ _ 0 b hto];show (List.map _ _).length=_;rw [Aah];exact h.ok.src b hb q0 h1
 refine⟨ad,ail ad (by rw [Aah];exact h.tok.pos),fun x hx hj=>?_,?_,fun x hx=>?_⟩
 . obtain⟨x0,h0,rfl⟩:=ag hx
   exact h.jump x0 h0 hj
 . rw [Abl,show ((fun x:DBlock=>x.list.length) ∘ agE f)=fun x:DBlock=>x.list.length by funext x;show (List.map _ _).length=_;rw [Aah]]
   exact h.sum
 . obtain⟨x0,h0,rfl⟩:=ag hx
   exact hr x0 h0
theorem aen.names {p n:Nat}{bs:List DBlock}(h:aen n bs)(hp:p<=n)(hn:n<=1048576):aen (afb p n bs).toNat (adh p n bs):=by
 obtain⟨e,h1,h2⟩:=adR hp h.reg;have hN:=akr hp h.reg;rw [e];exact h.ren (by omega) h1 h2
end
section
structure as0 (fs:List aaz)(y:aaJ):Prop where
 op:1<=y.op∧y.op<=22
 form:acv y=false
 dst:shpD y.op=true->¬(y.op=20∧y.dst = -1)->0<=y.dst
 call:y.op=20->(0<=y.fn∧y.fn<=(fs.length:Int) - 1)∧(y.args.length:Int)=(fs.getD y.fn.toNat ⟨ByteArray.empty,0,0,[]⟩).params
structure aeB (fs:List aaz)(bs:List DBlock):Prop where
 kind:∀x∈bs,(1<=x.fin.kind∧x.fin.kind<=3)∧(x.fin.to.length:Int)=x.fin.kind - 1∧(∀t∈x.fin.to,1<=t)∧(x.fin.kind=2->x.fin.on=⟨false,0⟩)
 phi0:(blkOf bs 0).phis=[]
 ins:∀x∈bs,∀y∈x.list,as0 fs y
 len:bs.length<=40
 many:aa6 bs<=300
theorem adE {n:Nat}{v:aay}:aco (n:Int) v=0↔InV n v:=by
 unfold aco InV;constructor
 . intro h hr
   by_cases h1:v.reg=true∧¬(0<=v.n∧v.n<=(n:Int) - 1)
   . rw [if_pos h1] at h;omega
   . have:¬¬(0<=v.n∧v.n<=(n:Int) - 1):=fun h3=>h1 ⟨hr,h3⟩
     omega
 . intro h
   rw [if_neg];rintro⟨h1,h2⟩;have:=h h1;omega
theorem asq {fs:List aaz}{n:Nat}{y:aaJ}(h:as0 fs y)(hr:InI n y):aga fs (n:Int) y=0:=by
 unfold aga;rw [if_neg (by have:=h.op;omega),if_neg (by rw [h.form];simp)];rw [if_neg]
 . unfold ada
   rw [adE.2 hr.1,adE.2 hr.2.1,if_neg (by omega),if_neg (by omega)];unfold adl
   by_cases e:y.op=20
   . rw [if_neg (by omega)]
     have hc:=h.call e;rw [if_neg (by omega),if_neg (by omega)];exact adT.2 fun v hv=>adE.2 (hr.2.2.1 v hv)
   . rw [if_pos e]
 . rintro⟨⟨h1,h2⟩,h3⟩
   apply h3;unfold agY;have:=h.dst h1 h2;have:=hr.2.2.2;rw [if_neg (by omega)]
theorem aoU {fs:List aaz}{n:Nat}{y:aaJ}(h:aga fs (n:Int) y=0):as0 fs y∧InI n y:=by
 unfold aga at h
 by_cases h1:¬(1<=y.op∧y.op<=22)
 . rw [if_pos h1] at h;omega
 rw [if_neg h1] at h
 by_cases h2:acv y=true
 . rw [if_pos h2] at h;omega
 rw [if_neg h2] at h
 by_cases h3:(shpD y.op=true∧¬(y.op=20∧y.dst = -1))∧agY n y.dst≠0
 . rw [if_pos h3] at h;omega
 rw [if_neg h3] at h;unfold ada at h
 by_cases a1:aco n y.a≠0
 . rw [if_pos a1] at h;exact absurd h a1
 rw [if_neg a1] at h
 by_cases a2:aco n y.b≠0
 . rw [if_pos a2] at h;exact absurd h a2
 rw [if_neg a2] at h;have hf:acv y=false:=by simpa using h2
 have hd:shpD y.op=true->¬(y.op=20∧y.dst = -1)->0<=y.dst∧y.dst<n:=fun g1 g2=>by
  by_cases hz:agY n y.dst=0
  . exact ajL hz
  . exact absurd ⟨⟨g1,g2⟩,hz⟩ h3
 have aG:=hf;unfold acv at aG;simp only [Bool.or_eq_false_iff,Bool.and_eq_false_iff,decide_eq_false_iff_not,Bool.not_eq_false'] at aG;obtain⟨⟨⟨g1,-⟩,-⟩,g4⟩:=aG;have aO:y.dst<n:=by
  rcases g1 with g1 | g1
  . by_cases e:y.op=20∧y.dst = -1
    . omega
    . exact (hd g1 e).2
  . have e:y.dst = -1:=Classical.not_not.1 g1
    omega
 have ah:y.op=20->(0<=y.fn∧y.fn<=(fs.length:Int) - 1)∧(y.args.length:Int)=(fs.getD y.fn.toNat ⟨ByteArray.empty,0,0,[]⟩).params∧∀v∈y.args,InV n v:=fun e=>by
  unfold adl at h;rw [if_neg (by omega)] at h
  by_cases b1:¬(0<=y.fn∧y.fn<=(fs.length:Int) - 1)
  . rw [if_pos b1] at h;omega
  rw [if_neg b1] at h
  by_cases b2:(y.args.length:Int)≠(fs.getD y.fn.toNat ⟨ByteArray.empty,0,0,[]⟩).params
  . rw [if_pos b2] at h;omega
  rw [if_neg b2] at h;exact⟨by omega,by omega,fun v hv=>adE.1 (adT.1 h v hv)⟩
 refine⟨⟨by omega,hf,fun a b=>(hd a b).1,fun e=>⟨(ah e).1,(ah e).2.1⟩⟩,adE.1 (by omega),adE.1 (by omega),fun v hv=>?_,aO⟩
 by_cases e:y.op=20
 . exact (ah e).2.2 v hv
 . rcases g4 with g4 | g4
   . exact absurd e g4
   . have h0:y.args.length=0:=by
      have:=g4.2;omega
     rw [Aa9 h0] at hv;cases hv
section
variable {fs : List aaz} {n : Nat} {bs : List DBlock}
theorem asr(h:aen n bs)(hc:aeB fs bs)(nm:ByteArray)(p:Int):ady fs ⟨nm,p,(n:Int),bs⟩=0:=by
 refine aeV.2 ⟨fun k hk=>?_,fun k hk=>?_⟩
 . have ar:k<bs.length:=hk
   have hm:=aas ar;obtain⟨k1,k2,k3,k4⟩:=hc.kind _ hm;unfold agb;show (match bs[k]? with | some b=>afz bs.length (n:Int) b.fin | none=>0)=0;rw [aap bs ar];refine ag9.2 ⟨k1,k2,fun t ht=>⟨k3 t ht,by have:=h.ok.toIn _ hm t ht;omega⟩,?_,adE.2 (h.reg _ hm).on⟩;rintro (⟨e1,e2⟩ | ⟨e1,e2⟩)
   . have hn:=h.ok.toNd _ hm
     have hl:(blkOf bs k).fin.to.length=2:=by omega
     match hh:(blkOf bs k).fin.to,hl with
     | [a,b],_ =>
       rw [hh] at hn e2;have e3:a=b:=e2;rw [e3] at hn;exact absurd (Aax.2 rfl) (List.nodup_cons.1 hn).1
   . exact e2 (k4 e1)
 . have ar:k<bs.length:=hk
   have hm:=aas ar;refine (aeb (aap bs ar)).2 ⟨fun p hp=>?_,fun y hy=>asq (hc.ins _ hm y hy) ((h.reg _ hm).ins y hy)⟩;refine afX.2 ⟨fun e=>?_,?_,?_,adT.2 fun v hv=>adE.2 (((h.reg _ hm).phi p hp).2 v hv)⟩
   . subst e
     rw [hc.phi0] at hp;cases hp
   . have:=((h.reg _ hm).phi p hp).1
     unfold agY;rw [if_neg (by show ¬¬(0<=p.dst∧p.dst<=(n:Int) - 1);omega)]
   . show p.src.length=((aheadF bs).getD k []).length
     rw [acF ar];exact h.ok.src k ar p hp
theorem ass {f:aaz}(aE:∀x∈f.blocks,aos x)(hr:f.regs=(n:Int))(hb:ady fs f=0)(h1:1<=f.blocks.length)(h2:f.blocks.length<=40)(hm:aa6 f.blocks<=300)(av:∀x∈f.blocks,∀y∈x.list,y.args.length<=1048576):aen n f.blocks∧aeB fs f.blocks:=by
 obtain⟨e1,e2⟩:=aeV.1 hb;have he:∀k,k<f.blocks.length->_:=fun k hk=>by
  have h:=e1 k hk;unfold agb at h;rw [aap f.blocks hk,hr] at h;exact ag9.1 h
 have ay:∀k,k<f.blocks.length->_:=fun k hk=>(aeb (aap f.blocks hk)).1 (by have h:=e2 k hk;rw [hr] at h;exact h);have af:∀x∈f.blocks,∃k,k<f.blocks.length∧x=blkOf f.blocks k:=fun x hx=>abR hx;have aC:∀k,k<f.blocks.length->∀p∈(blkOf f.blocks k).phis,k≠0∧InP n p∧p.src.length=(aaf f.blocks 0 k).length:=fun k hk p hp=>by
  obtain⟨a1,a2,a3,a4⟩:=afX.1 ((ay k hk).1 p hp);rw [acF hk] at a3;exact⟨a1,⟨ajL a2,fun v hv=>adE.1 (adT.1 a4 v hv)⟩,a3⟩
 have ao:∀x∈f.blocks,x.fin.to.length<=2:=fun x hx=>by
  obtain⟨k,hk,rfl⟩:=af x hx;have:=he k hk;omega
 have ad:acU f.blocks:=by
  refine⟨by omega,aE,fun x hx=>?_,ao,fun x hx t ht=>?_,fun x hx=>?_,fun k hk p hp=>(aC k hk p hp).2.2⟩
  . have:=agq hx
    refine⟨by omega,by omega,by have:=ao x hx;omega,fun p hp=>?_,av x hx⟩;obtain⟨k,hk,rfl⟩:=af x hx;rw [(aC k hk p hp).2.2];have:=afq k f.blocks 0 ao;omega
  . obtain⟨k,hk,rfl⟩:=af x hx
    have:=(he k hk).2.2.1 t ht;omega
  . obtain⟨k,hk,rfl⟩:=af x hx
    obtain⟨g1,g2,g3,g4,-⟩:=he k hk
    match hh:(blkOf f.blocks k).fin.to with
    | []=>simp
    | [a]=>simp
    | [a,b] =>
      rw [hh] at g2 g4;have bd:(blkOf f.blocks k).fin.kind=3:=by simp at g2;omega
      have:¬a=b:=fun e=>g4 (.inl ⟨bd,e⟩);simp [this]
    | a :: b :: c :: l=>rw [hh] at g2;simp at g2;omega
 refine⟨⟨ad,ail ad (by omega),fun x hx hj=>?_,?_,fun x hx=>?_⟩,⟨fun x hx=>?_,?_,fun x hx y hy=>?_,h2,hm⟩⟩
 . obtain⟨k,hk,rfl⟩:=af x hx
   have:=he k hk;omega
 . have:(f.blocks.map fun x=>x.list.length).sum<=aa6 f.blocks:=by
    unfold aa6;generalize f.blocks=l
    induction l with
    | nil=>exact Aac _
    | cons a l ih=>simp only [Aa3,List.sum_cons];omega
   omega
 . obtain⟨k,hk,rfl⟩:=af x hx
   exact⟨fun p hp=>(aC k hk p hp).2.1,fun y hy=>(aoU ((ay k hk).2 y hy)).2,adE.1 (he k hk).2.2.2.2⟩
 . obtain⟨k,hk,rfl⟩:=af x hx
   obtain⟨g1,g2,g3,g4,-⟩:=he k hk;exact⟨g1,g2,fun t ht=>(g3 t ht).1,fun e=>Classical.not_not.1 fun h=>g4 (.inr ⟨e,h⟩)⟩
 . cases hp:(blkOf f.blocks 0).phis with
   | nil=>rfl
   | cons p l=>exact absurd rfl (aC 0 (by omega) p (by rw [hp];exact Aa2 ..)).1
 . obtain⟨k,hk,rfl⟩:=af x hx
   exact (aoU ((ay k hk).2 y hy)).1
theorem aeB.keep(h:aen n bs)(hc:aeB fs bs):aeB fs (aa7 bs (ordL bs)):=by
 have ho:=agv h.tok;have aU:∀b∈ordL bs,b.toNat<bs.length:=fun b hb=>by have:=ho.inn b hb;omega
 refine⟨fun x hx=>?_,?_,fun x hx y hy=>?_,?_,?_⟩
 . obtain⟨b,hb,rfl⟩:=ab0 hx
   obtain⟨k1,k2,k3,k4⟩:=hc.kind _ (aas (aU b hb));refine⟨k1,by show ((List.map _ _).length:Int)=_;rw [Aah];exact k2,fun t ht=>?_,k4⟩;obtain⟨t0,h0,rfl⟩:=Aal.1 (show t∈List.map _ _ from ht);obtain⟨i,h1,h2,-⟩:=afv ho hb h0;have:=k3 t0 h0;rw [h2]
   by_cases e:i=0
   . subst e
     rw [ho.head] at h1;have:=Option.some.inj h1;omega
   . omega
 . rw [adi ho.head]
   show List.map _ (blkOf bs 0).phis=[];rw [hc.phi0];rfl
 . obtain⟨b,hb,rfl⟩:=ab0 hx
   exact hc.ins _ (aas (aU b hb)) y hy
 . rw [abp]
   exact Aai (al7 ho) hc.len
 . exact Aai (amV (fun b=>b.phis.length+b.list.length) (fun _ _ _=>by show (List.map _ _).length+_=_;rw [Aah];rfl) ho) hc.many
theorem anq {b:Nat}(ad:afA bs)(hb:b<bs.length)(h:aca bs b=true):aa6 (aaL bs b)=aa6 bs:=by
 obtain⟨h1,h2,h3,-,h5,-⟩:=abh ad hb h;have aL:b<(adF bs (toJ bs b) b).length:=by rw [abo];exact hb
 have aV:toJ bs b<((adF bs (toJ bs b) b).set b (ag6 bs (toJ bs b) b)).length:=by rw [Aat,abo];exact h5
 have hr:(adF bs (toJ bs b) b).map (fun x=>x.phis.length+x.list.length)=bs.map (fun x=>x.phis.length+x.list.length):=by
  apply Aap;intro i;rw [Aak,Aak]
  by_cases hi:i<bs.length
  . rw [aap bs hi,aap (adF bs (toJ bs b) b) (by rw [abo];exact hi),Aaw,Aaw,(aaR ad.ok h5 i).2.1,(aaR ad.ok h5 i).2.2]
  . rw [Aas (by rw [abo];omega),Aas (by omega)]
 have s1:=adg (fun x:DBlock=>x.phis.length+x.list.length) (adF bs (toJ bs b) b) b (ag6 bs (toJ bs b) b) aL;have s2:=adg (fun x:DBlock=>x.phis.length+x.list.length) ((adF bs (toJ bs b) b).set b (ag6 bs (toJ bs b) b)) (toJ bs b) adv aV;rw [acV aL,(aaR ad.ok h5 b).2.1,(aaR ad.ok h5 b).2.2,hr] at s1;rw [acV aV,aaT aL,if_neg h2,(aaR ad.ok h5 _).2.1,(aaR ad.ok h5 _).2.2,h3] at s2;have s3:(ag6 bs (toJ bs b) b).list.length=(blkOf bs b).list.length+(blkOf bs (toJ bs b)).list.length:=by simp [ag6]
 have s5:(ag6 bs (toJ bs b) b).phis.length=(blkOf bs b).phis.length:=by
  show (blkOf (adF bs (toJ bs b) b) b).phis.length=_;rw [(aaR ad.ok h5 b).2.2]
 have s4:adv.phis.length+adv.list.length=0:=rfl;have s6:([]:List acn).length=0:=rfl;unfold aa6 aaL;omega
theorem aeB.merge {b:Nat}(ad:afA bs)(hb:b<bs.length)(h:aca bs b=true)(hc:aeB fs bs):aeB fs (aaL bs b):=by
 obtain⟨h1,h2,h3,h4,h5,h6⟩:=abh ad hb h;refine⟨fun x hx=>?_,?_,fun x hx y hy=>?_,by rw [aaV];exact hc.len,by rw [anq ad hb h];exact hc.many⟩
 . obtain⟨c,aj,rfl⟩:=abR hx
   rw [aaV] at aj;rcases abS hb h5 c with⟨-,e⟩ | ⟨-,rfl,e⟩ | ⟨-,-,e⟩
   . rw [e]
     refine⟨⟨by decide,by decide⟩,by decide,fun t ht=>?_,fun h=>?_⟩
     . cases ht
     . exact absurd h (by decide)
   . rw [e];exact hc.kind (blkOf bs (toJ bs c)) (aas h5)
   . rw [e,(aaR ad.ok h5 c).1];exact hc.kind _ (aas aj)
 . have hlen:(blkOf (adF bs (toJ bs b) b) 0).phis.length=0:=by rw [(aaR ad.ok h5 0).2.2,hc.phi0];rfl
   rcases abS hb h5 0 with⟨-,e⟩ | ⟨-,e0,e⟩ | ⟨-,-,e⟩
   . rw [e];rfl
   . subst e0
     rw [e];exact Aa9 hlen
   . rw [e];exact Aa9 hlen
 . obtain⟨c,aj,rfl⟩:=abR hx
   rw [aaV] at aj;rcases abS hb h5 c with⟨-,e⟩ | ⟨-,rfl,e⟩ | ⟨-,-,e⟩
   . rw [e] at hy;cases hy
   . rw [e] at hy
     rcases Aa7.1 (show y∈_++_ from hy) with hy | hy
     . exact hc.ins _ (aas aj) y hy
     . exact hc.ins _ (aas h5) y hy
   . rw [e,(aaR ad.ok h5 c).2.1] at hy;exact hc.ins _ (aas aj) y hy
theorem aeB.chains(h:aen n bs)(hc:aeB fs bs):aeB fs (acC bs) :=
 acM (P:=aeB fs) (fun _bs _b ad hb hm h=>aeB.merge ad hb hm h) h.ch hc _ (Aac _)
theorem agl {f:Int->Int}{v:aay}(h:v=⟨false,0⟩):agk f v=⟨false,0⟩:=by subst h;rfl
theorem aeB.ren {f:Int->Int}(hc:aeB fs bs)(hd:∀x∈bs,∀y∈x.list,0<=y.dst->0<=f y.dst):aeB fs (bs.map (agE f)):=by
 refine⟨fun x hx=>?_,?_,fun x hx y hy=>?_,by rw [Aah];exact hc.len,?_⟩
 . obtain⟨x0,h0,rfl⟩:=Aal.1 hx
   obtain⟨k1,k2,k3,k4⟩:=hc.kind x0 h0;exact⟨k1,k2,k3,fun e=>agl (k4 e)⟩
 . have h0:=hc.phi0
   cases bs with
   | nil=>rfl
   | cons x l=>show List.map _ x.phis=[];rw [show x.phis=[] from h0];rfl
 . obtain⟨x0,h0,rfl⟩:=Aal.1 hx
   obtain⟨y0,h1,rfl⟩:=Aal.1 (show y∈List.map _ _ from hy);have hi:=hc.ins x0 h0 y0 h1;have aO:=hd x0 h0 y0 h1;have aM:=hi.form;unfold acv at aM;simp only [Bool.or_eq_false_iff,Bool.and_eq_false_iff,decide_eq_false_iff_not,Bool.not_eq_false'] at aM;obtain⟨⟨⟨g1,g2⟩,g3⟩,g4⟩:=aM;have aX:y0.dst = -1->(aiY f y0).dst = -1:=fun e=>by
    show ap1 f y0.dst = -1;unfold ap1;rw [if_neg (by omega)];exact e
   refine⟨hi.op,?_,fun a b=>?_,fun e=>?_⟩
   . unfold acv
     simp only [Bool.or_eq_false_iff,Bool.and_eq_false_iff,decide_eq_false_iff_not,Bool.not_eq_false'];refine⟨⟨⟨?_,?_⟩,?_⟩,?_⟩
     . rcases g1 with g | g
       . exact .inl g
       . exact .inr fun h=>h (aX (Classical.not_not.1 g))
     . rcases g2 with g | g
       . exact .inl g
       . exact .inr fun h=>h (agl (Classical.not_not.1 g))
     . rcases g3 with g | g
       . exact .inl g
       . exact .inr fun h=>h (agl (Classical.not_not.1 g))
     . rcases g4 with g | g
       . exact .inl g
       . refine .inr ⟨g.1,?_⟩
         show ¬0<(List.map _ _).length;rw [Aah];exact g.2
   . show 0<=ap1 f y0.dst
     have h2:=hi.dst a fun⟨e1,e2⟩=>b ⟨e1,aX e2⟩;unfold ap1;rw [if_pos h2];exact aO h2
   . have aj:=hi.call e
     refine⟨aj.1,?_⟩;show ((List.map _ _).length:Int)=_;rw [Aah];exact aj.2
 . have hm:=hc.many
   unfold aa6 at hm ⊢;rw [Abl,show ((fun b:DBlock=>b.phis.length+b.list.length) ∘ agE f)=fun b:DBlock=>b.phis.length+b.list.length by funext x;show (List.map _ _).length+(List.map _ _).length=_;rw [Aah,Aah]];exact hm
theorem aeB.do {p:Nat}(h:aen n bs)(hc:aeB fs bs)(hp:p<=n):aeB fs (doB p n bs):=by
 have h1:=aeB.keep h hc;have h2:aeB fs (apS bs):=aeB.chains h.keep h1;have h3:aeB fs (adn bs):=aeB.keep h.pre h2;obtain⟨e,-,e2⟩:=adR hp h.kept.reg;unfold doB;rw [e];exact h3.ren e2
end
end
section
def abx(f:aaz):aaz:=⟨f.name,f.params,doN f.params.toNat f.regs.toNat f.blocks,doB f.params.toNat f.regs.toNat f.blocks⟩
def atr(u:adL):adL:=⟨u.globals,u.funcs.map abx⟩
def ajx(u:adL):Prop:=∀f∈u.funcs,∀x∈f.blocks,aos x
variable {fs ae:List aaz}
theorem anr(h:apA fs ae){y:aaJ}(hi:as0 fs y):as0 ae y:=by
 refine⟨hi.op,hi.form,hi.dst,fun e=>?_⟩;obtain⟨h1,h2⟩:=hi.call e;refine⟨by rw [h.len];exact h1,?_⟩;have hk:y.fn.toNat<fs.length:=by omega
 obtain⟨f',e1,-,e3⟩:=h.at_ _ _ (Aaa hk);rw [Aaf,e1,Option.getD_some,e3];rw [Aaf,Aaa hk,Option.getD_some] at h2;exact h2
variable {bs:List DBlock}
theorem ans(h:apA fs ae)(hc:aeB fs bs):aeB ae bs:=⟨hc.kind,hc.phi0,fun x hx y hy=>anr h (hc.ins x hx y hy),hc.len,hc.many⟩
theorem ahM{gs : List aaF}  (h : aav ⟨gs, fs⟩ = (0, 0)) (hl : ae.length = fs.length)
 (ht:∀(k:Nat) (f:aaz),fs[k]?=some f->∃(n:Nat) (bs:List DBlock),ae[k]?=some ⟨f.name,f.params,(n:Int),bs⟩∧aen n bs∧aeB fs bs∧f.params<=n∧n<=100∧1<=bs.length):aav ⟨gs,ae⟩=(0,0):=by
 have aF:apA fs ae:=⟨hl,fun k f hf=>by obtain⟨n,bs,h1,-⟩:=ht k f hf;exact⟨_,h1,rfl,rfl⟩⟩
 obtain⟨h1,h2,h3,h4,h5⟩:=acm (by rw [h]);have ai:∀k,(ae.take k).map (·.name)=(fs.take k).map (·.name):=fun k=>by
  refine Aap fun i=>?_;rw [Aak,Aak,Abh,Abh]
  by_cases hik:i<k
  . rw [if_pos hik,if_pos hik]
    cases hf:fs[i]? with
    | none =>
      have:ae[i]?=none:=by rw [List.getElem?_eq_none_iff] at hf ⊢;omega
      rw [this]
    | some f =>
      obtain⟨f',h1,h2,-⟩:=aF.at_ i f hf;rw [h1,Aaw,Aaw,h2]
  . rw [if_neg hik,if_neg hik]
 have aq:∀k,ab6 gs ae k=0:=fun k=>by
  have h6:=h4 k;unfold ab6 ac2 at h6 ⊢;rw [ai];cases hf:fs[k]? with
  | none =>
    have:ae[k]?=none:=by rw [List.getElem?_eq_none_iff] at hf ⊢;omega
    rw [this]
  | some f =>
    obtain⟨n,bs,e1,aS,aD,hp,hn,bl⟩:=ht k f hf;rw [hf] at h6;rw [e1];obtain⟨q1,q2,q3,q4,-,-,-,-,-⟩:=adp h6;show aet _ ⟨f.name,f.params,(n:Int),bs⟩=0;unfold aet;rw [if_neg (by rw [q1];simp),if_neg (by simp only [Bool.not_eq_true];exact q2),if_neg (by show ¬(¬(0<=f.params∧f.params<=6)∨¬(f.params<=(n:Int)∧(n:Int)<=100));omega),if_neg];have:=aD.len;have:=aD.many;show ¬(¬(1<=bs.length∧bs.length<=40)∨300<aa6 bs);omega
 have aB:∀k,abH ae k=0:=fun k=>by
  unfold abH;cases hf:fs[k]? with
  | none =>
    have:ae[k]?=none:=by rw [List.getElem?_eq_none_iff] at hf ⊢;omega
    rw [this]
  | some f =>
    obtain⟨n,bs,e1,aS,aD,-⟩:=ht k f hf;rw [e1];exact asr aS (ans aF aD) _ _
 have aA:abw ae=abw fs:=by
  unfold abw;have:ae.findIdx? aht=fs.findIdx? aht:=by
   have e1:∀l:List aaz,l.findIdx? aht=(l.map (·.name)).findIdx? (fun s=>s.toList == [109,97,105,110]):=fun l=>by
    rw [List.findIdx?_map];rfl
   have e2:=ai fs.length;rw [Abq (by omega),Abq (by omega)] at e2;rw [e1,e1,e2]
  rw [this]
 have ax:aiv ae=aiv fs:=by
  unfold aiv;rw [aA]
  by_cases hm:abw fs<0
  . rw [if_pos hm,if_pos hm]
  . rw [if_neg hm,if_neg hm]
    obtain⟨m,aQ,bg⟩:=aiK hm;rw [bg,Aan];obtain⟨f',e1,-,e3⟩:=aF.at_ m _ (Aaa aQ);rw [Aaf,Aaf,e1,Aaa aQ,Option.getD_some,Option.getD_some,e3]
 rw [<-h];unfold aav;dsimp only;rw [hl,ax];have p1:ado (ad1 gs) gs.length=gs.length:=abU fun j _=>h3 j;have p2:ado (ab6 gs ae) fs.length=fs.length:=abU fun j _=>aq j;have p3:ado (abH ae) fs.length=fs.length:=abU fun j _=>aB j;have p4:ado (abH fs) fs.length=fs.length:=abU fun j _=>h5 j;have p5:ado (ab6 gs fs) fs.length=fs.length:=abU fun j _=>h4 j;rw [p1,p2,p3,p4,p5];simp only [Abp,if_false]
variable {u:adL}
theorem alE(h:aav u=(0,0))(hn:ajx u){k:Nat}{f:aaz}(hf:u.funcs[k]?=some f) :
 aen f.regs.toNat f.blocks∧aeB u.funcs f.blocks∧f.params.toNat<=f.regs.toNat∧f.regs.toNat<=100∧0<=f.params∧0<=f.regs:=by
 obtain⟨hh,hb⟩:=adU h hf;obtain⟨-,-,p1,p2,p3,p4,l1,l2,hm⟩:=adp hh;have bf:=(ab9 h).2 f (Aae hf);have hr:f.regs=((f.regs.toNat:Nat):Int):=by omega
 obtain⟨h1,h2⟩:=ass (n:=f.regs.toNat) (hn f (Aae hf)) hr hb l1 l2 hm (fun x hx=>(bf.each x hx).args);exact⟨h1,h2,by omega,by omega,p1,by omega⟩
theorem aks{n p:Nat}(h:aen n bs)(hp:p<=n)(hn:n<=1048576):aen (doN p n bs).toNat (doB p n bs):=h.kept.names hp hn
theorem aoV{n p:Nat}(h:aen n bs)(hp:p<=n):(p:Int)<=doN p n bs∧doN p n bs<=n:=akr hp h.kept.reg
theorem ahN(h:aav u=(0,0))(hn:ajx u):ajx (atr u):=fun f hf x hx=>by
 obtain⟨f0,h0,rfl⟩:=Aal.1 hf;obtain⟨i,hi,rfl⟩:=Aav h0;obtain⟨h1,-,h3,h4,-⟩:=alE h hn (Aaa hi);exact (aks h1 h3 (by omega)).ok.num x hx
theorem afl(h:aav u=(0,0))(hn:ajx u):aav (atr u)=(0,0):=by
 refine ahM (fs:=u.funcs) h (by simp) fun k f hf=>?_;obtain⟨h1,h2,h3,h4,h5,h6⟩:=alE h hn hf;have h7:=aoV h1 h3;refine⟨(doN f.params.toNat f.regs.toNat f.blocks).toNat,doB f.params.toNat f.regs.toNat f.blocks,?_,aks h1 h3 (by omega),aeB.do h1 h2 h3,by omega,by omega,(aks h1 h3 (by omega)).tok.pos⟩;rw [Aak,hf,Abi (by omega)];rfl
end
section
open Go.RowKit
set_option maxRecDepth 100000 in
set_option maxHeartbeats 1000000 in
theorem aqL {S : Nat -> Prop} (nm : ByteArray) (p r : Int) (ba : Option Addr) (n bc : Nat) (bs : List DBlock) (w : World) (hb : SlAt S w 6 aa0 (.slice ba n bc) bs) (aW : bs.length = n)
 (h1:n<=40) (h2:aa6 bs<=300) (h3:r<=100) (h4:0<=r) :
 Calls Tryz.prog 55 #[.agg #[.string nm,.int .i64 p,.int .i64 r,.slice ba n bc]] w fun e w'=>e = .returned (.bool false)∧Below w.heap.size w w':=by
 have Hb:=hid hb;have aZ:=hid aW;clear hb aW;go_enter Tryz.func55,Tryz.ntmps55;go_wp2_with fail
 go_loopw [3, 9] (fun m i wr => ∃ k : Nat, k <= n ∧ i = .int .i64 k ∧ m = .int .i64 (aa6 (bs.take k) : Nat) ∧ Below (w.heap.size + 1) (w.alloc (Obj.cells #[.string nm, .int .i64 p, .int .i64 r, .slice ba n bc] 37)) wr)
  (fun _ i _=>n - (intOf i).toNat)
 case atStart=>exact⟨0,Aaj _,rfl,rfl,Below.refl _ _⟩
 case round =>
  obtain⟨k,hk,rfl,rfl,ak⟩:=hrel
  by_cases hlt:k<n
  . have az:k<bs.length:=by rw [aZ.out];exact hlt
    have a7:=ahx bs k az;have bh:=aka bs (k+1);have an:=hid ak;have aR:=((Below.refl w.heap.size w).alloc (Aac _) _).trans (ak.mono (by simp));obtain⟨b,off,cs,rfl,hS,hx,aj,aT⟩:=(Hb.out.later aat aR).get az;obtain⟨pa,pc,la,lc,ta,tc,rfl,-,-,-,bj,a8,bk,-,-⟩:=hx.opens;obtain⟨c0,c1,c2,c3,c4,c5⟩:=aT.get6;have aI:=ak.size;simp at aI;clear ak aR aT aj hx;go_wp2_with fail;go_roundw
    case rel=>exact⟨k+1,by omega,by go_num,by rw [a7];go_num,by have h:=an.out;exact bE1 h⟩
    case measure=>simp [intOf];omega
  . obtain⟨hc,hf⟩:=aaH ak
    have an:=hid ak;have aI:=ak.size;simp at aI;clear ak;obtain rfl:k=n:=by omega
    rw [Abq (by rw [aZ.out];exact Aac _)];generalize hmany:aa6 bs=many at *;clear hmany;have hD:(decide (40<(k:Int))||decide (300<(many:Int))||decide (100<r))=false:=by
     simp only [Bool.or_eq_false_iff,decide_eq_false_iff_not];omega
    have HD:=hid hD;clear hD;go_wp2_with fail;go_ret;exact⟨congrArg (fun b=>Ending.returned (Value.bool b)) HD.out,by have h:=an.out;exact bE1 h⟩
end
end Go.Proofs.YtpeejlpcikefcaaGreatDoor
