import Derived.Test.YtnkfdeiigplhoaaGreatDoorPRunB
/- code.Ahead of a unit in its form; turnerylaw6.weighFits. turnerylaw6.weighFits: are there as many counts as blocks? run.Counts: the parts that its walk wants. -/
set_option maxHeartbeats 2000000
namespace Go.Proofs.YtnkfdeiigplhoaaGreatDoor
section
open Go.RowKit
theorem akf {S : Nat -> Prop} (nm : ByteArray) (p r : Int) (ba : Option Addr) (bc : Nat) (bs : List aad) (n : Nat) (w : World) (hb : SlAt S w 6 aaJ (.slice ba n bc) bs) (aT : bs.length = n) (hn : n <= 1048576)
 (a6:∀(k:Nat) (x:aad),bs[k]?=some x->x.fin.to.length<=2∧∀t∈x.fin.to,0<=t∧t<(bs.length:Int)) :
 Calls Tryz.prog 52 #[.agg #[.string nm,.int .i64 p,.int .i64 r,.slice ba n bc]] w fun e w' =>
  ∃a c,e = .returned (.slice a n c)∧SlAt (fun b=>w.heap.size<=b) w' 1 rRow (.slice a n c) (aheadF bs)∧Below w.heap.size w w':=by
 subst aT;refine (ahL nm p r ba bc bs w hb hn a6).mono ?_;rintro e w' ⟨v,rfl,hv,hb⟩;obtain⟨a,c,rfl⟩:=aj6 hv;have hl:(aheadF bs).length=bs.length:=by unfold aheadF;simp
 rw [hl] at hv ⊢;exact⟨a,c,rfl,hv,hb⟩
theorem amf {fn : Func} (aB : fn.results = #[.tmp 4, .cell 5 31]) {tmps : Array Value} {b : Nat} {v : Value} (hv : tmps.getD 4 undef = v) (ht : tmps.getD 5 undef = .pointer (some ⟨b, 0, none⟩)) {c a : Int} {W : World}
 (h0:W.cell? ⟨b,0,none⟩=some (.int .i64 c)) (h1:W.cell? ⟨b,1,none⟩=some (.int .i64 a)):(results fn tmps).run Tryz.prog W = .ok (.tuple #[v,.agg #[.int .i64 c,.int .i64 a]]) W:=by
 simp only [Ab3] at ht hv;simp [results,aB,ht,hv,go_sem,h0,h1]
set_option maxRecDepth 100000 in
theorem ajt {S : Nat -> Prop} (ga : Option Addr) (gc : Nat) (fa : Option Addr) (fc : Nat) (gs : List aas) (fs : List aao) (kk : Nat) (w : World)
 (hg:SlAt S w 3 aaE (.slice ga gs.length gc) gs) (hf:SlAt S w 4 aaZ (.slice fa fs.length fc) fs) (hw:abX w)
 (aZ:gs.length<=1048576) (aX:fs.length<=1048576) (aK:∀(k:Nat) (f:aao),fs[k]?=some f->aaT f.blocks<=1048576∧f.blocks.length<=1048576)
 (aH:aal ⟨gs,fs⟩=(0,0)) (aJ:kk<fs.length) :
 Calls Tryz.prog 26 #[.agg #[.slice ga gs.length gc,.slice fa fs.length fc],.int .i64 kk] w fun e w' =>
  ∃a c,e = .returned (.tuple #[.slice a fs[kk].blocks.length c,.agg #[.int .i64 0,.int .i64 0]])∧SlAt (fun b=>w.heap.size<=b) w' 1 rRow (.slice a fs[kk].blocks.length c) (aheadF fs[kk].blocks)∧Below w.heap.size w w':=by
 have Hg:=hid hg;have Hf:=hid hf;have Hw:=hid hw;have aQ:=hid aK;have aG:=hid aH;clear hg hf hw aK aH;go_enter Tryz.func26,Tryz.ntmps26;obtain⟨W,hW⟩:∃W,W=(w.alloc (.cells #[.slice ga gs.length gc,.slice fa fs.length fc] 25)).alloc (.cells #[.int .i64 0,.int .i64 0] 31):=⟨_,rfl⟩
 have au:Below w.heap.size w W:=by rw [hW];exact bE
 have aO:=hid au;have W0:Hid (W.cell? ⟨w.heap.size,0,none⟩=some (.slice ga gs.length gc)):=by show _=_;rw [hW];simp
 have W1:Hid (W.cell? ⟨w.heap.size,1,none⟩=some (.slice fa fs.length fc)):=by show _=_;rw [hW];simp
 have R0:Hid (W.cell? ⟨w.heap.size+1,0,none⟩=some (.int .i64 0)):=by show _=_;rw [hW];simp
 have R1:Hid (W.cell? ⟨w.heap.size+1,1,none⟩=some (.int .i64 0)):=by show _=_;rw [hW];simp
 have F0:Hid (W.frozen? ⟨w.heap.size+1,0,none⟩=false):=by show _=_;rw [hW];simp
 have F1:Hid (W.frozen? ⟨w.heap.size+1,1,none⟩=false):=by show _=_;rw [hW];simp
 have bd:W.heap.size=w.heap.size+2:=by rw [hW];simp
 go_wp2_with fail;rw [<-hW];have aL:abX W:=abX.below Hw.out au;refine (adr (S:=S) ga gc fa fc gs fs W (Hg.out.later aan au) (Hf.out.later aak au) aL aZ aX aQ.out).mono ?_;rintro e w1 ⟨rfl,ak⟩;have g0:=aab W0.out ak;have g1:=aab W1.out ak;have g2:=aab R0.out ak;have g3:=aab R1.out ak;have k2:=(ak.frozen (p:=⟨w.heap.size+1,0,none⟩) (by simp;omega)).trans F0.out;have k3:=(ak.frozen (p:=⟨w.heap.size+1,1,none⟩) (by simp;omega)).trans F1.out;have z1:w.heap.size+1<w1.heap.size:=aac g2;have z0:w.heap.size<w1.heap.size:=aac g0;rw [aG.out];have ax:Hid (Below w.heap.size w w1):=aO.out.trans (ak.mono (by omega));clear ak hW au aL;obtain⟨b,off,xa,xc,rfl,an,aM,-,-⟩:=acF Hf.out aJ;obtain⟨c0,c1,c2,c3⟩:=(an.later ax.out).get4;obtain⟨n1,n2,n3⟩:=aiQ (u:=⟨gs,fs⟩) (k:=kk) (f:=fs[kk]) (by rw [aG.out]) (Aaa aJ);have N3:=hid n3;have aR:=hid aM;have be:b<w1.heap.size:=aac c3;have a7:decide ((0:Int)<=(kk:Int)∧(kk:Int)<=(fs.length:Int) - 1)=true:=decide_eq_true ⟨by omega,by omega⟩;clear an n3 aM
 go_wp2_with (first
  | (go_at_call 25; ((with_reducible refine (aaq _ _ _ _).mono ?_); rintro e w' ⟨rfl, rfl⟩; rw [a7])))
 refine (akf _ _ _ xa xc fs[kk].blocks _ _ (aR.out.later aam ?_) rfl (by omega) ?_).mono ?_
 . have h:=ax.out;exact bE1 h
 . intro i x hx
   have h:=aeV (N3.out i x hx);refine⟨by omega,fun t ht=>?_⟩;have:=h.2.2.2.1 t ht;omega
 . rintro e w2 ⟨a,c,rfl,hv,aq⟩
   have ar:Below w1.heap.size w1 w2:=by exact bE1 aq
   have g4:=aab g2 ar;have g5:=aab g3 ar;have k4:=(ar.frozen (p:=⟨w.heap.size+1,0,none⟩) z1).trans k2;have k5:=(ar.frozen (p:=⟨w.heap.size+1,1,none⟩) z1).trans k3;have Hv:=hid hv;have aP:=hid ar;clear hv ar aq;go_wp2_with fail;have q:=abj (u := .int .i64 0) (v := .int .i64 0) g4 g5;refine bodyPost_ret (amf rfl rfl rfl (c:=0) (a:=0) q.1 q.2) rfl ⟨_,_,rfl,?_,?_⟩
   . refine Hv.out.mono aax (fun b hb=>?_) ((aiB _ ?_).trans (aiB _ ?_))
     . simp at hb;omega
     . intro b hb;simp at hb;simp;omega
     . intro b hb;simp at hb;simp;omega
   . have h:=ax.out;have h2:=aP.out;exact bE2 h2 h
end
section
open Go.RowKit
theorem amh {S:Nat->Prop}{w:World}{a:Option Addr}{n c:Nat}{l:List (List Int)}(h:SlAt S w 1 rRow (.slice a n c) l){t:Nat}(ht:t<l.length):∃b off ra rc,a=some ⟨b,off,none⟩∧w.cell? ⟨b,off+t,none⟩=some (.slice ra l[t].length rc)∧SlAt S w 1 aaO (.slice ra l[t].length rc) l[t]:=by
 obtain⟨b,off,cs,ha,-,⟨v,rfl,hv⟩,-,an⟩:=h.get ht;have d:=an.get1;rw [Aan] at d;obtain⟨ra,rc,rfl,-⟩:=hv.val;exact⟨b,off,ra,rc,ha,d,hv⟩
end
section
open Go.RowKit Go.Sort
variable {w:World}
theorem anJ(ty : TypeId) (base : Nat) (v : Value) (l : List Int) (af : aaz base w v l) {S : Nat -> Prop} (sa : Option Addr) (m c : Nat) (L : List Int) (aw : SlAt S w 1 aaO (.slice sa m c) L) (hm : L.length = m)
 (hn:l.length+m<=1048576) (aj:base<=w.heap.size) :
 ∃v' w',(Builtin.append_ #[26,26] ty #[v,.slice sa m c]).run Tryz.prog w = .ok v' w'∧aaz base w' v' (l++L)∧w.grownBy w' v.ownBlock∧∀k,v'.ownBlock=some k->v.ownBlock=some k∨w.heap.size<=k:=by
 subst hm;obtain⟨ii,av,aD,aE,aF⟩:=info_parts afA;have aC:∀x∈L,I64 x:=fun x hx=>by
  obtain⟨i,hi,rfl⟩:=Aa1 hx;obtain⟨-,-,a8,-,-,⟨-,h1,h2⟩,-⟩:=aw.get hi;exact⟨h1,h2⟩
 have ai:∀x∈l++L,I64 x:=fun x hx=>(Aaz.1 hx).elim (af.2 x) (aC x);cases sa with
 | none =>
   have hl:=aw.none;subst hl;rw [Abe] at ai ⊢;refine⟨v,w,?_,af,⟨rfl,rfl,rfl,Aad _,fun _ _ _=>rfl⟩,fun k hk => .inl hk⟩;rcases af.1.2 with⟨rfl,-⟩ | ⟨g,cap,cur,rfl,-,-,hnc,-⟩
   . simp [Builtin.append_,run_underlying Tryz.underlying26,sizeOf,typeInfo,av,Builtin.lenOf,Builtin.firstCells]
   . simp [Builtin.append_,run_underlying Tryz.underlying26,sizeOf,typeInfo,av,Builtin.lenOf,Builtin.firstCells,hnc,storeCells]
 | some ad =>
   have aU:∀(j:Nat) u,(L.map fun x=>Value.int .i64 x)[j]?=some u->w.cell? (ad.add j)=some u:=by
    cases hL:L with
    | nil=>intro j u hj;simp at hj
    | cons y L' =>
      obtain⟨b,off,aS,-⟩:=abb aw (t:=0) (by rw [hL];simp);cases aS;rw [<-hL];exact aoZ aw
   obtain⟨v',w',hr,h2,h3,-,h5⟩:=run_append_own_at (P:=Tryz.prog) w base 26 ty 3 ii (.int .i64 0) 1 8 Tryz.underlying26 av aD aE aF rfl (by decide) v l.length _ af.1 ad L.length c (L.map fun x => .int .i64 x) (by simp) aU (fun u hu=>by obtain⟨x,-,rfl⟩:=Aau.1 hu;rfl) (by unfold maxLen;omega) (by omega) aj;refine⟨v',w',hr,⟨by rw [Aai,Aav];exact h2,ai⟩,h3,fun k hk=>?_⟩;rcases h5 with e | e
   . rw [e] at hk;exact .inl hk
   . rw [e] at hk;cases hk;exact .inr (Aad _)
theorem apW(ty:TypeId)(base:Nat)(v:Value)(l:List Int)(af:aaz base w v l)(m:Nat)(hn:l.length+m<=1048576)(aj:base<=w.heap.size) :
 ∃v' w',(Builtin.append_ #[26,3] ty #[v,.int .i64 (m:Int)]).run Tryz.prog w = .ok v' w'∧aaz base w' v' (l++List.replicate m 0)∧w.grownBy w' v.ownBlock∧∀k,v'.ownBlock=some k->v.ownBlock=some k∨w.heap.size<=k:=by
 obtain⟨ii,av,aD,aE,aF⟩:=info_parts afA;obtain⟨v',w',hr,h2,h3,-,h5⟩:=afs (P:=Tryz.prog) w base 26 3 ty 3 ii (.int .i64 0) 8 Tryz.underlying26 Tryz.underlying3 av aD aE aF rfl rfl v l.length _ af.1 m (by unfold maxLen;omega) (by omega) aj;refine⟨v',w',hr,⟨?_,fun x hx=>(Aaz.1 hx).elim (af.2 x) (fun h=>by rw [Abz h];exact⟨by decide,by decide⟩)⟩,h3,fun k hk=>?_⟩
 . rw [Aai,Aav,Aa6,List.map_replicate];exact h2
 . rcases h5 k hk with e | e
   . exact .inl e
   . exact .inr (by omega)
theorem afS(s:ByteArray)(p r:Int)(ba:Option Addr)(n c:Nat)(w:World) :
 Calls Tryz.prog 29 #[.agg #[.string s,.int .i64 p,.int .i64 r,.slice ba n c]] w fun e w'=>e = .returned (.bool (s.toList == [109,97,105,110]))∧Below w.heap.size w w':=by
 go_enter Tryz.func29,Tryz.ntmps29;go_wp2;go_ret;exact⟨rfl,bE⟩
theorem aks {S:Nat->Prop}(fa:Option Addr)(fc:Nat)(fs:List aao)(w:World)(h:SlAt S w 4 aaZ (.slice fa fs.length fc) fs)(hm:fs.length<=1048576) :
 Calls Tryz.prog 28 #[.slice fa fs.length fc,.func (.func 29) #[] #[]] w fun e w'=>e = .returned (.int .i64 (aaK fs))∧Below w.heap.size w w':=by
 have Hh:=hid h;clear h;go_enter Tryz.func28,Tryz.ntmps28;go_wp2_with fail;go_loopw [8] (fun i wr=>∃k:Nat,k<=fs.length∧i = .int .i64 k∧(∀j,j<k->∀x,fs[j]?=some x->adg x=false)∧Below w.heap.size w wr) (fun i _=>fs.length - (intOf i).toNat)
 case atStart=>exact⟨0,Aah _,rfl,fun j hj=>by omega,Below.refl _ _⟩
 case round =>
  obtain⟨k,hk,rfl,ai,hb⟩:=hrel;have H:=hid ai;have Hb:=hid hb;clear ai
  by_cases hlt:k<fs.length
  . obtain⟨b,off,cs,rfl,-,hx,-,an⟩:=Hh.out.get hlt
    obtain⟨ba,bc,rfl,-,-,-,-⟩:=hx.opens;obtain⟨c0,c1,c2,c3⟩:=(an.later hb).get4;clear an hx hb
    by_cases he:adg fs[k]=true
    . have hi:aaK fs=k:=by unfold aaK;rw [aex (Aaa hlt) he H.out]
      have aV:(fs[k].name.toList == [109,97,105,110])=true:=he;have Hi:=hid hi;clear hi he;go_wp2_with (go_at_call 29;((with_reducible refine (afS _ _ _ _ _ _ _).mono ?_);rintro e w2 ⟨rfl,aq⟩));go_ret;exact⟨aaA Hi.out.symm,by have h:=Hb.out;exact bE2 aq h⟩
    . have aA:adg fs[k]=false:=by simpa using he
      have aV:(fs[k].name.toList == [109,97,105,110])=false:=aA;have He:=hid aA;clear aA he;go_wp2_with (go_at_call 29;((with_reducible refine (afS _ _ _ _ _ _ _).mono ?_);rintro e w2 ⟨rfl,aq⟩));go_roundw
      case rel=>exact⟨k+1,by omega,by go_num,abL H.out (fun x hx=>by rw [Aaa hlt] at hx;cases hx;exact He.out),by have h:=Hb.out;exact bE2 aq h⟩
      case measure=>simp [intOf];omega
  . have hi:aaK fs = -1:=by
     unfold aaK;rw [aew (fun j x hx=>H.out j (by have:=(Aae.1 hx).1;omega) x hx)]
    have Hi:=hid hi;clear hi hb;go_wp2_with fail;go_ret;exact⟨aaA Hi.out.symm,Hb.out⟩
def abp(u:aaC)(n:Nat)(fuel:Int):Int×Int :=
 if aal u≠(0,0) then aal u else if 30<n then (2,-1) else if ¬(0<=fuel∧fuel<=100000) then (3,-1) else (0,0)
theorem agf {fn : Func} (aB : fn.results = #[.tmp 6, .cell 7 29, .cell 8 31]) {tmps : Array Value} {b7 b8 : Nat} {v : Value} (hv : tmps.getD 6 undef = v) (h7 : tmps.getD 7 undef = .pointer (some ⟨b7, 0, none⟩)) (h8 : tmps.getD 8 undef = .pointer (some ⟨b8, 0, none⟩))
 {st vl aN c a:Int} {ov:Value} {W:World} (h0:W.cell? ⟨b7,0,none⟩=some (.int .i64 st)) (h1:W.cell? ⟨b7,1,none⟩=some (.int .i64 vl)) (h2:W.cell? ⟨b7,2,none⟩=some ov) (h3:W.cell? ⟨b7,3,none⟩=some (.int .i64 aN))
 (hc:W.cell? ⟨b8,0,none⟩=some (.int .i64 c)) (ha:W.cell? ⟨b8,1,none⟩=some (.int .i64 a)):(results fn tmps).run Tryz.prog W = .ok (.tuple #[v,.agg #[.int .i64 st,.int .i64 vl,ov,.int .i64 aN],.agg #[.int .i64 c,.int .i64 a]]) W:=by
 simp only [Ab3] at h7 h8 hv;simp [results,aB,h7,h8,hv,go_sem,h0,h1,h2,h3,hc,ha]
def agE(u:aaC)(inp:List Int)(fuel:Int)(w:World)(e:Ending)(w':World):Prop :=
 Below w.heap.size w w' ∧ ((abp u inp.length fuel = (0, 0) ∧ ∃ ca cc oa oc, e = .returned (.tuple #[.slice ca u.funcs.length cc, .agg #[.int .i64 (acD u inp fuel.toNat).state, .int .i64 (acD u inp fuel.toNat).value, .slice oa (acD u inp fuel.toNat).out.length oc, .int .i64 ((acD u inp fuel.toNat).steps : Int)], .agg #[.int .i64 0, .int .i64 0]]) ∧
  SlAt (fun b => w.heap.size <= b) w' 1 rRow (.slice ca u.funcs.length cc) (acD u inp fuel.toNat).cnt ∧ SlAt (fun b => w.heap.size <= b) w' 1 aaO (.slice oa (acD u inp fuel.toNat).out.length oc) (acD u inp fuel.toNat).out) ∨
  (∃ c a, (c ≠ 0 ∨ a ≠ 0) ∧ abp u inp.length fuel = (c, a) ∧ e = .returned (.tuple #[.slice none 0 0, .agg #[.int .i64 0, .int .i64 0, .slice none 0 0, .int .i64 0], .agg #[.int .i64 c, .int .i64 a]])))
theorem aeh{OB FB:Nat}{o0 o1 o2 o3 p0 p1:Value}(hO:aaj w OB 0 [o0,o1,o2,o3])(hR:aaj w FB 0 [p0,p1])(al:OB≠FB)(u0 u1 u2 u3 v0 v1:Value) :
 aaj ((((((w.setCell ⟨OB,0,none⟩ u0).setCell ⟨OB,1,none⟩ u1).setCell ⟨OB,2,none⟩ u2).setCell ⟨OB,3,none⟩ u3).setCell ⟨FB,0,none⟩ v0).setCell ⟨FB,1,none⟩ v1) OB 0 [u0,u1,u2,u3] ∧
 aaj ((((((w.setCell ⟨OB,0,none⟩ u0).setCell ⟨OB,1,none⟩ u1).setCell ⟨OB,2,none⟩ u2).setCell ⟨OB,3,none⟩ u3).setCell ⟨FB,0,none⟩ v0).setCell ⟨FB,1,none⟩ v1) FB 0 [v0,v1]:=by
 refine⟨fun j v hj=>?_,apX (o0:=p0) (o1:=p1) fun j v hj=>?_⟩
 . rw [aaf _ al,aaf _ al];exact ap4 hO j v hj
 . rw [aaf _ (Ne.symm al),aaf _ (Ne.symm al),aaf _ (Ne.symm al),aaf _ (Ne.symm al)];exact hR j v hj
theorem aa8{base OB FB:Nat}(h1:base<=OB)(h2:base<=FB)(u0 u1 u2 u3 v0 v1:Value) :
 Below base w ((((((w.setCell ⟨OB,0,none⟩ u0).setCell ⟨OB,1,none⟩ u1).setCell ⟨OB,2,none⟩ u2).setCell ⟨OB,3,none⟩ u3).setCell ⟨FB,0,none⟩ v0).setCell ⟨FB,1,none⟩ v1) :=
 ((((((Below.refl _ _).setCell h1 _).setCell h1 _).setCell h1 _).setCell h1 _).setCell h2 _).setCell h2 _
theorem aoE:(Tryz.prog.info? 27).map (fun i=>(i.zero,i.size,i.bytes))=some (some (.slice none 0 0),1,24):=by kernel_rfl
theorem aoD:(Tryz.prog.info? 26).map (fun i=>(i.zero,i.size,i.bytes))=some (some (.slice none 0 0),1,24):=by kernel_rfl
section
variable {G F iv : Value} {W0 : World} {base WB : Nat} {W W' : World} {V : BPth -> Value} {m : List Int} {ag : List Value} {cs : List (List Int)}
def amS(W:World)(K:Nat)(V:BPth->Value)(X:Nat->Prop):Prop:=∀b,X b->b<W.heap.size∧∀p,aiJ K p->(V p).ownBlock≠some b
theorem adm.staysRow(_h:adm G F iv W0 base WB W V m ag cs){X:Nat->Prop}(hX:amS W cs.length V X){p:BPth}(hp:aiJ cs.length p)(hg:W.grownBy W' (V p).ownBlock):aav X W W':=fun b o v hb hc=>by
 rw [World.cell?_of_block (w:=W) (hg.block b (hX b hb).1 fun e=>(hX b hb).2 p hp e.symm)];exact hc
theorem adm.staysBox(h:adm G F iv W0 base WB W V m ag cs){X:Nat->Prop}(hX:amS W cs.length V X){j:Nat}(v:Value){ay:World}(hs:aav X W ay):aav X W (ay.setCell ⟨WB,j,none⟩ v):=fun b o x hb hc=>by
 rw [World.cell?_of_block (w:=ay) (Below.heap_setCell _ _ _ _ (fun e=>(hX b hb).2 (some .box) trivial (by rw [h.box];show some WB=some b;rw [show b=WB from e])))];exact hs b o x hb hc
theorem adm.slAhd(h:adm G F iv W0 base WB W V m ag cs){X:Nat->Prop}{L:List (List (List Int))}(hl:ag.length=L.length)(hA:∀(j:Nat) v x,ag[j]?=some v->L[j]?=some x->SlAt X W 1 rRow v x) :
 SlAt (fun b=>X b∨(V none).ownBlock=some b) W 1 anB (V none) L:=by
 have ho:W.ownsRow base 27 1 (V none) (ag.map fun v=>[v]).length (ag.map fun v=>[v]).flatten:=h.rows.own none trivial;rw [acS,Aal] at ho;have hc:=fun g hg=>ho.cells (g:=g) hg;rcases id ho.2 with⟨e,e2⟩ | ⟨g,cap,cur,e,hg,hgg,hn,hm,-⟩
 . have hL:L=[]:=Abq.1 (by rw [<-hl];exact e2)
   subst hL;exact⟨none,0,e,Aad _,by decide,fun h=>absurd rfl h⟩
 . unfold maxLen at hm
   rw [hl] at e hn;refine⟨_,cap,e,hn,by omega,fun al=>⟨g,0,rfl,.inr (by rw [e];rfl),fun i x hx=>?_⟩⟩;obtain⟨hi,rfl⟩:=Aae.1 hx;have aI:i<ag.length:=by omega
   refine⟨[ag[i]],⟨ag[i],rfl,(hA i ag[i] L[i] (Aaa aI) hx).mono aax (fun b hb => .inl hb) (aav.refl _ _)⟩,rfl,fun j u hj=>?_⟩
   match j,hj with
   | 0,hj =>
     cases hj;have ae:=hc g (by rw [e];rfl) i ag[i] (Aaa aI);rw [show (⟨g,0,none⟩:Addr).add i=⟨g,i,none⟩ by unfold Addr.add;split <;> simp_all] at ae;rw [Aab,Aan,Aa2];exact ae
   | j+1,hj=>simp at hj
end
def ajp(WB:Nat)(W:World):Nat:=match W.cell? ⟨WB,8,none⟩ with | some (.int _ n)=>n.toNat | _=>0
section
variable {u : aaC} {G F A : Value} {S : Nat -> Prop} {W0 : World} {base WB : Nat} {W : World} {V : WPth -> Value} {iv : Value} {s : RnS}
theorem aaQ.intsSl(h:aaQ u G F A S W0 base WB W V iv s){p:WPth}(hp:okW s.frs.length s.cnt.length p)(ht:p.ty=3)(hs:p.sz=1){l:List Int}(hl:walkC G F A iv V s p=aaF l)(az:∀v∈l,I64 v) :
 ∃a c,V p = .slice a l.length c∧SlAt (fun b=>base<=b) W 1 aaO (.slice a l.length c) l:=by
 have ho:=h.rows.own p hp;rw [hl,ht,hs,abm,abi] at ho;have hO:aaz base W (V p) l:=⟨ho,az⟩
 obtain⟨a,c,e⟩:=hO.shape;have h2:=hO.sl;rw [e] at h2;exact⟨a,c,e,h2.mono aae (fun b hb=>hb.1) (aav.refl _ _)⟩
theorem aaQ.cntSl(h:aaQ u G F A S W0 base WB W V iv s)(az:∀r∈s.cnt,∀v∈r,I64 v):∃a c,V .cnts = .slice a s.cnt.length c∧SlAt (fun b=>base<=b) W 1 rRow (.slice a s.cnt.length c) s.cnt:=by
 have ho:W.ownsRow base 26 1 (V .cnts) ((List.range s.cnt.length).map fun k=>[V (.cnt k)]).length ((List.range s.cnt.length).map fun k=>[V (.cnt k)]).flatten:=h.rows.own .cnts trivial;have e0:(List.range s.cnt.length).map (fun k=>[V (.cnt k)])=((List.range s.cnt.length).map fun k=>V (.cnt k)).map fun v=>[v]:=by rw [List.map_map];rfl
 rw [e0,acS,Aal,Aal,List.length_range] at ho;have hc:=fun g hg=>ho.cells (g:=g) hg;rcases id ho.2 with⟨e,e2⟩ | ⟨g,cap,cur,e,hg,hgg,hn,hm,-⟩
 . have hL:s.cnt=[]:=Abq.1 e2
   rw [hL];exact⟨none,0,e,⟨none,0,rfl,Aad _,by decide,fun h=>absurd rfl h⟩⟩
 . unfold maxLen at hm
   refine⟨_,cap,e,⟨_,cap,rfl,hn,by omega,fun al=>⟨g,0,rfl,hg,fun i x hx=>?_⟩⟩⟩;obtain⟨hi,rfl⟩:=Aae.1 hx;obtain⟨a,c,e3,h3⟩:=h.intsSl (p := .cnt i) hi rfl rfl (l:=s.cnt[i]) (by show aaF (s.cnt.getD i [])=_;rw [Aac,hx];rfl) (az _ (Aaf hi));refine⟨[V (.cnt i)],⟨V (.cnt i),rfl,by rw [e3];exact h3⟩,rfl,fun j u hj=>?_⟩
   match j,hj with
   | 0,hj =>
     cases hj;have ae:=hc g (by rw [e];rfl) i (V (.cnt i)) (by rw [Aak,Aa4 hi];rfl);rw [show (⟨g,0,none⟩:Addr).add i=⟨g,i,none⟩ by unfold Addr.add;split <;> simp_all] at ae;rw [Aab,Aan,Aa2];exact ae
   | j+1,hj=>simp at hj
theorem RnW.stop {u:aaC}{s:RnS}(h:RnW u s)(x:Int):RnW u (s.stop x):=⟨h.frs,h.link,h.deep,h.mem,h.inp,h.out,h.value,h.cnt⟩
theorem RnW.cnt64 {u:aaC}{s:RnS}(h:RnW u s)(hs:s.steps<=100001):∀r∈s.cnt,∀v∈r,I64 v:=fun r hr v hv=>by
 obtain⟨k,hk,rfl⟩:=Aa1 hr;have a1:k<u.funcs.length:=by rw [<-h.cnt.1];exact hk
 obtain⟨r',h1,-,h3⟩:=h.cnt.2 k _ (Aaa a1);rw [Aaa hk] at h1;cases h1;have:=h3 v hv;unfold I64;omega
theorem aaQ.stepsAt(h:aaQ u G F A S W0 base WB W V iv s):ajp WB W=s.steps:=by
 have c8:=h.boxAt.2.2.1 8 _ rfl;rw [Aab] at c8;unfold ajp;rw [c8];exact Aaj _
end
theorem SlAt.all {α:Type}{r:Rp α}{S:Nat->Prop}{w:World}{sz:Nat}{v:Value}{l:List α}(h:SlAt S w sz r v l):∀x∈l,∃cs,r S w cs x:=fun x hx=>by
 obtain⟨ao,c,-,-,-,h⟩:=h;obtain⟨b,off,-,-,h⟩:=h (fun e=>by rw [e] at hx;cases hx);obtain⟨i,hi,rfl⟩:=Aa1 hx;obtain⟨cs,h1,-⟩:=h i _ (Aaa hi);exact⟨cs,h1⟩
theorem ald {S:Nat->Prop}{w:World}{gv fv:Value}{gs:List aas}{fs:List aao}(hg:SlAt S w 3 aaE gv gs)(hf:SlAt S w 4 aaZ fv fs):ajv ⟨gs,fs⟩:=by
 refine⟨fun f aW x hx=>?_,fun g aY v hv=>?_⟩
 . obtain⟨-,v1,-,h1,-⟩:=hf.all f aW
   obtain⟨-,p,l,e,-,h2,h3,v4,-,-,-,h4⟩:=h1.all x hx;refine⟨fun q hq v hv=>?_,fun y hy=>?_,h4⟩
   . obtain⟨-,v2,-,h5,-⟩:=h2.all q hq
     obtain⟨-,-,h6⟩:=h5.all v hv;exact h6
   . obtain⟨-,v2,-,h5,-,-,h6,h7,-⟩:=h3.all y hy
     refine⟨h6,h7,fun v hv=>?_⟩;obtain⟨-,-,h8⟩:=h5.all v hv;exact h8
 . obtain⟨-,v1,-,h1,-⟩:=hg.all g aY
   obtain⟨-,-,h2⟩:=h1.all v hv;exact h2
end
end Go.Proofs.YtnkfdeiigplhoaaGreatDoor
