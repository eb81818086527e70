import Derived.Test.YtpeejlpcikefcaaGreatDoorPKeep
import Derived.Test.YtpeejlpcikefcaaGreatDoorPQuietO
import Derived.Maps.OwnIn
/- turneryref6.StillOf: word by word. Plain loops around loops over a function: the marks that these leave among a frame's deferred calls. A row of Booleans that is written one by one. still.still: which words never change. graph.Post: a visit of a block (the closure that calls itself within a loop over a function). -/
namespace Go.Proofs.YtpeejlpcikefcaaGreatDoor
section
open Go.RowKit
end
section
open Go.RowKit Go.Shelf
structure adG (B C:Nat)(ds:List Deferred)(W:World):Prop where
 at_:∀d∈ds,∃D,d={ target := .collected D,args:=#[] }∧B<=D∧D<C∧W.heap[D]?=some (.deferred (some []))
 apart:ds.Pairwise (fun d e=>d≠e)
theorem adG.nil(B C:Nat)(W:World):adG B C [] W:=⟨fun d h=>(by cases h),List.Pairwise.nil⟩
theorem adG.keep {B C C':Nat}{ds:List Deferred}{W W':World}(h:adG B C ds W)(hC:C<=C')(hk:∀b,B<=b->b<C->W.heap[b]?=some (.deferred (some []))->W'.heap[b]?=some (.deferred (some []))):adG B C' ds W' :=
 ⟨fun d hd => by
   obtain ⟨D, e, h1, h2, h3⟩ := h.at_ d hd
   exact ⟨D, e, h1, by omega, hk D h1 h2 h3⟩, h.apart⟩
theorem adG.cons {B C C' D:Nat}{ds:List Deferred}{W:World}(h:adG B C ds W)(hD:C<=D)(hB:B<=D)(hC:D<C')(hd:W.heap[D]?=some (.deferred (some []))):adG B C' ({ target := .collected D,args:=#[] } :: ds) W:=by
 refine⟨fun d hm=>?_,List.Pairwise.cons (fun e he=>?_) h.apart⟩
 . rcases Aam.1 hm with rfl | hm
   . exact⟨D,rfl,hB,hC,hd⟩
   . obtain⟨D',e,h1,h2,h3⟩:=h.at_ d hm
     exact⟨D',e,h1,by omega,h3⟩
 . obtain⟨D',rfl,h1,h2,h3⟩:=h.at_ e he
   intro hx;injection hx with hx;injection hx with hx;omega
def aq2(B:Nat)(W W':World):Prop:=Below B W W'∧∀(b:Nat) c t f,W.heap[b]?=some (.cells c t f)->W'.heap[b]?=some (.cells c t f)
theorem aq2.refl(B:Nat)(W:World):aq2 B W W:=⟨Below.refl _ _,fun _ _ _ _ h=>h⟩
theorem aq2.trans {B:Nat}{W1 W2 W3:World}(h:aq2 B W1 W2)(k:aq2 B W2 W3):aq2 B W1 W3:=⟨h.1.trans k.1,fun b c t f hc=>k.2 b c t f (h.2 b c t f hc)⟩
theorem aeH {F:Fence}{n:Nat}{P:Program}{fn:Func}{tmps:Array Value}{R:Ending->World->Prop}{B C:Nat}:∀(ds:List Deferred) (W:World),B<=W.heap.size->adG B C ds W ->
 (∀W',aq2 B W W'->∃v,(results fn tmps).run P W' = .ok v W'∧R (.returned v) W')->LeavesInM F n P fn tmps R ds .returning W:=by
 intro ds
 induction ds with
 | nil=>exact fun W _ _ h=>h W (aq2.refl B W)
 | cons d ds ih =>
   intro W bh hM h;obtain⟨D,rfl,h1,h2,h3⟩:=hM.at_ _ (Aa2 ..);have b1:D<W.heap.size:=(Aag.1 h3).1;have bL:aq2 B W (W.putObj D (.deferred none)):=by
    refine⟨(Below.refl B W).grown (grownBy_putObj' W D _) bh (fun k e=>by cases e;exact h1),fun b c t f hb=>?_⟩;rw [World.putObj_heap_other (fun e=>by rw [e,h3] at hb;cases hb)];exact hb
   refine⟨by simp,.inl ⟨D,_,rfl,run_takeDeferred h3,ih _ (by simpa using bh) ⟨fun e he=>?_,(List.pairwise_cons.1 hM.apart).2⟩ (fun W' hW=>h W' (bL.trans hW))⟩⟩;obtain⟨D',rfl,k1,k2,k3⟩:=hM.at_ e (Aa0 _ he);have aZ:=(List.pairwise_cons.1 hM.apart).1 _ he;have bG:D'≠D:=fun e=>aZ (by rw [e]);exact⟨D',rfl,k1,k2,(World.putObj_heap_other bG).trans k3⟩
end
section
open Go.RowKit Go.Shelf Go.Sort
attribute [local go_sem] Oper.semAt_some
theorem acE {W W':World}(h:Below W.heap.size W W'):KeepsOthers W W':=⟨h.size,fun k o hk _=>by rw [h.block k (Aag.1 hk).1];exact hk⟩
theorem alP {n₀:Nat}{X:Nat->Prop}{W W':World}(h:Below W.heap.size W W')(hn:n₀<=W.heap.size):acQ n₀ X W W':=⟨h.size,fun b h1 _=>h.block b (by omega)⟩
theorem ah3 {n₀:Nat}{X:Nat->Prop}(W:World){b o:Nat}(v:Value)(hX:X b):acQ n₀ X W (W.setCell ⟨b,o,none⟩ v) :=
 ⟨by simp [World.setCell],fun b' _ h=>Below.heap_setCell _ _ _ _ (fun e=>h (by rw [e];exact hX))⟩
theorem adG.set {B C:Nat}{ds:List Deferred}{W:World}(h:adG B C ds W){b o:Nat}(v:Value)(hb:b<B):adG B C ds (W.setCell ⟨b,o,none⟩ v) :=
 h.keep (Aac _) (fun b' k1 _ h3=>by rw [Below.heap_setCell _ _ _ _ (by dsimp only;omega)];exact h3)
end
section
open Go.RowKit Go.Shelf
attribute [local go_sem] Oper.semAt_some
structure apn (w0:World)(OB LC base:Nat)(W:World)(s:List Bool×List Int)(v:Value):Prop where
 size:base<=W.heap.size
 keep:∀b,b<base->b≠OB->b≠LC->W.heap[b]?=w0.heap[b]?
 env:W.os=w0.os∧W.tape=w0.tape∧W.output=w0.output
 row:W.heap[OB]?=some (.cells (s.1.map Value.bool).toArray 4 (0,0))
 cell:W.heap[LC]?=some (.cells #[v] 42 (0,0))
 own:abt base W v s.2
structure ap6 (OB LC:Nat)(W W':World)(v v':Value):Prop where
 size:W.heap.size<=W'.heap.size
 keep:∀b,b<W.heap.size->b≠OB->b≠LC->v.ownBlock≠some b->W'.heap[b]?=W.heap[b]?
 row:∀g,v'.ownBlock=some g->v.ownBlock=some g∨W.heap.size<=g
theorem ap6.refl(OB LC:Nat)(W:World)(v:Value):ap6 OB LC W W v v:=⟨Aac _,fun _ _ _ _ _=>rfl,fun _ h => .inl h⟩
variable {OB LC:Nat}{v:Value}
theorem ap6.trans{A B C:World}{u x:Value}(h:ap6 OB LC A B u v)(k:ap6 OB LC B C v x):ap6 OB LC A C u x:=by
 refine⟨Aai h.size k.size,fun b h1 h2 h3 h4=>?_,fun g hg=>?_⟩
 . rw [k.keep b (Aay h1 h.size) h2 h3 (fun e => by
    rcases h.row b e with h5 | h5
    . exact h4 h5
    . omega), h.keep b h1 h2 h3 h4]
 . rcases k.row g hg with h1 | h1
   . exact h.row g h1
   . exact .inr (Aai h.size h1)
variable {base:Nat}
theorem apo{w:World}{l:List Int}(h:abt base w v l){g:Nat}(hg:v.ownBlock=some g):base<=g∧g<w.heap.size:=by
 rcases h.1.2 with⟨rfl,-⟩ | ⟨g',cap,cur,rfl,h1,h2,-⟩
 . cases hg
 . cases hg;exact⟨h1,(Aag.1 h2).1⟩
variable {w0 W:World}{s:List Bool×List Int}
theorem apn.cellOf(h:apn w0 OB LC base W s v){b o:Nat}{u:Value}(hc:w0.cell? ⟨b,o,none⟩=some u)(h1:b<base)(h2:b≠OB)(h3:b≠LC):W.cell? ⟨b,o,none⟩=some u:=by
 rw [World.cell?_of_block (w:=w0) (a:=⟨b,o,none⟩) (h.keep b h1 h2 h3)];exact hc
theorem apn.left(h:apn w0 OB LC base W s v):W.cell? ⟨LC,0,none⟩=some v:=by simp [World.cell?,h.cell]
theorem apn.seen(h:apn w0 OB LC base W s v){i:Nat}(hi:i<s.1.length):W.cell? ⟨OB,i,none⟩=some (.bool s.1[i]):=by
 rw [aaX h.row];simp [hi]
set_option maxRecDepth 100000 in
set_option maxHeartbeats 4000000 in
theorem apq (w0 : World) (OB LC base SC FC VC n : Nat) (ba : Option Addr) (bc : Nat) (bs : List DBlock) (hb : SlAt (fun b => b < base ∧ b ≠ OB ∧ b ≠ LC) w0 6 aa0 (.slice ba n bc) bs) (hn : bs.length = n) (bU : n <= 1048576)
 (hto:∀(k:Nat) (x:DBlock),bs[k]?=some x->x.fin.to.length<=2∧∀t∈x.fin.to,0<=t∧t<(n:Int))
 (hO:OB<base) (hL:LC<base) (bk:OB≠LC) (hS:SC<base∧SC≠OB∧SC≠LC) (hF:FC<base∧FC≠OB∧FC≠LC) (hV:VC<base∧VC≠OB∧VC≠LC)
 (cS:w0.cell? ⟨SC,0,none⟩=some (.slice (some ⟨OB,0,none⟩) n n)) (cF:w0.cell? ⟨FC,3,none⟩=some (.slice ba n bc))
 (cV:w0.cell? ⟨VC,0,none⟩=some (.func (.func 77) #[] #[.pointer (some ⟨SC,0,none⟩),.pointer (some ⟨FC,0,none⟩),.pointer (some ⟨VC,0,none⟩),.pointer (some ⟨LC,0,none⟩)])) :
 ∀(f b:Nat) (s:List Bool×List Int) (v:Value) (W:World),apn w0 OB LC base W s v->s.1.length=n->s.1[b]?=some false->s.1.count false<=f->s.2.length+s.1.count false<=n ->
   Calls Tryz.prog 77 #[.int .i64 (b:Int),.pointer (some ⟨SC,0,none⟩),.pointer (some ⟨FC,0,none⟩),.pointer (some ⟨VC,0,none⟩),.pointer (some ⟨LC,0,none⟩)] W fun e W' =>
    (∃u,e = .returned u)∧∃v',apn w0 OB LC base W' (aa5 bs f b s) v'∧ap6 OB LC W W' v v':=by
 have Hb:=hid hb;have bd:=hid hto;have Hn:=hid hn;clear hb hto hn;intro f
 induction f with
 | zero =>
   intro b s v W _ _ aM hc _;have:=abi s.1 b aM;omega
 | succ f ih =>
   intro b s v W ad aV aM hc bQ;have Ih:=hid ih;have aw:=hid ad;have bj:b<n:=by rw [<-aV];exact (Aad.1 aM).1
   have hu:=abi s.1 b aM;have d0:=ad.cellOf cS hS.1 hS.2.1 hS.2.2;have d1:=ad.cellOf cF hF.1 hF.2.1 hF.2.2;have d2:=ad.seen (i:=b) (by rw [aV];exact bj);have d3:W.frozen? ⟨OB,b,none⟩=false:=by simp [World.frozen?,ad.row]
   have aJ:b<bs.length:=by rw [Hn.out];exact bj
   obtain⟨xb,ao,cs,bI,aL,hx,-,a7⟩:=Hb.out.get aJ;subst bI;obtain⟨pa,pc,la,lc,ta,tc,rfl,-,-,bl,-,-,b0,-,-⟩:=hx.opens;obtain⟨-,-,-,-,-,c5⟩:=a7.get6;have d5:=ad.cellOf c5 aL.1 aL.2.1 aL.2.2;have b2:=hid aL;have bu:=hid bl;clear ih ad a7 hx bl c5;refine (callsIn_wide (n:=6)).1 ?_;refine callsIn_of_wp_marks Tryz.func77 rfl trivial ?_ rfl;simp only [Tryz.ntmps77,Abn,Aba,Ab5,Nat.reduceAdd,Nat.reduceSub,Ace,Acf,List.push_toArray,Acg,Abc,Ab6]
   gi_wp2_with (refine⟨trivial,?_⟩;gi_at_call 78;refine (ar7 Fence.wide 5 trivial rfl _ _ _ _).mono ?_;rintro e w' ⟨rfl,rfl⟩)
   have aA:(W.setCell ⟨OB,b,none⟩ (.bool true)).heap.size=W.heap.size:=by simp [World.setCell]
   obtain⟨W1,ar⟩:∃W1,W1=W.setCell ⟨OB,b,none⟩ (.bool true):=⟨_,rfl⟩
   rw [<-ar] at aA;rw [<-ar];obtain⟨Wk,ak⟩:∃Wk,Wk=W1.alloc (.cells #[.slice ta bs[b].fin.to.length tc] 42):=⟨_,rfl⟩
   have bX:Wk.heap.size=W.heap.size+1:=by rw [ak];simp [aA]
   have aE:∀k,k<W.heap.size->k≠OB->Wk.heap[k]?=W.heap[k]?:=fun k h1 h2=>by
    rw [ak,Below.heap_alloc _ _ _ (by rw [aA];exact h1),ar,Below.heap_setCell _ _ _ _ (by dsimp only;exact h2)]
   have bV:=aw.out.size;have a6:ap6 OB LC W Wk v v:=⟨by omega,fun k h1 h2 _ _=>aE k h1 h2,fun _ h => .inl h⟩
   have ay:apn w0 OB LC base Wk (s.1.set b true,s.2) v:=by
    refine⟨by omega,fun k h1 h2 h3=>?_,?_,?_,?_,?_⟩
    . rw [aE k (by omega) h2];exact aw.out.keep k h1 h2 h3
    . rw [ak,ar];exact aw.out.env
    . rw [ak,Below.heap_alloc _ _ _ (by rw [aA];omega),ar,aak aw.out.row,List.map_set]
      congr 2
      simp
    . rw [aE LC (by omega) (Ne.symm bk)];exact aw.out.cell
    . have h:=aw.out.own
      have hg:W.grownBy Wk (some OB):=⟨by rw [ak,ar];rfl,by rw [ak,ar];rfl,by rw [ak,ar];rfl,by omega,fun k h1 h2=>aE k h1 (fun e=>h2 (by rw [e]))⟩
      exact ⟨h.1.kept hg (by
       cases hv : v.ownBlock with
       | none => exact .inl rfl
       | some g => exact .inr (fun e => by
          have := (apo h hv).1
          injection e with e
          omega)), h.2⟩
   have b4:=(bd.out b _ (Aaa aJ)).1
   have bo : ∀ k, k < base -> k ≠ OB -> k ≠ LC -> k < Wk.heap.size ∧ ¬ (k = OB ∨ k = LC ∨ v.ownBlock = some k) := fun k h1 h2 h3 => ⟨by omega, fun h => by
    rcases h with h | h | h
    . exact h2 h
    . exact h3 h
    . have := (apo aw.out.own h).1; omega⟩
   have bS:SlAt (fun k=>k<Wk.heap.size∧¬(k=OB∨k=LC∨v.ownBlock=some k)) Wk 1 acx (.slice ta bs[b].fin.to.length tc) bs[b].fin.to :=
    bu.out.mono aaw (fun k hk=>bo k hk.1 hk.2.1 hk.2.2) (acI fun k hk _=>ay.keep k hk.1 hk.2.1 hk.2.2)
   have br:Wk.cell? ⟨W.heap.size,0,none⟩=some (.slice ta bs[b].fin.to.length tc):=by rw [ak,<-aA];simp
   have aY:=hid ay;have bD:=hid a6;rw [<-ak];clear ak ar aE ay a6 aA d0 d1 d2 d3 d5
   refine wpIn_rangeFunc_ownF (α := BackP bs[b].fin.to) rfl (by decide) (gf := 106) (lb := #[.pointer (some ⟨W.heap.size, 0, none⟩)]) rfl trivial (enters_of Tryz.func106 (by kernel_rfl) rfl)
    (am8 Fence.wide (6 - 1) trivial rfl (by decide) W.heap.size Wk.heap.size (fun k => k = OB ∨ k = LC ∨ v.ownBlock = some k) ta tc bs[b].fin.to Wk Wk (by omega) bS
      ⟨by omega, fun h => by
        rcases h with h | h | h
        . omega
        . omega
        . have := (apo aw.out.own h).2; omega⟩ (Below.refl _ _) br)
    (fun h k=>adx h k) (aoc (Aac _)) (Below.refl _ _) (fun _=>rfl)
    (fun pre V=>∃v',apn w0 OB LC base V (acq bs f (pre.map numOf) (s.1.set b true,s.2)) v'∧ap6 OB LC Wk V v v')
    (fun _ _ _=>False)
    ?hI ?hIx ?h0 (fun x=>{ tmps:=#[(.int .i64 (b:Int)),(.pointer (some ⟨SC,0,none⟩)),(.pointer (some ⟨FC,0,none⟩)),(.pointer (some ⟨VC,0,none⟩)),(.pointer (some ⟨LC,0,none⟩)),undef,undef,(.int .i64 x.1.2),(.slice (some ⟨OB,0,none⟩) n n),(.int .i64 (b:Int)),(.pointer (some ⟨OB,b,none⟩)),(.pointer (some ⟨FC,3,none⟩)),(.slice (some ⟨xb,ao,none⟩) n bc),(.int .i64 (b:Int)),(.pointer (some ⟨xb,ao+b * 6,none⟩)),(.pointer (some ⟨xb,ao+b * 6+2,none⟩)),(.pointer (some ⟨xb,ao+b * 6+2+3,none⟩)),(.slice ta bs[b].fin.to.length tc),(.func (.func 106) #[] #[.pointer (some ⟨W.heap.size,0,none⟩)]),(.int .i64 (x.1.1:Int)),(.int .i64 x.1.2),undef,undef,undef,undef,undef,undef,undef,undef,undef,undef,undef,undef],defers:=[] }) ?assign ?body ?done ?stop
   case hI =>
    rintro pr A B row ⟨v',ad,al⟩ hg hr;have aK:∀r,row=some r->Wk.heap.size<=r:=fun r e=>(hr r e).1;have b6:=ad.size;refine⟨v',⟨Aai ad.size hg.size,fun k h1 h2 h3=>?_,⟨hg.os.trans ad.env.1,hg.tape.trans ad.env.2.1,hg.output.trans ad.env.2.2⟩,?_,?_,?_⟩,⟨Aai al.size hg.size,fun k h1 h2 h3 h4=>?_,al.row⟩⟩
    . rw [hg.block k (by omega) (fun e=>by have:=aK k e.symm;omega)];exact ad.keep k h1 h2 h3
    . rw [hg.block OB (by omega) (fun e=>by have:=aK OB e.symm;omega)];exact ad.row
    . rw [hg.block LC (by omega) (fun e=>by have:=aK LC e.symm;omega)];exact ad.cell
    . refine⟨ad.own.1.kept hg ?_,ad.own.2⟩
      rcases ad.own.1.2 with⟨rfl,-⟩ | ⟨g',cap,cur,rfl,-,h2,-⟩
      . exact .inl rfl
      . refine .inr (fun e=>?_)
        obtain⟨-,o,ho,hc⟩:=hr g' e.symm;rw [h2] at ho;cases ho;cases hc
    . rw [hg.block k (Aay h1 al.size) (fun e=>by have:=aK k e.symm;omega)];exact al.keep k h1 h2 h3 h4
   case hIx=>exact fun _ _ _ _ _ h _ _=>h
   case h0=>exact⟨v,aY.out,ap6.refl _ _ _ _⟩
   case assign =>
    intro l x V K hK;unfold atS
    gi_wp2
    exact hK
   case body =>
    rintro l pre x V ⟨v',ad,al⟩ _;obtain⟨k1,k2,k3⟩:=ajO bs f (ak1 bs f) (pre.map numOf) (s.1.set b true,s.2) (by dsimp only;omega);obtain⟨s',aB⟩:∃s',s'=acq bs f (pre.map numOf) (s.1.set b true,s.2):=⟨_,rfl⟩
    have aF:Hid (acq bs f ((pre++[x]).map numOf) (s.1.set b true,s.2)=if s'.1.getD (numOf x).toNat true=true then s' else aa5 bs f (numOf x).toNat s'):=by
     show _=_;rw [Aa8,aB];exact anM bs f (pre.map numOf) (numOf x) _
    rw [<-aB] at ad k1 k2 k3;dsimp only at k1 k2 k3;rw [Aat,aV] at k3;have aR:=(bd.out b _ (Aaa aJ)).2 _ (aod x);obtain⟨xv,aP⟩:∃xv,xv=x.1.2:=⟨_,rfl⟩
    have aC:numOf x=xv:=aP.symm;rw [aC] at aR aF;rw [<-aP];obtain⟨t,rfl⟩:=Abb aR.1;rw [Aan] at aF;have aI:t<n:=by omega
    have c0:=ad.cellOf cS hS.1 hS.2.1 hS.2.2;have c1:=ad.cellOf cV hV.1 hV.2.1 hV.2.2;have c2:=ad.seen (i:=t) (by rw [k3];exact aI);have ah:=hid ad;have aN:=hid al;have aU:s'.1.getD t true=s'.1[t]'(by rw [k3];exact aI):=by rw [Aaf,Aaa (by rw [k3];exact aI)];rfl
    obtain⟨q,hq⟩:∃q,s'.1[t]'(by rw [k3];exact aI)=q:=⟨_,rfl⟩
    rw [hq] at c2 aU;rw [aU] at aF;have bm:s'.1[t]?=some q:=by rw [Aaa (by rw [k3];exact aI),hq]
    have bC:=hid k1;have bN:=hid k2;have bF:=hid k3;have Hq:=hid bm;clear ad al aB aP aC aU hq bm k1 k2 k3 aR;cases q with
    | true =>
      gi_wp2
      exact⟨KeepsOthers.refl _,acQ.refl _ _ _,v',by rw [aF.out,if_pos trivial];exact ah.out,aN.out⟩
    | false =>
      gi_wp2_with (refine⟨trivial,?_⟩;gi_at_call 77;refine (CallsIn.inRound l (callsIn_wide.2 (Ih.out t s' v' V ah.out bF.out Hq.out (by have:=bN.out;omega) (by have:=bC.out;omega)))).mono ?_;rintro e V' ⟨⟨u,rfl⟩,bz,aD,ag⟩)
      have a1 : KeepsOthers V V' := ⟨ag.size, fun k o hk hc => by
       have bA : k < V.heap.size := (Aag.1 hk).1
       rw [ag.keep k bA (fun e => by rw [e, ah.out.row] at hk; cases hk; cases hc) (fun e => by rw [e, ah.out.cell] at hk; cases hk; cases hc) (fun e => by
        rcases ah.out.own.1.2 with ⟨rfl, -⟩ | ⟨g', cap, cur, rfl, -, h2, -⟩
        . cases e
        . cases e; rw [h2] at hk; cases hk; cases hc)]
       exact hk⟩
      have a8 : acQ Wk.heap.size (fun k => k = OB ∨ k = LC ∨ v.ownBlock = some k) V V' := ⟨ag.size, fun k h1 h2 => ag.keep k (Aay h1 aN.out.size) (fun e => h2 (.inl e)) (fun e => h2 (.inr (.inl e))) (fun e => by
       rcases aN.out.row k e with h3 | h3
       . exact h2 (.inr (.inr h3))
       . omega)⟩
      have bx:=hid a1;have bB:=hid a8;have aT:=hid aD;have aQ:=hid ag;clear a1 a8 aD ag
      gi_wp2
      exact⟨bx.out,bB.out,bz,by rw [aF.out,if_neg (by simp)];exact aT.out,aN.out.trans aQ.out⟩
   case done =>
    rintro D xs V hD bg ⟨v',ad,al⟩ hd;obtain⟨j1,j2,j3⟩:=ajO bs f (ak1 bs f) (xs.map numOf) (s.1.set b true,s.2) (by dsimp only;omega);have be:Hid (aa5 bs (f+1) b s=((acq bs f (xs.map numOf) (s.1.set b true,s.2)).1,(acq bs f (xs.map numOf) (s.1.set b true,s.2)).2++[(b:Int)])):=by
     show _=_;rw [ab4,bg];have e:aci bs b=bs[b].fin.to:=by unfold aci;rw [Aaa aJ]
     rw [e]
    obtain⟨s',aB⟩:∃s',s'=acq bs f (xs.map numOf) (s.1.set b true,s.2):=⟨_,rfl⟩
    rw [<-aB] at ad j1 j2 j3 be;dsimp only at j1;have hlen:s'.2.length+1<=n:=by omega
    obtain⟨i0,hi,bH,bw,bT⟩:=info_parts ajl;obtain⟨av,au,bM⟩:=ad.own.shape;subst bM;have bp:=ad.left;have bO:V.frozen? ⟨LC,0,none⟩=false:=by simp [World.frozen?,ad.cell]
    have zV:base<=V.heap.size:=ad.size;have zL:LC<V.heap.size:=by omega
    have ae:=hid ad;have aq:=hid al;have aS:Hid ((V.alloc (.cells #[.int .i64 (b:Int)] 3)).ownsRow base 3 1 (.slice av s'.2.length au) s'.2.length (s'.2.map fun x=>Value.int .i64 x)):=ad.own.1.alloc _;have Hd:=hid hd;clear ad al aB j2 j3 bg hd
    gi_wp2_with (gi_at_builtin;refine wpListIn_append_own_at _ rfl _ _ 42 rfl base 3 i0 (.int .i64 0) 1 8 Tryz.underlying42 hi bH bw bT rfl (by decide) _ _ _ rfl aS.out ⟨V.heap.size,0,none⟩ 1 1 [.int .i64 (b:Int)] rfl rfl (cell_one_new _ _ _) ?_ ?_ ?_ ?_ ?_)
    . intro u hu;simp at hu;subst hu;rfl
    . unfold maxLen;omega
    . omega
    . simp;omega
    . intro v9 w9 ai aj aX bn
      obtain⟨g,cap,rfl,bW,b5⟩:=ah5 ai;have az:∀r,(Value.slice av s'.2.length au).ownBlock=some r->base<=r∧∃o:Obj,V.heap[r]?=some o∧o.isCells=true:=fun r e=>by
       rcases ae.out.own.1.2 with⟨h1,-⟩ | ⟨g',cap',cur,h1,h2,h3,-⟩
       . rw [h1] at e;cases e
       . rw [h1] at e;cases e;exact⟨h2,_,h3,rfl⟩
      have aW:∀k,k<V.heap.size->(Value.slice av s'.2.length au).ownBlock≠some k->w9.heap[k]?=V.heap[k]?:=fun k h1 h2=>by
       rw [aj.block k (by simp;omega) (fun e=>h2 e.symm),Below.heap_alloc _ _ _ h1]
      have aO:w9.heap[LC]?=some (.cells #[.slice av s'.2.length au] 42 (0,0)):=by
       rw [aW LC zL (fun e=>by have:=(az LC e).1;omega)];exact ae.out.cell
      have c9:w9.cell? ⟨LC,0,none⟩=some (.slice av s'.2.length au):=by simp [World.cell?,aO]
      have f9:w9.frozen? ⟨LC,0,none⟩=false:=by simp [World.frozen?,aO]
      have aG:=hid ai;have af:=hid aj;have bK:=hid bn;have bt:=hid aW;have bR:=hid aO;have aH:=hid az;clear ai aj aX bn aW aO az bp bO
      gi_wp2
      obtain⟨W9,ax⟩:∃W9,W9=w9.setCell ⟨LC,0,none⟩ (.slice (some ⟨g,0,none⟩) (s'.2.length+1) cap):=⟨_,rfl⟩
      rw [<-ax];have b3:W9.heap.size=w9.heap.size:=by rw [ax];simp [World.setCell]
      have bq:V.heap.size+1<=w9.heap.size:=by have:=af.out.size;simpa using this
      have an:∀k,k<V.heap.size->k≠LC->(Value.slice av s'.2.length au).ownBlock≠some k->W9.heap[k]?=V.heap[k]?:=fun k h1 h2 h3=>by
       rw [ax,Below.heap_setCell _ _ _ _ (by dsimp only;exact h2)];exact bt.out k h1 h3
      have bf:∀k,k<base->(Value.slice av s'.2.length au).ownBlock≠some k:=fun k h1 e=>by have:=(aH.out k e).1;omega
      have bP:D<V.heap.size:=(Aag.1 Hd.out).1;have bJ:W9.heap[D]?=some (.deferred (some [])):=by
       rw [an D bP (by omega) (fun e => by
        obtain ⟨-, o, ho, hc⟩ := aH.out D e
        rw [Hd.out] at ho
        cases ho
        cases hc)]
       exact Hd.out
      have bZ:=aq.out.size;refine aeH (B:=Wk.heap.size) (C:=D+1) _ _ (by omega) ((adG.nil Wk.heap.size D W9).cons (Aac _) hD (by omega) bJ) (fun W' hW=>?_);have bY:=hW.1.size;refine⟨.tuple #[],results_none rfl _ _ _,⟨_,rfl⟩,.slice (some ⟨g,0,none⟩) (s'.2.length+1) cap,?_,?_⟩
      . rw [be.out]
        refine⟨by omega,fun k h1 h2 h3=>?_,⟨?_,?_,?_⟩,?_,?_,?_⟩
        . rw [hW.1.block k (by omega),an k (by omega) h3 (bf k h1)];exact ae.out.keep k h1 h2 h3
        . rw [hW.1.os,ax];exact af.out.os.trans ae.out.env.1
        . rw [hW.1.tape,ax];exact af.out.tape.trans ae.out.env.2.1
        . rw [hW.1.output,ax];exact af.out.output.trans ae.out.env.2.2
        . rw [hW.1.block OB (by omega),an OB (by omega) bk (bf OB hO)];exact ae.out.row
        . rw [hW.1.block LC (by omega),ax,aak bR.out];rfl
        . obtain⟨q1,q2⟩:=aG.out
          rcases q2 with⟨h,-⟩ | ⟨g',cap',cur,e,q3,q4,q5,q6,q7,q8⟩
          . cases h
          . cases e
            refine⟨⟨by simp,.inr ⟨g,cap,cur,by simp,q3,hW.2 _ _ _ _ (by rw [ax,Below.heap_setCell _ _ _ _ (by dsimp only;omega)];exact q4),by simpa using q5,q6,q7,?_⟩⟩,fun x hx=>?_⟩
            . rw [Aau,List.length_singleton,q8,Aa8];rfl
            . rcases Aa7.1 hx with hx | hx
              . exact ae.out.own.2 x hx
              . rw [Aax] at hx
                subst hx;unfold I64;omega
      . refine⟨by omega,fun k h1 h2 h3 h4=>?_,fun r hr=>?_⟩
        . have aZ:(Value.slice av s'.2.length au).ownBlock≠some k:=fun e=>by
           rcases aq.out.row k e with h | h
           . exact h4 h
           . omega
          rw [hW.1.block k (by omega),an k (by omega) h3 aZ,aq.out.keep k (by omega) h2 h3 h4];exact bD.out.keep k h1 h2 h3 h4
        . rcases bK.out with h | h
          . rcases aq.out.row r (h.symm.trans hr) with h5 | h5
            . exact .inl h5
            . exact .inr (by omega)
          . rw [h] at hr
            cases hr;exact .inr (by first | omega | (simp;omega) | (rw [World.size_alloc];omega))
   case stop=>exact fun _ _ _ _ _ _ h _=>h.elim
end
end Go.Proofs.YtpeejlpcikefcaaGreatDoor
