import Derived.Test.YtgekbfgplclmeaaDoorPGlobs
import Derived.Test.YtgekbfgplclmeaaDoorPBack
import Derived.Test.YtgekbfgplclmeaaDoorPQuietO
import Derived.Maps.OwnIn
/- turneryref6.StillOf: word by word. Plain loops around loops over a function: the marks that these leave among a frame's deferred calls. A row of Booleans that is written one by one. still.still: which words never change. graph.Post: a visit of a block (the closure that calls itself within a loop over a function). -/
namespace Go.Proofs.YtgekbfgplclmeaaDoor
section
open Go.RowKit
end
section
open Go.RowKit Go.Shelf
structure ab4 (B C:Nat)(ds:List Deferred)(W:World):Prop where
 at_:∀d∈ds,∃D,d={ target := .collected D,args:=#[] }∧B<=D∧D<C∧W.heap[D]?=some (.deferred (some []))
 apart:ds.Pairwise (fun d e=>d≠e)
theorem ab4.nil(B C:Nat)(W:World):ab4 B C [] W:=⟨fun d h=>(by cases h),List.Pairwise.nil⟩
theorem ab4.keep {B C C':Nat}{ds:List Deferred}{W W':World}(h:ab4 B C ds W)(hC:C<=C')(hk:∀b,B<=b->b<C->W.heap[b]?=some (.deferred (some []))->W'.heap[b]?=some (.deferred (some []))):ab4 B C' ds W' :=
 ⟨fun d hd => by
   obtain ⟨D, e, h1, h2, h3⟩ := h.at_ d hd
   exact ⟨D, e, h1, by omega, hk D h1 h2 h3⟩, h.apart⟩
theorem ab4.cons {B C C' D:Nat}{ds:List Deferred}{W:World}(h:ab4 B C ds W)(hD:C<=D)(hB:B<=D)(hC:D<C')(hd:W.heap[D]?=some (.deferred (some []))):ab4 B C' ({ target := .collected D,args:=#[] } :: ds) W:=by
 refine⟨fun d hm=>?_,List.Pairwise.cons (fun e he=>?_) h.apart⟩
 . rcases Aax.1 hm with rfl | hm
   . exact⟨D,rfl,hB,hC,hd⟩
   . obtain⟨D',e,h1,h2,h3⟩:=h.at_ d hm
     exact⟨D',e,h1,by omega,h3⟩
 . obtain⟨D',rfl,h1,h2,h3⟩:=h.at_ e he
   intro hx;injection hx with hx;injection hx with hx;omega
def ajW(B:Nat)(W W':World):Prop:=Below B W W'∧∀(b:Nat) c t f,W.heap[b]?=some (.cells c t f)->W'.heap[b]?=some (.cells c t f)
theorem ajW.refl(B:Nat)(W:World):ajW B W W:=⟨Below.refl _ _,fun _ _ _ _ h=>h⟩
theorem ajW.trans {B:Nat}{W1 W2 W3:World}(h:ajW B W1 W2)(k:ajW B W2 W3):ajW B W1 W3:=⟨h.1.trans k.1,fun b c t f hc=>k.2 b c t f (h.2 b c t f hc)⟩
theorem ad8 {F:Fence}{n:Nat}{P:Program}{fn:Func}{tmps:Array Value}{R:Ending->World->Prop}{B C:Nat}:∀(ds:List Deferred) (W:World),B<=W.heap.size->ab4 B C ds W ->
 (∀W',ajW B W W'->∃v,(results fn tmps).run P W' = .ok v W'∧R (.returned v) W')->LeavesInM F n P fn tmps R ds .returning W:=by
 intro ds
 induction ds with
 | nil=>exact fun W _ _ h=>h W (ajW.refl B W)
 | cons d ds ih =>
   intro W a8 hM h;obtain⟨D,rfl,h1,h2,h3⟩:=hM.at_ _ (Aa6 ..);have b2:D<W.heap.size:=(Aan.1 h3).1;have bO:ajW B W (W.putObj D (.deferred none)):=by
    refine⟨(Below.refl B W).grown (grownBy_putObj' W D _) a8 (fun k e=>by cases e;exact h1),fun b c t f hb=>?_⟩;rw [World.putObj_heap_other (fun e=>by rw [e,h3] at hb;cases hb)];exact hb
   refine⟨by simp,.inl ⟨D,_,rfl,run_takeDeferred h3,ih _ (by simpa using a8) ⟨fun e he=>?_,(List.pairwise_cons.1 hM.apart).2⟩ (fun W' hW=>h W' (bO.trans hW))⟩⟩;obtain⟨D',rfl,k1,k2,k3⟩:=hM.at_ e (Aa3 _ he);have aX:=(List.pairwise_cons.1 hM.apart).1 _ he;have bH:D'≠D:=fun e=>aX (by rw [e]);exact⟨D',rfl,k1,k2,(World.putObj_heap_other bH).trans k3⟩
end
section
open Go.RowKit Go.Shelf Go.Sort
attribute [local go_sem] Oper.semAt_some
theorem aca {W W':World}(h:Below W.heap.size W W'):KeepsOthers W W':=⟨h.size,fun k o hk _=>by rw [h.block k (Aan.1 hk).1];exact hk⟩
theorem ab4.set {B C:Nat}{ds:List Deferred}{W:World}(h:ab4 B C ds W){b o:Nat}(v:Value)(hb:b<B):ab4 B C ds (W.setCell ⟨b,o,none⟩ v) :=
 h.keep (Aad _) (fun b' k1 _ h3=>by rw [Below.heap_setCell _ _ _ _ (by dsimp only;omega)];exact h3)
end
section
open Go.RowKit Go.Shelf
attribute [local go_sem] Oper.semAt_some
structure aiA (w0:World)(OB LC base:Nat)(W:World)(s:List Bool×List Int)(v:Value):Prop where
 size:base<=W.heap.size
 keep:∀b,b<base->b≠OB->b≠LC->W.heap[b]?=w0.heap[b]?
 env:W.os=w0.os∧W.tape=w0.tape∧W.output=w0.output
 row:W.heap[OB]?=some (.cells (s.1.map Value.bool).toArray 4 (0,0))
 cell:W.heap[LC]?=some (.cells #[v] 26 (0,0))
 own:aav base W v s.2
structure ajR (OB LC:Nat)(W W':World)(v v':Value):Prop where
 size:W.heap.size<=W'.heap.size
 keep:∀b,b<W.heap.size->b≠OB->b≠LC->v.ownBlock≠some b->W'.heap[b]?=W.heap[b]?
 row:∀g,v'.ownBlock=some g->v.ownBlock=some g∨W.heap.size<=g
theorem ajR.refl(OB LC:Nat)(W:World)(v:Value):ajR OB LC W W v v:=⟨Aad _,fun _ _ _ _ _=>rfl,fun _ h => .inl h⟩
variable {OB LC:Nat}{v:Value}
theorem ajR.trans{A B C:World}{u x:Value}(h:ajR OB LC A B u v)(k:ajR OB LC B C v x):ajR OB LC A C u x:=by
 refine⟨Aaj h.size k.size,fun b h1 h2 h3 h4=>?_,fun g hg=>?_⟩
 . rw [k.keep b (Aba h1 h.size) h2 h3 (fun e => by
    rcases h.row b e with h5 | h5
    . exact h4 h5
    . omega), h.keep b h1 h2 h3 h4]
 . rcases k.row g hg with h1 | h1
   . exact h.row g h1
   . exact .inr (Aaj h.size h1)
variable {base:Nat}
theorem ajc{w:World}{l:List Int}(h:aav base w v l){g:Nat}(hg:v.ownBlock=some g):base<=g∧g<w.heap.size:=by
 rcases h.1.2 with⟨rfl,-⟩ | ⟨g',cap,cur,rfl,h1,h2,-⟩
 . cases hg
 . cases hg;exact⟨h1,(Aan.1 h2).1⟩
variable {w0 W:World}{s:List Bool×List Int}
theorem aiA.cellOf(h:aiA w0 OB LC base W s v){b o:Nat}{u:Value}(hc:w0.cell? ⟨b,o,none⟩=some u)(h1:b<base)(h2:b≠OB)(h3:b≠LC):W.cell? ⟨b,o,none⟩=some u:=by
 rw [World.cell?_of_block (w:=w0) (a:=⟨b,o,none⟩) (h.keep b h1 h2 h3)];exact hc
theorem aiA.left(h:aiA w0 OB LC base W s v):W.cell? ⟨LC,0,none⟩=some v:=by simp [World.cell?,h.cell]
theorem aiA.seen(h:aiA w0 OB LC base W s v){i:Nat}(hi:i<s.1.length):W.cell? ⟨OB,i,none⟩=some (.bool s.1[i]):=by
 rw [aaH h.row];simp [hi]
set_option maxRecDepth 100000 in
set_option maxHeartbeats 4000000 in
theorem ajK (w0 : World) (OB LC base SC FC VC n : Nat) (ba : Option Addr) (bc : Nat) (bs : List aad) (hb : SlAt (fun b => b < base ∧ b ≠ OB ∧ b ≠ LC) w0 6 aa2 (.slice ba n bc) bs) (hn : bs.length = n) (b3 : n <= 1048576)
 (bm:∀(k:Nat) (x:aad),bs[k]?=some x->x.fin.to.length<=2∧∀t∈x.fin.to,0<=t∧t<(n:Int))
 (hO:OB<base) (hL:LC<base) (bd:OB≠LC) (hS:SC<base∧SC≠OB∧SC≠LC) (hF:FC<base∧FC≠OB∧FC≠LC) (hV:VC<base∧VC≠OB∧VC≠LC)
 (cS:w0.cell? ⟨SC,0,none⟩=some (.slice (some ⟨OB,0,none⟩) n n)) (cF:w0.cell? ⟨FC,3,none⟩=some (.slice ba n bc))
 (cV:w0.cell? ⟨VC,0,none⟩=some (.func (.func 83) #[] #[.pointer (some ⟨SC,0,none⟩),.pointer (some ⟨FC,0,none⟩),.pointer (some ⟨VC,0,none⟩),.pointer (some ⟨LC,0,none⟩)])) :
 ∀(f b:Nat) (s:List Bool×List Int) (v:Value) (W:World),aiA w0 OB LC base W s v->s.1.length=n->s.1[b]?=some false->s.1.count false<=f->s.2.length+s.1.count false<=n ->
   Calls Tryd.prog 83 #[.int .i64 (b:Int),.pointer (some ⟨SC,0,none⟩),.pointer (some ⟨FC,0,none⟩),.pointer (some ⟨VC,0,none⟩),.pointer (some ⟨LC,0,none⟩)] W fun e W' =>
    (∃u,e = .returned u)∧∃v',aiA w0 OB LC base W' (abg bs f b s) v'∧ajR OB LC W W' v v':=by
 have Hb:=hid hb;have a6:=hid bm;have Hn:=hid hn;clear hb bm hn;intro f
 induction f with
 | zero =>
   intro b s v W _ _ aO hc _;have:=abI s.1 b aO;omega
 | succ f ih =>
   intro b s v W ad aW aO hc bP;have Ih:=hid ih;have av:=hid ad;have bf:b<n:=by rw [<-aW];exact (Aae.1 aO).1
   have hu:=abI s.1 b aO;have d0:=ad.cellOf cS hS.1 hS.2.1 hS.2.2;have d1:=ad.cellOf cF hF.1 hF.2.1 hF.2.2;have d2:=ad.seen (i:=b) (by rw [aW];exact bf);have d3:W.frozen? ⟨OB,b,none⟩=false:=by simp [World.frozen?,ad.row]
   have aM:b<bs.length:=by rw [Hn.out];exact bf
   obtain⟨xb,au,cs,bS,aP,hx,-,bg⟩:=Hb.out.get aM;subst bS;obtain⟨pa,pc,la,lc,ta,tc,rfl,-,-,bo,-,-,b7,-,-⟩:=hx.opens;obtain⟨-,-,-,-,-,c5⟩:=bg.get6;have d5:=ad.cellOf c5 aP.1 aP.2.1 aP.2.2;have bX:=hid aP;have bC:=hid bo;clear ih ad bg hx bo c5;refine (callsIn_wide (n:=6)).1 ?_;refine callsIn_of_wp_marks Tryd.func83 rfl trivial ?_ rfl;simp only [Tryd.ntmps83,List.size_toArray,Aaq,List.length_nil,Nat.reduceAdd,Nat.reduceSub,Array.replicate_succ,Array.replicate_zero,List.push_toArray,List.append_toArray,Aa7,List.cons_append]
   gi_wp2_with (refine⟨trivial,?_⟩;gi_at_call 84;refine (akS Fence.wide 5 trivial rfl _ _ _ _).mono ?_;rintro e w' ⟨rfl,rfl⟩)
   have aC:(W.setCell ⟨OB,b,none⟩ (.bool true)).heap.size=W.heap.size:=by simp [World.setCell]
   obtain⟨W1,aq⟩:∃W1,W1=W.setCell ⟨OB,b,none⟩ (.bool true):=⟨_,rfl⟩
   rw [<-aq] at aC;rw [<-aq];obtain⟨Wk,al⟩:∃Wk,Wk=W1.alloc (.cells #[.slice ta bs[b].fin.to.length tc] 26):=⟨_,rfl⟩
   have b5:Wk.heap.size=W.heap.size+1:=by rw [al];simp [aC]
   have aG:∀k,k<W.heap.size->k≠OB->Wk.heap[k]?=W.heap[k]?:=fun k h1 h2=>by
    rw [al,Below.heap_alloc _ _ _ (by rw [aC];exact h1),aq,Below.heap_setCell _ _ _ _ (by dsimp only;exact h2)]
   have b6:=av.out.size;have bp:ajR OB LC W Wk v v:=⟨by omega,fun k h1 h2 _ _=>aG k h1 h2,fun _ h => .inl h⟩
   have aA:aiA w0 OB LC base Wk (s.1.set b true,s.2) v:=by
    refine⟨by omega,fun k h1 h2 h3=>?_,?_,?_,?_,?_⟩
    . rw [aG k (by omega) h2];exact av.out.keep k h1 h2 h3
    . rw [al,aq];exact av.out.env
    . rw [al,Below.heap_alloc _ _ _ (by rw [aC];omega),aq,aaK av.out.row,List.map_set]
      congr 2
      simp
    . rw [aG LC (by omega) (Ne.symm bd)];exact av.out.cell
    . have h:=av.out.own
      have hg:W.grownBy Wk (some OB):=⟨by rw [al,aq];rfl,by rw [al,aq];rfl,by rw [al,aq];rfl,by omega,fun k h1 h2=>aG k h1 (fun e=>h2 (by rw [e]))⟩
      exact ⟨h.1.kept hg (by
       cases hv : v.ownBlock with
       | none => exact .inl rfl
       | some g => exact .inr (fun e => by
          have := (ajc h hv).1
          injection e with e
          omega)), h.2⟩
   have bZ:=(a6.out b _ (Aaa aM)).1
   have bN : ∀ k, k < base -> k ≠ OB -> k ≠ LC -> k < Wk.heap.size ∧ ¬ (k = OB ∨ k = LC ∨ v.ownBlock = some k) := fun k h1 h2 h3 => ⟨by omega, fun h => by
    rcases h with h | h | h
    . exact h2 h
    . exact h3 h
    . have := (ajc av.out.own h).1; omega⟩
   have bJ:SlAt (fun k=>k<Wk.heap.size∧¬(k=OB∨k=LC∨v.ownBlock=some k)) Wk 1 abe (.slice ta bs[b].fin.to.length tc) bs[b].fin.to :=
    bC.out.mono aaf (fun k hk=>bN k hk.1 hk.2.1 hk.2.2) (adH fun k hk _=>aA.keep k hk.1 hk.2.1 hk.2.2)
   have bF:Wk.cell? ⟨W.heap.size,0,none⟩=some (.slice ta bs[b].fin.to.length tc):=by rw [al,<-aC];simp
   have aR:=hid aA;have bD:=hid bp;rw [<-al];clear al aq aG aA bp aC d0 d1 d2 d3 d5
   refine wpIn_rangeFunc_ownF (α := BackP bs[b].fin.to) rfl (by decide) (gf := 109) (lb := #[.pointer (some ⟨W.heap.size, 0, none⟩)]) rfl trivial (enters_of Tryd.func109 (by kernel_rfl) rfl)
    (ahT Fence.wide (6 - 1) trivial rfl (by decide) W.heap.size Wk.heap.size (fun k => k = OB ∨ k = LC ∨ v.ownBlock = some k) ta tc bs[b].fin.to Wk Wk (by omega) bJ
      ⟨by omega, fun h => by
        rcases h with h | h | h
        . omega
        . omega
        . have := (ajc av.out.own h).2; omega⟩ (Below.refl _ _) bF)
    (fun h k=>ai2 h k) (alf (Aad _)) (Below.refl _ _) (fun _=>rfl)
    (fun pre V=>∃v',aiA w0 OB LC base V (aci bs f (pre.map numOf) (s.1.set b true,s.2)) v'∧ajR OB LC Wk V v v')
    (fun _ _ _=>False)
    ?hI ?hIx ?h0 (fun x=>{ tmps:=#[(.int .i64 (b:Int)),(.pointer (some ⟨SC,0,none⟩)),(.pointer (some ⟨FC,0,none⟩)),(.pointer (some ⟨VC,0,none⟩)),(.pointer (some ⟨LC,0,none⟩)),undef,undef,(.int .i64 x.1.2),(.slice (some ⟨OB,0,none⟩) n n),(.int .i64 (b:Int)),(.pointer (some ⟨OB,b,none⟩)),(.pointer (some ⟨FC,3,none⟩)),(.slice (some ⟨xb,au,none⟩) n bc),(.int .i64 (b:Int)),(.pointer (some ⟨xb,au+b * 6,none⟩)),(.pointer (some ⟨xb,au+b * 6+2,none⟩)),(.pointer (some ⟨xb,au+b * 6+2+3,none⟩)),(.slice ta bs[b].fin.to.length tc),(.func (.func 109) #[] #[.pointer (some ⟨W.heap.size,0,none⟩)]),(.int .i64 (x.1.1:Int)),(.int .i64 x.1.2),undef,undef,undef,undef,undef,undef,undef,undef,undef,undef,undef,undef],defers:=[] }) ?assign ?body ?done ?stop
   case hI =>
    rintro pr A B row ⟨v',ad,an⟩ hg hr;have aN:∀r,row=some r->Wk.heap.size<=r:=fun r e=>(hr r e).1;have bY:=ad.size;refine⟨v',⟨Aaj ad.size hg.size,fun k h1 h2 h3=>?_,⟨hg.os.trans ad.env.1,hg.tape.trans ad.env.2.1,hg.output.trans ad.env.2.2⟩,?_,?_,?_⟩,⟨Aaj an.size hg.size,fun k h1 h2 h3 h4=>?_,an.row⟩⟩
    . rw [hg.block k (by omega) (fun e=>by have:=aN k e.symm;omega)];exact ad.keep k h1 h2 h3
    . rw [hg.block OB (by omega) (fun e=>by have:=aN OB e.symm;omega)];exact ad.row
    . rw [hg.block LC (by omega) (fun e=>by have:=aN LC e.symm;omega)];exact ad.cell
    . refine⟨ad.own.1.kept hg ?_,ad.own.2⟩
      rcases ad.own.1.2 with⟨rfl,-⟩ | ⟨g',cap,cur,rfl,-,h2,-⟩
      . exact .inl rfl
      . refine .inr (fun e=>?_)
        obtain⟨-,o,ho,hc⟩:=hr g' e.symm;rw [h2] at ho;cases ho;cases hc
    . rw [hg.block k (Aba h1 an.size) (fun e=>by have:=aN k e.symm;omega)];exact an.keep k h1 h2 h3 h4
   case hIx=>exact fun _ _ _ _ _ h _ _=>h
   case h0=>exact⟨v,aR.out,ajR.refl _ _ _ _⟩
   case assign =>
    intro l x V K hK;unfold amA
    gi_wp2
    exact hK
   case body =>
    rintro l pre x V ⟨v',ad,an⟩ _;obtain⟨k1,k2,k3⟩:=af6 bs f (agN bs f) (pre.map numOf) (s.1.set b true,s.2) (by dsimp only;omega);obtain⟨s',aB⟩:∃s',s'=aci bs f (pre.map numOf) (s.1.set b true,s.2):=⟨_,rfl⟩
    have aF:Hid (aci bs f ((pre++[x]).map numOf) (s.1.set b true,s.2)=if s'.1.getD (numOf x).toNat true=true then s' else abg bs f (numOf x).toNat s'):=by
     show _=_;rw [Aat,aB];exact ais bs f (pre.map numOf) (numOf x) _
    rw [<-aB] at ad k1 k2 k3;dsimp only at k1 k2 k3;rw [List.length_set,aW] at k3;have aZ:=(a6.out b _ (Aaa aM)).2 _ (ajb x);obtain⟨xv,a1⟩:∃xv,xv=x.1.2:=⟨_,rfl⟩
    have aH:numOf x=xv:=a1.symm;rw [aH] at aZ aF;rw [<-a1];obtain⟨t,rfl⟩:=Aao aZ.1;rw [Aag] at aF;have aJ:t<n:=by omega
    have c0:=ad.cellOf cS hS.1 hS.2.1 hS.2.2;have c1:=ad.cellOf cV hV.1 hV.2.1 hV.2.2;have c2:=ad.seen (i:=t) (by rw [k3];exact aJ);have ai:=hid ad;have aK:=hid an;have aU:s'.1.getD t true=s'.1[t]'(by rw [k3];exact aJ):=by rw [Aab,Aaa (by rw [k3];exact aJ)];rfl
    obtain⟨q,hq⟩:∃q,s'.1[t]'(by rw [k3];exact aJ)=q:=⟨_,rfl⟩
    rw [hq] at c2 aU;rw [aU] at aF;have bk:s'.1[t]?=some q:=by rw [Aaa (by rw [k3];exact aJ),hq]
    have bu:=hid k1;have bw:=hid k2;have bx:=hid k3;have Hq:=hid bk;clear ad an aB a1 aH aU hq bk k1 k2 k3 aZ;cases q with
    | true =>
      gi_wp2
      exact⟨KeepsOthers.refl _,adq.refl _ _ _,v',by rw [aF.out,if_pos trivial];exact ai.out,aK.out⟩
    | false =>
      gi_wp2_with (refine⟨trivial,?_⟩;gi_at_call 83;refine (CallsIn.inRound l (callsIn_wide.2 (Ih.out t s' v' V ai.out bx.out Hq.out (by have:=bw.out;omega) (by have:=bu.out;omega)))).mono ?_;rintro e V' ⟨⟨u,rfl⟩,bW,aI,ag⟩)
      have bj : KeepsOthers V V' := ⟨ag.size, fun k o hk hc => by
       have bL : k < V.heap.size := (Aan.1 hk).1
       rw [ag.keep k bL (fun e => by rw [e, ai.out.row] at hk; cases hk; cases hc) (fun e => by rw [e, ai.out.cell] at hk; cases hk; cases hc) (fun e => by
        rcases ai.out.own.1.2 with ⟨rfl, -⟩ | ⟨g', cap, cur, rfl, -, h2, -⟩
        . cases e
        . cases e; rw [h2] at hk; cases hk; cases hc)]
       exact hk⟩
      have bh : adq Wk.heap.size (fun k => k = OB ∨ k = LC ∨ v.ownBlock = some k) V V' := ⟨ag.size, fun k h1 h2 => ag.keep k (Aba h1 aK.out.size) (fun e => h2 (.inl e)) (fun e => h2 (.inr (.inl e))) (fun e => by
       rcases aK.out.row k e with h3 | h3
       . exact h2 (.inr (.inr h3))
       . omega)⟩
      have bB:=hid bj;have bA:=hid bh;have aS:=hid aI;have aT:=hid ag;clear bj bh aI ag
      gi_wp2
      exact⟨bB.out,bA.out,bW,by rw [aF.out,if_neg (by simp)];exact aS.out,aK.out.trans aT.out⟩
   case done =>
    rintro D xs V hD bq ⟨v',ad,an⟩ hd;obtain⟨j1,j2,j3⟩:=af6 bs f (agN bs f) (xs.map numOf) (s.1.set b true,s.2) (by dsimp only;omega);have a7:Hid (abg bs (f+1) b s=((aci bs f (xs.map numOf) (s.1.set b true,s.2)).1,(aci bs f (xs.map numOf) (s.1.set b true,s.2)).2++[(b:Int)])):=by
     show _=_;rw [acA,bq];have e:adJ bs b=bs[b].fin.to:=by unfold adJ;rw [Aaa aM]
     rw [e]
    obtain⟨s',aB⟩:∃s',s'=aci bs f (xs.map numOf) (s.1.set b true,s.2):=⟨_,rfl⟩
    rw [<-aB] at ad j1 j2 j3 a7;dsimp only at j1;have hlen:s'.2.length+1<=n:=by omega
    obtain⟨i0,hi,bT,bU,bV⟩:=info_parts afH;obtain⟨ax,ay,bQ⟩:=ad.own.shape;subst bQ;have bM:=ad.left;have bK:V.frozen? ⟨LC,0,none⟩=false:=by simp [World.frozen?,ad.cell]
    have zV:base<=V.heap.size:=ad.size;have zL:LC<V.heap.size:=by omega
    have ae:=hid ad;have ao:=hid an;have aQ:Hid ((V.alloc (.cells #[.int .i64 (b:Int)] 3)).ownsRow base 3 1 (.slice ax s'.2.length ay) s'.2.length (s'.2.map fun x=>Value.int .i64 x)):=ad.own.1.alloc _;have Hd:=hid hd;clear ad an aB j2 j3 bq hd
    gi_wp2_with (gi_at_builtin;refine wpListIn_append_own_at _ rfl _ _ 26 rfl base 3 i0 (.int .i64 0) 1 8 Tryd.underlying26 hi bT bU bV rfl (by decide) _ _ _ rfl aQ.out ⟨V.heap.size,0,none⟩ 1 1 [.int .i64 (b:Int)] rfl rfl (cell_one_new _ _ _) ?_ ?_ ?_ ?_ ?_)
    . intro u hu;simp at hu;subst hu;rfl
    . unfold maxLen;omega
    . omega
    . simp;omega
    . intro v9 w9 ak aj aY be
      obtain⟨g,cap,rfl,b0,b1⟩:=aeG ak;have az:∀r,(Value.slice ax s'.2.length ay).ownBlock=some r->base<=r∧∃o:Obj,V.heap[r]?=some o∧o.isCells=true:=fun r e=>by
       rcases ae.out.own.1.2 with⟨h1,-⟩ | ⟨g',cap',cur,h1,h2,h3,-⟩
       . rw [h1] at e;cases e
       . rw [h1] at e;cases e;exact⟨h2,_,h3,rfl⟩
      have aV:∀k,k<V.heap.size->(Value.slice ax s'.2.length ay).ownBlock≠some k->w9.heap[k]?=V.heap[k]?:=fun k h1 h2=>by
       rw [aj.block k (by simp;omega) (fun e=>h2 e.symm),Below.heap_alloc _ _ _ h1]
      have aL:w9.heap[LC]?=some (.cells #[.slice ax s'.2.length ay] 26 (0,0)):=by
       rw [aV LC zL (fun e=>by have:=(az LC e).1;omega)];exact ae.out.cell
      have c9:w9.cell? ⟨LC,0,none⟩=some (.slice ax s'.2.length ay):=by simp [World.cell?,aL]
      have f9:w9.frozen? ⟨LC,0,none⟩=false:=by simp [World.frozen?,aL]
      have aD:=hid ak;have af:=hid aj;have bt:=hid be;have bz:=hid aV;have br:=hid aL;have aE:=hid az;clear ak aj aY be aV aL az bM bK
      gi_wp2
      obtain⟨W9,aw⟩:∃W9,W9=w9.setCell ⟨LC,0,none⟩ (.slice (some ⟨g,0,none⟩) (s'.2.length+1) cap):=⟨_,rfl⟩
      rw [<-aw];have b4:W9.heap.size=w9.heap.size:=by rw [aw];simp [World.setCell]
      have bR:V.heap.size+1<=w9.heap.size:=by have:=af.out.size;simpa using this
      have ar:∀k,k<V.heap.size->k≠LC->(Value.slice ax s'.2.length ay).ownBlock≠some k->W9.heap[k]?=V.heap[k]?:=fun k h1 h2 h3=>by
       rw [aw,Below.heap_setCell _ _ _ _ (by dsimp only;exact h2)];exact bz.out k h1 h3
      have bl:∀k,k<base->(Value.slice ax s'.2.length ay).ownBlock≠some k:=fun k h1 e=>by have:=(aE.out k e).1;omega
      have bI:D<V.heap.size:=(Aan.1 Hd.out).1;have bG:W9.heap[D]?=some (.deferred (some [])):=by
       rw [ar D bI (by omega) (fun e => by
        obtain ⟨-, o, ho, hc⟩ := aE.out D e
        rw [Hd.out] at ho
        cases ho
        cases hc)]
       exact Hd.out
      have b8:=ao.out.size;refine ad8 (B:=Wk.heap.size) (C:=D+1) _ _ (by omega) ((ab4.nil Wk.heap.size D W9).cons (Aad _) hD (by omega) bG) (fun W' hW=>?_);have b9:=hW.1.size;refine⟨.tuple #[],results_none rfl _ _ _,⟨_,rfl⟩,.slice (some ⟨g,0,none⟩) (s'.2.length+1) cap,?_,?_⟩
      . rw [a7.out]
        refine⟨by omega,fun k h1 h2 h3=>?_,⟨?_,?_,?_⟩,?_,?_,?_⟩
        . rw [hW.1.block k (by omega),ar k (by omega) h3 (bl k h1)];exact ae.out.keep k h1 h2 h3
        . rw [hW.1.os,aw];exact af.out.os.trans ae.out.env.1
        . rw [hW.1.tape,aw];exact af.out.tape.trans ae.out.env.2.1
        . rw [hW.1.output,aw];exact af.out.output.trans ae.out.env.2.2
        . rw [hW.1.block OB (by omega),ar OB (by omega) bd (bl OB hO)];exact ae.out.row
        . rw [hW.1.block LC (by omega),aw,aaK br.out];rfl
        . obtain⟨q1,q2⟩:=aD.out
          rcases q2 with⟨h,-⟩ | ⟨g',cap',cur,e,q3,q4,q5,q6,q7,q8⟩
          . cases h
          . cases e
            refine⟨⟨by simp,.inr ⟨g,cap,cur,by simp,q3,hW.2 _ _ _ _ (by rw [aw,Below.heap_setCell _ _ _ _ (by dsimp only;omega)];exact q4),by simpa using q5,q6,q7,?_⟩⟩,fun x hx=>?_⟩
            . rw [Aak,List.length_singleton,q8,Aat];rfl
            . rcases Aaw.1 hx with hx | hx
              . exact ae.out.own.2 x hx
              . rw [Aau] at hx
                subst hx;unfold I64;omega
      . refine⟨by omega,fun k h1 h2 h3 h4=>?_,fun r hr=>?_⟩
        . have aX:(Value.slice ax s'.2.length ay).ownBlock≠some k:=fun e=>by
           rcases ao.out.row k e with h | h
           . exact h4 h
           . omega
          rw [hW.1.block k (by omega),ar k (by omega) h3 aX,ao.out.keep k (by omega) h2 h3 h4];exact bD.out.keep k h1 h2 h3 h4
        . rcases bt.out with h | h
          . rcases ao.out.row r (h.symm.trans hr) with h5 | h5
            . exact .inl h5
            . exact .inr (by omega)
          . rw [h] at hr
            cases hr;exact .inr (by first | omega | (simp;omega) | (rw [World.size_alloc];omega))
   case stop=>exact fun _ _ _ _ _ _ h _=>h.elim
end
end Go.Proofs.YtgekbfgplclmeaaDoor
