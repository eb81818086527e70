import Derived.Test.YtpeejlpcikefcaaGreatDoorPKeep
import Derived.Test.YtpeejlpcikefcaaGreatDoorPQuietO
import Derived.Maps.OwnIn
/- turneryref6.StillOf: word by word. Plain loops around loops over a function: the marks that these leave among a frame's deferred calls. A row of Booleans that is written one by one. still.still: which words never change. graph.Post: a visit of a block (the closure that calls itself within a loop over a function). -/
namespace Go.Proofs.YtpeejlpcikefcaaGreatDoor
section
open Go.RowKit
theorem aps {fs:List aav}{k:Nat}(h:k<fs.length):ajU (fs.take (k+1))=ajU (fs.take k)++ar1 fs[k]:=by
 unfold ajU;rw [Abp h,List.flatMap_append];simp
def insB(bs:List DBlock)(b:Nat):List aaK:=(bs.take b).flatMap (·.list)
theorem apt {bs:List DBlock}{b:Nat}(h:b<bs.length):insB bs (b+1)=insB bs b++bs[b].list:=by
 unfold insB;rw [Abp h,List.flatMap_append];simp
theorem arb(f:aav):insB f.blocks f.blocks.length=ar1 f:=by unfold insB ar1;rw [Aa0]
end
section
open Go.RowKit Go.Shelf
structure adH (B C:Nat)(ds:List Deferred)(W:World):Prop where
 at_:∀d∈ds,∃D,d={ target := .collected D,args:=#[] }∧B<=D∧D<C∧W.heap[D]?=some (.deferred (some []))
 apart:ds.Pairwise (fun d e=>d≠e)
theorem adH.nil(B C:Nat)(W:World):adH B C [] W:=⟨fun d h=>(by cases h),List.Pairwise.nil⟩
theorem adH.keep {B C C':Nat}{ds:List Deferred}{W W':World}(h:adH B C ds W)(hC:C<=C')(hk:∀b,B<=b->b<C->W.heap[b]?=some (.deferred (some []))->W'.heap[b]?=some (.deferred (some []))):adH B C' ds W' :=
 ⟨fun d hd => by
   obtain ⟨D, e, h1, h2, h3⟩ := h.at_ d hd
   exact ⟨D, e, h1, by omega, hk D h1 h2 h3⟩, h.apart⟩
theorem adH.cons {B C C' D:Nat}{ds:List Deferred}{W:World}(h:adH B C ds W)(hD:C<=D)(hB:B<=D)(hC:D<C')(hd:W.heap[D]?=some (.deferred (some []))):adH B C' ({ target := .collected D,args:=#[] } :: ds) W:=by
 refine⟨fun d hm=>?_,List.Pairwise.cons (fun e he=>?_) h.apart⟩
 . rcases Aam.1 hm with rfl | hm
   . exact⟨D,rfl,hB,hC,hd⟩
   . obtain⟨D',e,h1,h2,h3⟩:=h.at_ d hm
     exact⟨D',e,h1,by omega,h3⟩
 . obtain⟨D',rfl,h1,h2,h3⟩:=h.at_ e he
   intro hx;injection hx with hx;injection hx with hx;omega
def arc(B:Nat)(W W':World):Prop:=Below B W W'∧∀(b:Nat) c t f,W.heap[b]?=some (.cells c t f)->W'.heap[b]?=some (.cells c t f)
theorem arc.refl(B:Nat)(W:World):arc B W W:=⟨Below.refl _ _,fun _ _ _ _ h=>h⟩
theorem arc.trans {B:Nat}{W1 W2 W3:World}(h:arc B W1 W2)(k:arc B W2 W3):arc B W1 W3:=⟨h.1.trans k.1,fun b c t f hc=>k.2 b c t f (h.2 b c t f hc)⟩
theorem aeJ {F:Fence}{n:Nat}{P:Program}{fn:Func}{tmps:Array Value}{R:Ending->World->Prop}{B C:Nat}:∀(ds:List Deferred) (W:World),B<=W.heap.size->adH B C ds W ->
 (∀W',arc B W W'->∃v,(results fn tmps).run P W' = .ok v W'∧R (.returned v) W')->LeavesInM F n P fn tmps R ds .returning W:=by
 intro ds
 induction ds with
 | nil=>exact fun W _ _ h=>h W (arc.refl B W)
 | cons d ds ih =>
   intro W bg hM h;obtain⟨D,rfl,h1,h2,h3⟩:=hM.at_ _ (Aa3 ..);have b5:D<W.heap.size:=(Aag.1 h3).1;have bI:arc B W (W.putObj D (.deferred none)):=by
    refine⟨(Below.refl B W).grown (grownBy_putObj' W D _) bg (fun k e=>by cases e;exact h1),fun b c t f hb=>?_⟩;rw [World.putObj_heap_other (fun e=>by rw [e,h3] at hb;cases hb)];exact hb
   refine⟨by simp,.inl ⟨D,_,rfl,run_takeDeferred h3,ih _ (by simpa using bg) ⟨fun e he=>?_,(List.pairwise_cons.1 hM.apart).2⟩ (fun W' hW=>h W' (bI.trans hW))⟩⟩;obtain⟨D',rfl,k1,k2,k3⟩:=hM.at_ e (Aa2 _ he);have aU:=(List.pairwise_cons.1 hM.apart).1 _ he;have bq:D'≠D:=fun e=>aU (by rw [e]);exact⟨D',rfl,k1,k2,(World.putObj_heap_other bq).trans k3⟩
end
section
open Go.RowKit Go.Shelf Go.Sort
attribute [local go_sem] Oper.semAt_some
theorem acE {W W':World}(h:Below W.heap.size W W'):KeepsOthers W W':=⟨h.size,fun k o hk _=>by rw [h.block k (Aag.1 hk).1];exact hk⟩
theorem alP {n₀:Nat}{X:Nat->Prop}{W W':World}(h:Below W.heap.size W W')(hn:n₀<=W.heap.size):acP n₀ X W W':=⟨h.size,fun b h1 _=>h.block b (by omega)⟩
theorem ah0 {n₀:Nat}{X:Nat->Prop}(W:World){b o:Nat}(v:Value)(hX:X b):acP n₀ X W (W.setCell ⟨b,o,none⟩ v) :=
 ⟨by simp [World.setCell],fun b' _ h=>Below.heap_setCell _ _ _ _ (fun e=>h (by rw [e];exact hX))⟩
theorem adH.set {B C:Nat}{ds:List Deferred}{W:World}(h:adH B C ds W){b o:Nat}(v:Value)(hb:b<B):adH B C ds (W.setCell ⟨b,o,none⟩ v) :=
 h.keep (Aac _) (fun b' k1 _ h3=>by rw [Below.heap_setCell _ _ _ _ (by dsimp only;omega)];exact h3)
end
section
open Go.RowKit Go.Shelf
attribute [local go_sem] Oper.semAt_some
structure apu (w0:World)(OB LC base:Nat)(W:World)(s:List Bool×List Int)(v:Value):Prop where
 size:base<=W.heap.size
 keep:∀b,b<base->b≠OB->b≠LC->W.heap[b]?=w0.heap[b]?
 env:W.os=w0.os∧W.tape=w0.tape∧W.output=w0.output
 row:W.heap[OB]?=some (.cells (s.1.map Value.bool).toArray 4 (0,0))
 cell:W.heap[LC]?=some (.cells #[v] 42 (0,0))
 own:abv base W v s.2
structure aqa (OB LC:Nat)(W W':World)(v v':Value):Prop where
 size:W.heap.size<=W'.heap.size
 keep:∀b,b<W.heap.size->b≠OB->b≠LC->v.ownBlock≠some b->W'.heap[b]?=W.heap[b]?
 row:∀g,v'.ownBlock=some g->v.ownBlock=some g∨W.heap.size<=g
theorem aqa.refl(OB LC:Nat)(W:World)(v:Value):aqa OB LC W W v v:=⟨Aac _,fun _ _ _ _ _=>rfl,fun _ h => .inl h⟩
variable {OB LC:Nat}{v:Value}
theorem aqa.trans{A B C:World}{u x:Value}(h:aqa OB LC A B u v)(k:aqa OB LC B C v x):aqa OB LC A C u x:=by
 refine⟨Aai h.size k.size,fun b h1 h2 h3 h4=>?_,fun g hg=>?_⟩
 . rw [k.keep b (Aay h1 h.size) h2 h3 (fun e => by
    rcases h.row b e with h5 | h5
    . exact h4 h5
    . omega), h.keep b h1 h2 h3 h4]
 . rcases k.row g hg with h1 | h1
   . exact h.row g h1
   . exact .inr (Aai h.size h1)
variable {base:Nat}
theorem apv{w:World}{l:List Int}(h:abv base w v l){g:Nat}(hg:v.ownBlock=some g):base<=g∧g<w.heap.size:=by
 rcases h.1.2 with⟨rfl,-⟩ | ⟨g',cap,cur,rfl,h1,h2,-⟩
 . cases hg
 . cases hg;exact⟨h1,(Aag.1 h2).1⟩
variable {w0 W:World}{s:List Bool×List Int}
theorem apu.cellOf(h:apu w0 OB LC base W s v){b o:Nat}{u:Value}(hc:w0.cell? ⟨b,o,none⟩=some u)(h1:b<base)(h2:b≠OB)(h3:b≠LC):W.cell? ⟨b,o,none⟩=some u:=by
 rw [World.cell?_of_block (w:=w0) (a:=⟨b,o,none⟩) (h.keep b h1 h2 h3)];exact hc
theorem apu.left(h:apu w0 OB LC base W s v):W.cell? ⟨LC,0,none⟩=some v:=by simp [World.cell?,h.cell]
theorem apu.seen(h:apu w0 OB LC base W s v){i:Nat}(hi:i<s.1.length):W.cell? ⟨OB,i,none⟩=some (.bool s.1[i]):=by
 rw [aaW h.row];simp [hi]
set_option maxRecDepth 100000 in
set_option maxHeartbeats 4000000 in
theorem apw (w0 : World) (OB LC base SC FC VC n : Nat) (ba : Option Addr) (bc : Nat) (bs : List DBlock) (hb : SlAt (fun b => b < base ∧ b ≠ OB ∧ b ≠ LC) w0 6 aa2 (.slice ba n bc) bs) (hn : bs.length = n) (b2 : n <= 1048576)
 (hto:∀(k:Nat) (x:DBlock),bs[k]?=some x->x.fin.to.length<=2∧∀t∈x.fin.to,0<=t∧t<(n:Int))
 (hO:OB<base) (hL:LC<base) (bk:OB≠LC) (hS:SC<base∧SC≠OB∧SC≠LC) (hF:FC<base∧FC≠OB∧FC≠LC) (hV:VC<base∧VC≠OB∧VC≠LC)
 (cS:w0.cell? ⟨SC,0,none⟩=some (.slice (some ⟨OB,0,none⟩) n n)) (cF:w0.cell? ⟨FC,3,none⟩=some (.slice ba n bc))
 (cV:w0.cell? ⟨VC,0,none⟩=some (.func (.func 77) #[] #[.pointer (some ⟨SC,0,none⟩),.pointer (some ⟨FC,0,none⟩),.pointer (some ⟨VC,0,none⟩),.pointer (some ⟨LC,0,none⟩)])) :
 ∀(f b:Nat) (s:List Bool×List Int) (v:Value) (W:World),apu w0 OB LC base W s v->s.1.length=n->s.1[b]?=some false->s.1.count false<=f->s.2.length+s.1.count false<=n ->
   Calls Tryz.prog 77 #[.int .i64 (b:Int),.pointer (some ⟨SC,0,none⟩),.pointer (some ⟨FC,0,none⟩),.pointer (some ⟨VC,0,none⟩),.pointer (some ⟨LC,0,none⟩)] W fun e W' =>
    (∃u,e = .returned u)∧∃v',apu w0 OB LC base W' (aa6 bs f b s) v'∧aqa OB LC W W' v v':=by
 have Hb:=hid hb;have a6:=hid hto;have Hn:=hid hn;clear hb hto hn;intro f
 induction f with
 | zero =>
   intro b s v W _ _ aN hc _;have:=abn s.1 b aN;omega
 | succ f ih =>
   intro b s v W ad aT aN hc bu;have Ih:=hid ih;have au:=hid ad;have a8:b<n:=by rw [<-aT];exact (Aad.1 aN).1
   have hu:=abn s.1 b aN;have d0:=ad.cellOf cS hS.1 hS.2.1 hS.2.2;have d1:=ad.cellOf cF hF.1 hF.2.1 hF.2.2;have d2:=ad.seen (i:=b) (by rw [aT];exact a8);have d3:W.frozen? ⟨OB,b,none⟩=false:=by simp [World.frozen?,ad.row]
   have aL:b<bs.length:=by rw [Hn.out];exact a8
   obtain⟨xb,an,cs,bN,aJ,hx,-,bh⟩:=Hb.out.get aL;subst bN;obtain⟨pa,pc,la,lc,ta,tc,rfl,-,-,bn,-,-,bZ,-,-⟩:=hx.opens;obtain⟨-,-,-,-,-,c5⟩:=bh.get6;have d5:=ad.cellOf c5 aJ.1 aJ.2.1 aJ.2.2;have b4:=hid aJ;have bL:=hid bn;clear ih ad bh hx bn c5;refine (callsIn_wide (n:=6)).1 ?_;refine callsIn_of_wp_marks Tryz.func77 rfl trivial ?_ rfl;simp only [Tryz.ntmps77,Abo,Aa8,Ab6,Nat.reduceAdd,Nat.reduceSub,Ach,Aci,List.push_toArray,Acj,Abg,List.cons_append]
   gi_wp2_with (refine⟨trivial,?_⟩;gi_at_call 78;refine (ash Fence.wide 5 trivial rfl _ _ _ _).mono ?_;rintro e w' ⟨rfl,rfl⟩)
   have aB:(W.setCell ⟨OB,b,none⟩ (.bool true)).heap.size=W.heap.size:=by simp [World.setCell]
   obtain⟨W1,ao⟩:∃W1,W1=W.setCell ⟨OB,b,none⟩ (.bool true):=⟨_,rfl⟩
   rw [<-ao] at aB;rw [<-ao];obtain⟨Wk,ak⟩:∃Wk,Wk=W1.alloc (.cells #[.slice ta bs[b].fin.to.length tc] 42):=⟨_,rfl⟩
   have bW:Wk.heap.size=W.heap.size+1:=by rw [ak];simp [aB]
   have aE:∀k,k<W.heap.size->k≠OB->Wk.heap[k]?=W.heap[k]?:=fun k h1 h2=>by
    rw [ak,Below.heap_alloc _ _ _ (by rw [aB];exact h1),ao,Below.heap_setCell _ _ _ _ (by dsimp only;exact h2)]
   have b6:=au.out.size;have bf:aqa OB LC W Wk v v:=⟨by omega,fun k h1 h2 _ _=>aE k h1 h2,fun _ h => .inl h⟩
   have az:apu w0 OB LC base Wk (s.1.set b true,s.2) v:=by
    refine⟨by omega,fun k h1 h2 h3=>?_,?_,?_,?_,?_⟩
    . rw [aE k (by omega) h2];exact au.out.keep k h1 h2 h3
    . rw [ak,ao];exact au.out.env
    . rw [ak,Below.heap_alloc _ _ _ (by rw [aB];omega),ao,aak au.out.row,List.map_set]
      congr 2
      simp
    . rw [aE LC (by omega) (Ne.symm bk)];exact au.out.cell
    . have h:=au.out.own
      have hg:W.grownBy Wk (some OB):=⟨by rw [ak,ao];rfl,by rw [ak,ao];rfl,by rw [ak,ao];rfl,by omega,fun k h1 h2=>aE k h1 (fun e=>h2 (by rw [e]))⟩
      exact ⟨h.1.kept hg (by
       cases hv : v.ownBlock with
       | none => exact .inl rfl
       | some g => exact .inr (fun e => by
          have := (apv h hv).1
          injection e with e
          omega)), h.2⟩
   have b3:=(a6.out b _ (Aaa aL)).1
   have bQ : ∀ k, k < base -> k ≠ OB -> k ≠ LC -> k < Wk.heap.size ∧ ¬ (k = OB ∨ k = LC ∨ v.ownBlock = some k) := fun k h1 h2 h3 => ⟨by omega, fun h => by
    rcases h with h | h | h
    . exact h2 h
    . exact h3 h
    . have := (apv au.out.own h).1; omega⟩
   have bJ:SlAt (fun k=>k<Wk.heap.size∧¬(k=OB∨k=LC∨v.ownBlock=some k)) Wk 1 acz (.slice ta bs[b].fin.to.length tc) bs[b].fin.to :=
    bL.out.mono aax (fun k hk=>bQ k hk.1 hk.2.1 hk.2.2) (acI fun k hk _=>az.keep k hk.1 hk.2.1 hk.2.2)
   have bz:Wk.cell? ⟨W.heap.size,0,none⟩=some (.slice ta bs[b].fin.to.length tc):=by rw [ak,<-aB];simp
   have aY:=hid az;have bp:=hid bf;rw [<-ak];clear ak ao aE az bf aB d0 d1 d2 d3 d5
   refine wpIn_rangeFunc_ownF (α := BackP bs[b].fin.to) rfl (by decide) (gf := 106) (lb := #[.pointer (some ⟨W.heap.size, 0, none⟩)]) rfl trivial (enters_of Tryz.func106 (by kernel_rfl) rfl)
    (am6 Fence.wide (6 - 1) trivial rfl (by decide) W.heap.size Wk.heap.size (fun k => k = OB ∨ k = LC ∨ v.ownBlock = some k) ta tc bs[b].fin.to Wk Wk (by omega) bJ
      ⟨by omega, fun h => by
        rcases h with h | h | h
        . omega
        . omega
        . have := (apv au.out.own h).2; omega⟩ (Below.refl _ _) bz)
    (fun h k=>adw h k) (aoa (Aac _)) (Below.refl _ _) (fun _=>rfl)
    (fun pre V=>∃v',apu w0 OB LC base V (acv bs f (pre.map numOf) (s.1.set b true,s.2)) v'∧aqa OB LC Wk V v v')
    (fun _ _ _=>False)
    ?hI ?hIx ?h0 (fun x=>{ tmps:=#[(.int .i64 (b:Int)),(.pointer (some ⟨SC,0,none⟩)),(.pointer (some ⟨FC,0,none⟩)),(.pointer (some ⟨VC,0,none⟩)),(.pointer (some ⟨LC,0,none⟩)),undef,undef,(.int .i64 x.1.2),(.slice (some ⟨OB,0,none⟩) n n),(.int .i64 (b:Int)),(.pointer (some ⟨OB,b,none⟩)),(.pointer (some ⟨FC,3,none⟩)),(.slice (some ⟨xb,an,none⟩) n bc),(.int .i64 (b:Int)),(.pointer (some ⟨xb,an+b * 6,none⟩)),(.pointer (some ⟨xb,an+b * 6+2,none⟩)),(.pointer (some ⟨xb,an+b * 6+2+3,none⟩)),(.slice ta bs[b].fin.to.length tc),(.func (.func 106) #[] #[.pointer (some ⟨W.heap.size,0,none⟩)]),(.int .i64 (x.1.1:Int)),(.int .i64 x.1.2),undef,undef,undef,undef,undef,undef,undef,undef,undef,undef,undef,undef],defers:=[] }) ?assign ?body ?done ?stop
   case hI =>
    rintro pr A B row ⟨v',ad,al⟩ hg hr;have aM:∀r,row=some r->Wk.heap.size<=r:=fun r e=>(hr r e).1;have bU:=ad.size;refine⟨v',⟨Aai ad.size hg.size,fun k h1 h2 h3=>?_,⟨hg.os.trans ad.env.1,hg.tape.trans ad.env.2.1,hg.output.trans ad.env.2.2⟩,?_,?_,?_⟩,⟨Aai al.size hg.size,fun k h1 h2 h3 h4=>?_,al.row⟩⟩
    . rw [hg.block k (by omega) (fun e=>by have:=aM k e.symm;omega)];exact ad.keep k h1 h2 h3
    . rw [hg.block OB (by omega) (fun e=>by have:=aM OB e.symm;omega)];exact ad.row
    . rw [hg.block LC (by omega) (fun e=>by have:=aM LC e.symm;omega)];exact ad.cell
    . refine⟨ad.own.1.kept hg ?_,ad.own.2⟩
      rcases ad.own.1.2 with⟨rfl,-⟩ | ⟨g',cap,cur,rfl,-,h2,-⟩
      . exact .inl rfl
      . refine .inr (fun e=>?_)
        obtain⟨-,o,ho,hc⟩:=hr g' e.symm;rw [h2] at ho;cases ho;cases hc
    . rw [hg.block k (Aay h1 al.size) (fun e=>by have:=aM k e.symm;omega)];exact al.keep k h1 h2 h3 h4
   case hIx=>exact fun _ _ _ _ _ h _ _=>h
   case h0=>exact⟨v,aY.out,aqa.refl _ _ _ _⟩
   case assign =>
    intro l x V K hK;unfold atX
    gi_wp2
    exact hK
   case body =>
    rintro l pre x V ⟨v',ad,al⟩ _;obtain⟨k1,k2,k3⟩:=ajI bs f (ak1 bs f) (pre.map numOf) (s.1.set b true,s.2) (by dsimp only;omega);obtain⟨s',aA⟩:∃s',s'=acv bs f (pre.map numOf) (s.1.set b true,s.2):=⟨_,rfl⟩
    have aI:Hid (acv bs f ((pre++[x]).map numOf) (s.1.set b true,s.2)=if s'.1.getD (numOf x).toNat true=true then s' else aa6 bs f (numOf x).toNat s'):=by
     show _=_;rw [Aa9,aA];exact anI bs f (pre.map numOf) (numOf x) _
    rw [<-aA] at ad k1 k2 k3;dsimp only at k1 k2 k3;rw [Aar,aT] at k3;have aR:=(a6.out b _ (Aaa aL)).2 _ (aob x);obtain⟨xv,aQ⟩:∃xv,xv=x.1.2:=⟨_,rfl⟩
    have aG:numOf x=xv:=aQ.symm;rw [aG] at aR aI;rw [<-aQ];obtain⟨t,rfl⟩:=Abc aR.1;rw [Aan] at aI;have aF:t<n:=by omega
    have c0:=ad.cellOf cS hS.1 hS.2.1 hS.2.2;have c1:=ad.cellOf cV hV.1 hV.2.1 hV.2.2;have c2:=ad.seen (i:=t) (by rw [k3];exact aF);have ai:=hid ad;have aO:=hid al;have aX:s'.1.getD t true=s'.1[t]'(by rw [k3];exact aF):=by rw [Aaf,Aaa (by rw [k3];exact aF)];rfl
    obtain⟨q,hq⟩:∃q,s'.1[t]'(by rw [k3];exact aF)=q:=⟨_,rfl⟩
    rw [hq] at c2 aX;rw [aX] at aI;have bd:s'.1[t]?=some q:=by rw [Aaa (by rw [k3];exact aF),hq]
    have bM:=hid k1;have bS:=hid k2;have bx:=hid k3;have Hq:=hid bd;clear ad al aA aQ aG aX hq bd k1 k2 k3 aR;cases q with
    | true =>
      gi_wp2
      exact⟨KeepsOthers.refl _,acP.refl _ _ _,v',by rw [aI.out,if_pos trivial];exact ai.out,aO.out⟩
    | false =>
      gi_wp2_with (refine⟨trivial,?_⟩;gi_at_call 77;refine (CallsIn.inRound l (callsIn_wide.2 (Ih.out t s' v' V ai.out bx.out Hq.out (by have:=bS.out;omega) (by have:=bM.out;omega)))).mono ?_;rintro e V' ⟨⟨u,rfl⟩,bR,aH,ag⟩)
      have bj : KeepsOthers V V' := ⟨ag.size, fun k o hk hc => by
       have bo : k < V.heap.size := (Aag.1 hk).1
       rw [ag.keep k bo (fun e => by rw [e, ai.out.row] at hk; cases hk; cases hc) (fun e => by rw [e, ai.out.cell] at hk; cases hk; cases hc) (fun e => by
        rcases ai.out.own.1.2 with ⟨rfl, -⟩ | ⟨g', cap, cur, rfl, -, h2, -⟩
        . cases e
        . cases e; rw [h2] at hk; cases hk; cases hc)]
       exact hk⟩
      have a1 : acP Wk.heap.size (fun k => k = OB ∨ k = LC ∨ v.ownBlock = some k) V V' := ⟨ag.size, fun k h1 h2 => ag.keep k (Aay h1 aO.out.size) (fun e => h2 (.inl e)) (fun e => h2 (.inr (.inl e))) (fun e => by
       rcases aO.out.row k e with h3 | h3
       . exact h2 (.inr (.inr h3))
       . omega)⟩
      have bG:=hid bj;have bT:=hid a1;have aW:=hid aH;have aP:=hid ag;clear bj a1 aH ag
      gi_wp2
      exact⟨bG.out,bT.out,bR,by rw [aI.out,if_neg (by simp)];exact aW.out,aO.out.trans aP.out⟩
   case done =>
    rintro D xs V hD a7 ⟨v',ad,al⟩ hd;obtain⟨j1,j2,j3⟩:=ajI bs f (ak1 bs f) (xs.map numOf) (s.1.set b true,s.2) (by dsimp only;omega);have bl:Hid (aa6 bs (f+1) b s=((acv bs f (xs.map numOf) (s.1.set b true,s.2)).1,(acv bs f (xs.map numOf) (s.1.set b true,s.2)).2++[(b:Int)])):=by
     show _=_;rw [ab7,a7];have e:acn bs b=bs[b].fin.to:=by unfold acn;rw [Aaa aL]
     rw [e]
    obtain⟨s',aA⟩:∃s',s'=acv bs f (xs.map numOf) (s.1.set b true,s.2):=⟨_,rfl⟩
    rw [<-aA] at ad j1 j2 j3 bl;dsimp only at j1;have hlen:s'.2.length+1<=n:=by omega
    obtain⟨i0,hi,bA,bH,bw⟩:=info_parts ajf;obtain⟨aw,av,bC⟩:=ad.own.shape;subst bC;have bO:=ad.left;have bP:V.frozen? ⟨LC,0,none⟩=false:=by simp [World.frozen?,ad.cell]
    have zV:base<=V.heap.size:=ad.size;have zL:LC<V.heap.size:=by omega
    have ae:=hid ad;have aq:=hid al;have aS:Hid ((V.alloc (.cells #[.int .i64 (b:Int)] 3)).ownsRow base 3 1 (.slice aw s'.2.length av) s'.2.length (s'.2.map fun x=>Value.int .i64 x)):=ad.own.1.alloc _;have Hd:=hid hd;clear ad al aA j2 j3 a7 hd
    gi_wp2_with (gi_at_builtin;refine wpListIn_append_own_at _ rfl _ _ 42 rfl base 3 i0 (.int .i64 0) 1 8 Tryz.underlying42 hi bA bH bw rfl (by decide) _ _ _ rfl aS.out ⟨V.heap.size,0,none⟩ 1 1 [.int .i64 (b:Int)] rfl rfl (cell_one_new _ _ _) ?_ ?_ ?_ ?_ ?_)
    . intro u hu;simp at hu;subst hu;rfl
    . unfold maxLen;omega
    . omega
    . simp;omega
    . intro v9 w9 aj ah aZ bm
      obtain⟨g,cap,rfl,bV,b0⟩:=ah2 aj;have ay:∀r,(Value.slice aw s'.2.length av).ownBlock=some r->base<=r∧∃o:Obj,V.heap[r]?=some o∧o.isCells=true:=fun r e=>by
       rcases ae.out.own.1.2 with⟨h1,-⟩ | ⟨g',cap',cur,h1,h2,h3,-⟩
       . rw [h1] at e;cases e
       . rw [h1] at e;cases e;exact⟨h2,_,h3,rfl⟩
      have aV:∀k,k<V.heap.size->(Value.slice aw s'.2.length av).ownBlock≠some k->w9.heap[k]?=V.heap[k]?:=fun k h1 h2=>by
       rw [ah.block k (by simp;omega) (fun e=>h2 e.symm),Below.heap_alloc _ _ _ h1]
      have aK:w9.heap[LC]?=some (.cells #[.slice aw s'.2.length av] 42 (0,0)):=by
       rw [aV LC zL (fun e=>by have:=(ay LC e).1;omega)];exact ae.out.cell
      have c9:w9.cell? ⟨LC,0,none⟩=some (.slice aw s'.2.length av):=by simp [World.cell?,aK]
      have f9:w9.frozen? ⟨LC,0,none⟩=false:=by simp [World.frozen?,aK]
      have aD:=hid aj;have af:=hid ah;have bB:=hid bm;have bt:=hid aV;have bD:=hid aK;have aC:=hid ay;clear aj ah aZ bm aV aK ay bO bP
      gi_wp2
      obtain⟨W9,ax⟩:∃W9,W9=w9.setCell ⟨LC,0,none⟩ (.slice (some ⟨g,0,none⟩) (s'.2.length+1) cap):=⟨_,rfl⟩
      rw [<-ax];have b1:W9.heap.size=w9.heap.size:=by rw [ax];simp [World.setCell]
      have br:V.heap.size+1<=w9.heap.size:=by have:=af.out.size;simpa using this
      have ar:∀k,k<V.heap.size->k≠LC->(Value.slice aw s'.2.length av).ownBlock≠some k->W9.heap[k]?=V.heap[k]?:=fun k h1 h2 h3=>by
       rw [ax,Below.heap_setCell _ _ _ _ (by dsimp only;exact h2)];exact bt.out k h1 h3
      have be:∀k,k<base->(Value.slice aw s'.2.length av).ownBlock≠some k:=fun k h1 e=>by have:=(aC.out k e).1;omega
      have bF:D<V.heap.size:=(Aag.1 Hd.out).1;have bK:W9.heap[D]?=some (.deferred (some [])):=by
       rw [ar D bF (by omega) (fun e => by
        obtain ⟨-, o, ho, hc⟩ := aC.out D e
        rw [Hd.out] at ho
        cases ho
        cases hc)]
       exact Hd.out
      have bY:=aq.out.size;refine aeJ (B:=Wk.heap.size) (C:=D+1) _ _ (by omega) ((adH.nil Wk.heap.size D W9).cons (Aac _) hD (by omega) bK) (fun W' hW=>?_);have bX:=hW.1.size;refine⟨.tuple #[],results_none rfl _ _ _,⟨_,rfl⟩,.slice (some ⟨g,0,none⟩) (s'.2.length+1) cap,?_,?_⟩
      . rw [bl.out]
        refine⟨by omega,fun k h1 h2 h3=>?_,⟨?_,?_,?_⟩,?_,?_,?_⟩
        . rw [hW.1.block k (by omega),ar k (by omega) h3 (be k h1)];exact ae.out.keep k h1 h2 h3
        . rw [hW.1.os,ax];exact af.out.os.trans ae.out.env.1
        . rw [hW.1.tape,ax];exact af.out.tape.trans ae.out.env.2.1
        . rw [hW.1.output,ax];exact af.out.output.trans ae.out.env.2.2
        . rw [hW.1.block OB (by omega),ar OB (by omega) bk (be OB hO)];exact ae.out.row
        . rw [hW.1.block LC (by omega),ax,aak bD.out];rfl
        . obtain⟨q1,q2⟩:=aD.out
          rcases q2 with⟨h,-⟩ | ⟨g',cap',cur,e,q3,q4,q5,q6,q7,q8⟩
          . cases h
          . cases e
            refine⟨⟨by simp,.inr ⟨g,cap,cur,by simp,q3,hW.2 _ _ _ _ (by rw [ax,Below.heap_setCell _ _ _ _ (by dsimp only;omega)];exact q4),by simpa using q5,q6,q7,?_⟩⟩,fun x hx=>?_⟩
            . rw [Aau,List.length_singleton,q8,Aa9];rfl
            . rcases Aa7.1 hx with hx | hx
              . exact ae.out.own.2 x hx
              . rw [Aax] at hx
                subst hx;unfold I64;omega
      . refine⟨by omega,fun k h1 h2 h3 h4=>?_,fun r hr=>?_⟩
        . have aU:(Value.slice aw s'.2.length av).ownBlock≠some k:=fun e=>by
           rcases aq.out.row k e with h | h
           . exact h4 h
           . omega
          rw [hW.1.block k (by omega),ar k (by omega) h3 aU,aq.out.keep k (by omega) h2 h3 h4];exact bp.out.keep k h1 h2 h3 h4
        . rcases bB.out with h | h
          . rcases aq.out.row r (h.symm.trans hr) with h5 | h5
            . exact .inl h5
            . exact .inr (by omega)
          . rw [h] at hr
            cases hr;exact .inr (by first | omega | (simp;omega) | (rw [World.size_alloc];omega))
   case stop=>exact fun _ _ _ _ _ _ h _=>h.elim
end
end Go.Proofs.YtpeejlpcikefcaaGreatDoor
