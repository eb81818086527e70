import Derived.Test.YtnkfdeiigplhoaaGreatDoorPVals
import Derived.Maps.OwnIn
/- still.still: which words never change. graph.Post: a visit of a block (the closure that calls itself within a loop over a function). slices.Values, Collect and Sorted over a list of numbers. -/
set_option maxHeartbeats 4000000
set_option maxRecDepth 100000
namespace Go.Proofs.YtnkfdeiigplhoaaGreatDoor
section
open Go.RowKit Go.Shelf Go.Sort
attribute [local go_sem] Oper.semAt_some
end
section
open Go.RowKit Go.Shelf
attribute [local go_sem] Oper.semAt_some
structure ale (w0:World)(OB LC base:Nat)(W:World)(s:List Bool×List Int)(v:Value):Prop where
 size:base<=W.heap.size
 keep:∀b,b<base->b≠OB->b≠LC->W.heap[b]?=w0.heap[b]?
 env:W.os=w0.os∧W.tape=w0.tape∧W.output=w0.output
 row:W.heap[OB]?=some (.cells (s.1.map Value.bool).toArray 4 (0,0))
 cell:W.heap[LC]?=some (.cells #[v] 26 (0,0))
 own:aaz base W v s.2
structure amM (OB LC:Nat)(W W':World)(v v':Value):Prop where
 size:W.heap.size<=W'.heap.size
 keep:∀b,b<W.heap.size->b≠OB->b≠LC->v.ownBlock≠some b->W'.heap[b]?=W.heap[b]?
 row:∀g,v'.ownBlock=some g->v.ownBlock=some g∨W.heap.size<=g
theorem amM.refl(OB LC:Nat)(W:World)(v:Value):amM OB LC W W v v:=⟨Aad _,fun _ _ _ _ _=>rfl,fun _ h => .inl h⟩
variable {OB LC:Nat}{v:Value}
theorem amM.trans{A B C:World}{u x:Value}(h:amM OB LC A B u v)(k:amM OB LC B C v x):amM OB LC A C u x:=by
 refine⟨Aag h.size k.size,fun b h1 h2 h3 h4=>?_,fun g hg=>?_⟩
 . rw [k.keep b (Aap h1 h.size) h2 h3 (fun e => by
    rcases h.row b e with h5 | h5
    . exact h4 h5
    . omega), h.keep b h1 h2 h3 h4]
 . rcases k.row g hg with h1 | h1
   . exact h.row g h1
   . exact .inr (Aag h.size h1)
variable {base:Nat}
theorem ajT{w:World}{l:List Int}(h:aaz base w v l){g:Nat}(hg:v.ownBlock=some g):base<=g∧g<w.heap.size:=by
 rcases h.1.2 with⟨rfl,-⟩ | ⟨g',cap,cur,rfl,h1,h2,-⟩
 . cases hg
 . cases hg;exact⟨h1,(Aax.1 h2).1⟩
variable {w0 W:World}{s:List Bool×List Int}
theorem ale.cellOf(h:ale w0 OB LC base W s v){b o:Nat}{u:Value}(hc:w0.cell? ⟨b,o,none⟩=some u)(h1:b<base)(h2:b≠OB)(h3:b≠LC):W.cell? ⟨b,o,none⟩=some u:=by
 rw [World.cell?_of_block (w:=w0) (a:=⟨b,o,none⟩) (h.keep b h1 h2 h3)];exact hc
theorem ale.left(h:ale w0 OB LC base W s v):W.cell? ⟨LC,0,none⟩=some v:=by simp [World.cell?,h.cell]
theorem ale.seen(h:ale w0 OB LC base W s v){i:Nat}(hi:i<s.1.length):W.cell? ⟨OB,i,none⟩=some (.bool s.1[i]):=by
 rw [aaI h.row];simp [hi]
theorem amH (w0 : World) (OB LC base SC FC VC n : Nat) (ba : Option Addr) (bc : Nat) (bs : List aad) (hb : SlAt (fun b => b < base ∧ b ≠ OB ∧ b ≠ LC) w0 6 aaJ (.slice ba n bc) bs) (hn : bs.length = n) (cw : n <= 1048576)
 (bT:∀(k:Nat) (x:aad),bs[k]?=some x->x.fin.to.length<=2∧∀t∈x.fin.to,0<=t∧t<(n:Int))
 (hO:OB<base) (hL:LC<base) (bH:OB≠LC) (hS:SC<base∧SC≠OB∧SC≠LC) (hF:FC<base∧FC≠OB∧FC≠LC) (hV:VC<base∧VC≠OB∧VC≠LC)
 (cS:w0.cell? ⟨SC,0,none⟩=some (.slice (some ⟨OB,0,none⟩) n n)) (cF:w0.cell? ⟨FC,3,none⟩=some (.slice ba n bc))
 (cV:w0.cell? ⟨VC,0,none⟩=some (.func (.func 138) #[] #[.pointer (some ⟨SC,0,none⟩),.pointer (some ⟨FC,0,none⟩),.pointer (some ⟨VC,0,none⟩),.pointer (some ⟨LC,0,none⟩)])) :
 ∀(f b:Nat) (s:List Bool×List Int) (v:Value) (W:World),ale w0 OB LC base W s v->s.1.length=n->s.1[b]?=some false->s.1.count false<=f->s.2.length+s.1.count false<=n ->
   Calls Tryz.prog 138 #[.int .i64 (b:Int),.pointer (some ⟨SC,0,none⟩),.pointer (some ⟨FC,0,none⟩),.pointer (some ⟨VC,0,none⟩),.pointer (some ⟨LC,0,none⟩)] W fun e W' =>
    (∃u,e = .returned u)∧∃v',ale w0 OB LC base W' (abG bs f b s) v'∧amM OB LC W W' v v':=by
 have Hb:=hid hb;have bC:=hid bT;have Hn:=hid hn;clear hb bT hn;intro f
 induction f with
 | zero =>
   intro b s v W _ _ a1 hc _;have:=ace s.1 b a1;omega
 | succ f ih =>
   intro b s v W ad bm a1 hc cl;have Ih:=hid ih;have ag:=hid ad;have bJ:b<n:=by rw [<-bm];exact (Aae.1 a1).1
   have hu:=ace s.1 b a1;have d0:=ad.cellOf cS hS.1 hS.2.1 hS.2.2;have d1:=ad.cellOf cF hF.1 hF.2.1 hF.2.2;have d2:=ad.seen (i:=b) (by rw [bm];exact bJ);have d3:W.frozen? ⟨OB,b,none⟩=false:=by simp [World.frozen?,ad.row]
   have aZ:b<bs.length:=by rw [Hn.out];exact bJ
   obtain⟨xb,ax,cs,br,aJ,hx,-,aP⟩:=Hb.out.get aZ;subst br;obtain⟨pa,pc,la,lc,ta,tc,rfl,-,-,bU,-,-,cy,-,-⟩:=hx.opens;obtain⟨-,-,-,-,-,c5⟩:=aP.get6;have d5:=ad.cellOf c5 aJ.1 aJ.2.1 aJ.2.2;have ct:=hid aJ;have b3:=hid bU;clear ih ad aP hx bU c5;refine (callsIn_wide (n:=6)).1 ?_;refine callsIn_of_wp_marks Tryz.func138 rfl trivial ?_ rfl;simp only [Tryz.ntmps138,List.size_toArray,Aao,Abn,Nat.reduceAdd,Nat.reduceSub,Array.replicate_succ,Array.replicate_zero,List.push_toArray,List.append_toArray,Abf,List.cons_append]
   gi_wp2_with (refine⟨trivial,?_⟩;gi_at_call 139;refine (aop Fence.wide 5 trivial rfl _ _ _ _).mono ?_;rintro e w' ⟨rfl,rfl⟩)
   have aM:(W.setCell ⟨OB,b,none⟩ (.bool true)).heap.size=W.heap.size:=by simp [World.setCell]
   obtain⟨W1,aB⟩:∃W1,W1=W.setCell ⟨OB,b,none⟩ (.bool true):=⟨_,rfl⟩
   rw [<-aB] at aM;rw [<-aB];obtain⟨Wk,an⟩:∃Wk,Wk=W1.alloc (.cells #[.slice ta bs[b].fin.to.length tc] 26):=⟨_,rfl⟩
   have ck:Wk.heap.size=W.heap.size+1:=by rw [an];simp [aM]
   have aQ:∀k,k<W.heap.size->k≠OB->Wk.heap[k]?=W.heap[k]?:=fun k h1 h2=>by
    rw [an,Below.heap_alloc _ _ _ (by rw [aM];exact h1),aB,Below.heap_setCell _ _ _ _ (by dsimp only;exact h2)]
   have cx:=ag.out.size;have bV:amM OB LC W Wk v v:=⟨by omega,fun k h1 h2 _ _=>aQ k h1 h2,fun _ h => .inl h⟩
   have aI:ale w0 OB LC base Wk (s.1.set b true,s.2) v:=by
    refine⟨by omega,fun k h1 h2 h3=>?_,?_,?_,?_,?_⟩
    . rw [aQ k (by omega) h2];exact ag.out.keep k h1 h2 h3
    . rw [an,aB];exact ag.out.env
    . rw [an,Below.heap_alloc _ _ _ (by rw [aM];omega),aB,aay ag.out.row,List.map_set]
      congr 2
      simp
    . rw [aQ LC (by omega) (Ne.symm bH)];exact ag.out.cell
    . have h:=ag.out.own
      have hg:W.grownBy Wk (some OB):=⟨by rw [an,aB];rfl,by rw [an,aB];rfl,by rw [an,aB];rfl,by omega,fun k h1 h2=>aQ k h1 (fun e=>h2 (by rw [e]))⟩
      exact ⟨h.1.kept hg (by
       cases hv : v.ownBlock with
       | none => exact .inl rfl
       | some g => exact .inr (fun e => by
          have := (ajT h hv).1
          injection e with e
          omega)), h.2⟩
   have cv:=(bC.out b _ (Aaa aZ)).1
   have ch : ∀ k, k < base -> k ≠ OB -> k ≠ LC -> k < Wk.heap.size ∧ ¬ (k = OB ∨ k = LC ∨ v.ownBlock = some k) := fun k h1 h2 h3 => ⟨by omega, fun h => by
    rcases h with h | h | h
    . exact h2 h
    . exact h3 h
    . have := (ajT ag.out.own h).1; omega⟩
   have b9:SlAt (fun k=>k<Wk.heap.size∧¬(k=OB∨k=LC∨v.ownBlock=some k)) Wk 1 aaO (.slice ta bs[b].fin.to.length tc) bs[b].fin.to :=
    b3.out.mono aae (fun k hk=>ch k hk.1 hk.2.1 hk.2.2) (aba fun k hk _=>aI.keep k hk.1 hk.2.1 hk.2.2)
   have ak:Wk.cell? ⟨W.heap.size,0,none⟩=some (.slice ta bs[b].fin.to.length tc):=by rw [an,<-aM];simp
   have bg:=hid aI;have b4:=hid bV;rw [<-an];clear an aB aQ aI bV aM d0 d1 d2 d3 d5
   refine wpIn_rangeFunc_ownF (α := BackP bs[b].fin.to) rfl (by decide) (gf := 152) (lb := #[.pointer (some ⟨W.heap.size, 0, none⟩)]) rfl trivial (enters_of Tryz.func152 (by kernel_rfl) rfl)
    (aki Fence.wide (6 - 1) trivial rfl (by decide) W.heap.size Wk.heap.size (fun k => k = OB ∨ k = LC ∨ v.ownBlock = some k) ta tc bs[b].fin.to Wk Wk (by omega) b9
      ⟨by omega, fun h => by
        rcases h with h | h | h
        . omega
        . omega
        . have := (ajT ag.out.own h).2; omega⟩ (Below.refl _ _) ak)
    (fun h k=>ahv h k) (alW (Aad _)) (Below.refl _ _) (fun _=>rfl)
    (fun pre V=>∃v',ale w0 OB LC base V (acT bs f (pre.map numOf) (s.1.set b true,s.2)) v'∧amM OB LC Wk V v v')
    (fun _ _ _=>False)
    ?hI ?hIx ?h0 (fun x=>{ tmps:=#[(.int .i64 (b:Int)),(.pointer (some ⟨SC,0,none⟩)),(.pointer (some ⟨FC,0,none⟩)),(.pointer (some ⟨VC,0,none⟩)),(.pointer (some ⟨LC,0,none⟩)),undef,undef,(.int .i64 x.1.2),(.slice (some ⟨OB,0,none⟩) n n),(.int .i64 (b:Int)),(.pointer (some ⟨OB,b,none⟩)),(.pointer (some ⟨FC,3,none⟩)),(.slice (some ⟨xb,ax,none⟩) n bc),(.int .i64 (b:Int)),(.pointer (some ⟨xb,ax+b * 6,none⟩)),(.pointer (some ⟨xb,ax+b * 6+2,none⟩)),(.pointer (some ⟨xb,ax+b * 6+2+3,none⟩)),(.slice ta bs[b].fin.to.length tc),(.func (.func 152) #[] #[.pointer (some ⟨W.heap.size,0,none⟩)]),(.int .i64 (x.1.1:Int)),(.int .i64 x.1.2),undef,undef,undef,undef,undef,undef,undef,undef,undef,undef,undef,undef],defers:=[] }) ?assign ?body ?done ?stop
   case hI =>
    rintro pr A B row ⟨v',ad,ay⟩ hg hr;have aH:∀r,row=some r->Wk.heap.size<=r:=fun r e=>(hr r e).1;have cu:=ad.size;refine⟨v',⟨Aag ad.size hg.size,fun k h1 h2 h3=>?_,⟨hg.os.trans ad.env.1,hg.tape.trans ad.env.2.1,hg.output.trans ad.env.2.2⟩,?_,?_,?_⟩,⟨Aag ay.size hg.size,fun k h1 h2 h3 h4=>?_,ay.row⟩⟩
    . rw [hg.block k (by omega) (fun e=>by have:=aH k e.symm;omega)];exact ad.keep k h1 h2 h3
    . rw [hg.block OB (by omega) (fun e=>by have:=aH OB e.symm;omega)];exact ad.row
    . rw [hg.block LC (by omega) (fun e=>by have:=aH LC e.symm;omega)];exact ad.cell
    . refine⟨ad.own.1.kept hg ?_,ad.own.2⟩
      rcases ad.own.1.2 with⟨rfl,-⟩ | ⟨g',cap,cur,rfl,-,h2,-⟩
      . exact .inl rfl
      . refine .inr (fun e=>?_)
        obtain⟨-,o,ho,hc⟩:=hr g' e.symm;rw [h2] at ho;cases ho;cases hc
    . rw [hg.block k (Aap h1 ay.size) (fun e=>by have:=aH k e.symm;omega)];exact ay.keep k h1 h2 h3 h4
   case hIx=>exact fun _ _ _ _ _ h _ _=>h
   case h0=>exact⟨v,bg.out,amM.refl _ _ _ _⟩
   case assign =>
    intro l x V K hK;unfold ap2
    gi_wp2
    exact hK
   case body =>
    rintro l pre x V ⟨v',ad,ay⟩ _;obtain⟨k1,k2,k3⟩:=ahG bs f (aiF bs f) (pre.map numOf) (s.1.set b true,s.2) (by dsimp only;omega);obtain⟨s',aL⟩:∃s',s'=acT bs f (pre.map numOf) (s.1.set b true,s.2):=⟨_,rfl⟩
    have aN:Hid (acT bs f ((pre++[x]).map numOf) (s.1.set b true,s.2)=if s'.1.getD (numOf x).toNat true=true then s' else abG bs f (numOf x).toNat s'):=by
     show _=_;rw [Aav,aL];exact ak7 bs f (pre.map numOf) (numOf x) _
    rw [<-aL] at ad k1 k2 k3;dsimp only at k1 k2 k3;rw [List.length_set,bm] at k3;have bp:=(bC.out b _ (Aaa aZ)).2 _ (al7 x);obtain⟨xv,bt⟩:∃xv,xv=x.1.2:=⟨_,rfl⟩
    have aR:numOf x=xv:=bt.symm;rw [aR] at bp aN;rw [<-bt];obtain⟨t,rfl⟩:=Aas bp.1;rw [Aaj] at aN;have aV:t<n:=by omega
    have c0:=ad.cellOf cS hS.1 hS.2.1 hS.2.2;have c1:=ad.cellOf cV hV.1 hV.2.1 hV.2.2;have c2:=ad.seen (i:=t) (by rw [k3];exact aV);have aw:=hid ad;have aX:=hid ay;have bl:s'.1.getD t true=s'.1[t]'(by rw [k3];exact aV):=by rw [Aac,Aaa (by rw [k3];exact aV)];rfl
    obtain⟨q,hq⟩:∃q,s'.1[t]'(by rw [k3];exact aV)=q:=⟨_,rfl⟩
    rw [hq] at c2 bl;rw [bl] at aN;have bR:s'.1[t]?=some q:=by rw [Aaa (by rw [k3];exact aV),hq]
    have bY:=hid k1;have bZ:=hid k2;have bd:=hid k3;have Hq:=hid bR;clear ad ay aL bt aR bl hq bR k1 k2 k3 bp;cases q with
    | true =>
      gi_wp2
      exact⟨KeepsOthers.refl _,adi.refl _ _ _,v',by rw [aN.out,if_pos trivial];exact aw.out,aX.out⟩
    | false =>
      gi_wp2_with (refine⟨trivial,?_⟩;gi_at_call 138;refine (CallsIn.inRound l (callsIn_wide.2 (Ih.out t s' v' V aw.out bd.out Hq.out (by have:=bZ.out;omega) (by have:=bY.out;omega)))).mono ?_;rintro e V' ⟨⟨u,rfl⟩,cq,aU,ar⟩)
      have bO : KeepsOthers V V' := ⟨ar.size, fun k o hk hc => by
       have aK : k < V.heap.size := (Aax.1 hk).1
       rw [ar.keep k aK (fun e => by rw [e, aw.out.row] at hk; cases hk; cases hc) (fun e => by rw [e, aw.out.cell] at hk; cases hk; cases hc) (fun e => by
        rcases aw.out.own.1.2 with ⟨rfl, -⟩ | ⟨g', cap, cur, rfl, -, h2, -⟩
        . cases e
        . cases e; rw [h2] at hk; cases hk; cases hc)]
       exact hk⟩
      have bN : adi Wk.heap.size (fun k => k = OB ∨ k = LC ∨ v.ownBlock = some k) V V' := ⟨ar.size, fun k h1 h2 => ar.keep k (Aap h1 aX.out.size) (fun e => h2 (.inl e)) (fun e => h2 (.inr (.inl e))) (fun e => by
       rcases aX.out.row k e with h3 | h3
       . exact h2 (.inr (.inr h3))
       . omega)⟩
      have b1:=hid bO;have b0:=hid bN;have bh:=hid aU;have bj:=hid ar;clear bO bN aU ar
      gi_wp2
      exact⟨b1.out,b0.out,cq,by rw [aN.out,if_neg (by simp)];exact bh.out,aX.out.trans bj.out⟩
   case done =>
    rintro D xs V hD aW ⟨v',ad,ay⟩ hd;obtain⟨j1,j2,j3⟩:=ahG bs f (aiF bs f) (xs.map numOf) (s.1.set b true,s.2) (by dsimp only;omega);have bD:Hid (abG bs (f+1) b s=((acT bs f (xs.map numOf) (s.1.set b true,s.2)).1,(acT bs f (xs.map numOf) (s.1.set b true,s.2)).2++[(b:Int)])):=by
     show _=_;rw [adb,aW];have e:ab6 bs b=bs[b].fin.to:=by unfold ab6;rw [Aaa aZ]
     rw [e]
    obtain⟨s',aL⟩:∃s',s'=acT bs f (xs.map numOf) (s.1.set b true,s.2):=⟨_,rfl⟩
    rw [<-aL] at ad j1 j2 j3 bD;dsimp only at j1;have hlen:s'.2.length+1<=n:=by omega
    obtain⟨i0,hi,bu,bw,bx⟩:=info_parts afA;obtain⟨aC,aD,cm⟩:=ad.own.shape;subst cm;have cf:=ad.left;have ca:V.frozen? ⟨LC,0,none⟩=false:=by simp [World.frozen?,ad.cell]
    have zV:base<=V.heap.size:=ad.size;have zL:LC<V.heap.size:=by omega
    have aj:=hid ad;have az:=hid ay;have aE:Hid ((V.alloc (.cells #[.int .i64 (b:Int)] 3)).ownsRow base 3 1 (.slice aC s'.2.length aD) s'.2.length (s'.2.map fun x=>Value.int .i64 x)):=ad.own.1.alloc _;have Hd:=hid hd;clear ad ay aL j2 j3 aW hd
    gi_wp2_with (gi_at_builtin;refine wpListIn_append_own_at _ rfl _ _ 26 rfl base 3 i0 (.int .i64 0) 1 8 Tryz.underlying26 hi bu bw bx rfl (by decide) _ _ _ rfl aE.out ⟨V.heap.size,0,none⟩ 1 1 [.int .i64 (b:Int)] rfl rfl (cell_one_new _ _ _) ?_ ?_ ?_ ?_ ?_)
    . intro u hu;simp at hu;subst hu;rfl
    . unfold maxLen;omega
    . omega
    . simp;omega
    . intro v9 w9 af ae aG aY
      obtain⟨g,cap,rfl,cb,cc⟩:=acm af;have al:∀r,(Value.slice aC s'.2.length aD).ownBlock=some r->base<=r∧∃o:Obj,V.heap[r]?=some o∧o.isCells=true:=fun r e=>by
       rcases aj.out.own.1.2 with⟨h1,-⟩ | ⟨g',cap',cur,h1,h2,h3,-⟩
       . rw [h1] at e;cases e
       . rw [h1] at e;cases e;exact⟨h2,_,h3,rfl⟩
      have aF:∀k,k<V.heap.size->(Value.slice aC s'.2.length aD).ownBlock≠some k->w9.heap[k]?=V.heap[k]?:=fun k h1 h2=>by
       rw [ae.block k (by simp;omega) (fun e=>h2 e.symm),Below.heap_alloc _ _ _ h1]
      have aA:w9.heap[LC]?=some (.cells #[.slice aC s'.2.length aD] 26 (0,0)):=by
       rw [aF LC zL (fun e=>by have:=(al LC e).1;omega)];exact aj.out.cell
      have c9:w9.cell? ⟨LC,0,none⟩=some (.slice aC s'.2.length aD):=by simp [World.cell?,aA]
      have f9:w9.frozen? ⟨LC,0,none⟩=false:=by simp [World.frozen?,aA]
      have au:=hid af;have ai:=hid ae;have bW:=hid aY;have be:=hid aF;have a7:=hid aA;have av:=hid al;clear af ae aG aY aF aA al cf ca
      gi_wp2
      obtain⟨W9,ao⟩:∃W9,W9=w9.setCell ⟨LC,0,none⟩ (.slice (some ⟨g,0,none⟩) (s'.2.length+1) cap):=⟨_,rfl⟩
      rw [<-ao];have cj:W9.heap.size=w9.heap.size:=by rw [ao];simp [World.setCell]
      have bq:V.heap.size+1<=w9.heap.size:=by have:=ai.out.size;simpa using this
      have aq:∀k,k<V.heap.size->k≠LC->(Value.slice aC s'.2.length aD).ownBlock≠some k->W9.heap[k]?=V.heap[k]?:=fun k h1 h2 h3=>by
       rw [ao,Below.heap_setCell _ _ _ _ (by dsimp only;exact h2)];exact be.out k h1 h3
      have bS:∀k,k<base->(Value.slice aC s'.2.length aD).ownBlock≠some k:=fun k h1 e=>by have:=(av.out k e).1;omega
      have bF:D<V.heap.size:=(Aax.1 Hd.out).1;have b7:W9.heap[D]?=some (.deferred (some [])):=by
       rw [aq D bF (by omega) (fun e => by
        obtain ⟨-, o, ho, hc⟩ := av.out D e
        rw [Hd.out] at ho
        cases ho
        cases hc)]
       exact Hd.out
      have cz:=az.out.size;refine aff (B:=Wk.heap.size) (C:=D+1) _ _ (by omega) ((ahJ.nil Wk.heap.size D W9).cons (Aad _) hD (by omega) b7) (fun W' hW=>?_);have cA:=hW.1.size;refine⟨.tuple #[],results_none rfl _ _ _,⟨_,rfl⟩,.slice (some ⟨g,0,none⟩) (s'.2.length+1) cap,?_,?_⟩
      . rw [bD.out]
        refine⟨by omega,fun k h1 h2 h3=>?_,⟨?_,?_,?_⟩,?_,?_,?_⟩
        . rw [hW.1.block k (by omega),aq k (by omega) h3 (bS k h1)];exact aj.out.keep k h1 h2 h3
        . rw [hW.1.os,ao];exact ai.out.os.trans aj.out.env.1
        . rw [hW.1.tape,ao];exact ai.out.tape.trans aj.out.env.2.1
        . rw [hW.1.output,ao];exact ai.out.output.trans aj.out.env.2.2
        . rw [hW.1.block OB (by omega),aq OB (by omega) bH (bS OB hO)];exact aj.out.row
        . rw [hW.1.block LC (by omega),ao,aay a7.out];rfl
        . obtain⟨q1,q2⟩:=au.out
          rcases q2 with⟨h,-⟩ | ⟨g',cap',cur,e,q3,q4,q5,q6,q7,q8⟩
          . cases h
          . cases e
            refine⟨⟨by simp,.inr ⟨g,cap,cur,by simp,q3,hW.2 _ _ _ _ (by rw [ao,Below.heap_setCell _ _ _ _ (by dsimp only;omega)];exact q4),by simpa using q5,q6,q7,?_⟩⟩,fun x hx=>?_⟩
            . rw [Aai,Aa5,q8,Aav];rfl
            . rcases Aaz.1 hx with hx | hx
              . exact aj.out.own.2 x hx
              . rw [Aaq] at hx
                subst hx;unfold I64;omega
      . refine⟨by omega,fun k h1 h2 h3 h4=>?_,fun r hr=>?_⟩
        . have cg:(Value.slice aC s'.2.length aD).ownBlock≠some k:=fun e=>by
           rcases az.out.row k e with h | h
           . exact h4 h
           . omega
          rw [hW.1.block k (by omega),aq k (by omega) h3 cg,az.out.keep k (by omega) h2 h3 h4];exact b4.out.keep k h1 h2 h3 h4
        . rcases bW.out with h | h
          . rcases az.out.row r (h.symm.trans hr) with h5 | h5
            . exact .inl h5
            . exact .inr (by omega)
          . rw [h] at hr
            cases hr;exact .inr (by first | omega | (simp;omega) | (rw [World.size_alloc];omega))
   case stop=>exact fun _ _ _ _ _ _ h _=>h.elim
end
section
open Go.RowKit Go.Shelf
attribute [local go_sem] Oper.semAt_some
def ap3(x:Int):Array Value:=#[.int .i64 x]
theorem amG(F:Fence)(n:Nat)(h:F.fn 146)(aS:F.round=none)(a:Option Addr)(m c:Nat)(w:World) :
 CallsIn F n Tryz.prog 146 #[.slice a m c] w fun e w'=>e = .returned (.func (.func 155) #[] #[.pointer (some ⟨w.heap.size,0,none⟩)])∧w'=w.alloc (.cells #[.slice a m c] 26):=by
 refine callsIn_of_wp Tryz.func146 rfl h ?_ aS;simp only [Tryz.ntmps146,List.size_toArray,Aao,Abn,Nat.reduceAdd,Nat.reduceSub,Array.replicate_succ,Array.replicate_zero,List.push_toArray,List.append_toArray,Abf,List.cons_append]
 gi_wp2
 go_ret;exact⟨rfl,rfl⟩
theorem ak5 (F : Fence) (n : Nat) (h : F.fn 155) (aS : F.round = none) (hn : 1 <= n) (l Bs n₀ : Nat) (X : Nat -> Prop) (a : Option Addr) (c : Nat) (L : List Int) (W0 : World)
 (hL:L.length<=1048576) (hb:SlAt (fun b=>b<n₀∧¬X b) W0 1 aaO (.slice a L.length c) L) (_hBn:Bs<n₀∧¬X Bs)
 (J Jx:List Int->World->Prop)
 (hY : ∀ pre x W1, J pre W1 -> pre.length < L.length -> YieldAt F (n - 1) Tryz.prog l (ap3 x) W1 fun e W' =>
   (e = .returned (.bool true) ∧ J (pre ++ [x]) W' ∧ adi n₀ X W1 W') ∨ (e = .returned (.bool false) ∧ Jx (pre ++ [x]) W'))
 (W:World) (hW:Below W0.heap.size W0 W) (ak:W.cell? ⟨Bs,0,none⟩=some (.slice a L.length c)) (h0:J [] W) :
 CallsIn F n Tryz.prog 155 #[.func (.yield l) #[] #[],.pointer (some ⟨Bs,0,none⟩)] W fun e W'=>(∃v,e = .returned v) ∧
  (J L W'∨(∃pre:List Int,pre <+: L∧Jx pre W')):=by
 have Hb:=hid hb;have HY:=hid hY;have HW:=hid hW;have bz:=hid ak;have zB:Bs<W.heap.size:=aac ak;clear hb hY hW;refine callsIn_of_wp Tryz.func155 rfl h ?_ aS;simp only [Tryz.ntmps155,List.size_toArray,Aao,Abn,Nat.reduceAdd,Nat.reduceSub,Array.replicate_succ,Array.replicate_zero,List.push_toArray,List.append_toArray,Abf,List.cons_append]
 gi_wp2
 clear ak
 gi_loopw [7] (fun i wr=>∃(k:Nat),k<=L.length∧i = .int .i64 (k:Int)∧J (L.take k) wr∧adi n₀ X W wr) (fun i _=>L.length - (intOf i).toNat)
 case atStart=>exact⟨0,Aah _,rfl,h0,adi.refl _ _ _⟩
 case round =>
  obtain⟨k,hk,rfl,hJ,bP⟩:=hrel;have HJ:=hid hJ;have bA:=hid bP;clear hJ bP
  by_cases aK:k<L.length
  . obtain⟨xb,ax,cs,br,aJ,⟨rfl,-⟩,-,aP⟩:=Hb.out.get aK
    subst br;have hd:=aP.get1;rw [Aan] at hd;obtain⟨y,hy⟩:∃y,y=L[k]:=⟨_,rfl⟩
    rw [<-hy] at hd;have d0:=bA.out.cell (aab hd HW.out) aJ.1 aJ.2;have zx:xb<wr.heap.size:=aac d0;have ag:Hid (L.take (k+1)=L.take k++[y]):=by show _=_;rw [Aat aK,hy]
    obtain⟨fn,tmps,assign,body,cp,hR⟩:=HY.out (L.take k) y wr HJ.out (by rw [Aar];omega);rw [show ap3 y=#[.int .i64 y] from rfl] at cp;have HR:=hid hR;have b2:Hid (L.take k++[y] <+: L):=by
     have h:=List.take_prefix (k+1) L;rw [ag.out] at h;exact h
    clear aP hR hd hy
    gi_wp2
    refine HR.out.mono ?_;rintro e W3 (⟨rfl,bG,bM⟩ | ⟨rfl,aO⟩)
    . have a6:=hid bG
      have bd:=hid (ahv bA.out bM);clear bG bM
      gi_wp2
      go_roundw
      case rel=>exact⟨k+1,by omega,by go_num,by rw [ag.out];exact a6.out,bd.out⟩
      case measure=>simp [intOf];omega
    . have a6:=hid aO
      clear aO
      gi_wp2
      refine bodyPost_ret (results_none rfl _ _ _) rfl ?_;exact⟨⟨_,rfl⟩,.inr ⟨_,b2.out,a6.out⟩⟩
  . have a8:Hid (L.take k=L):=Aby (by omega)
    gi_wp2
    go_end0;exact⟨⟨_,rfl⟩,.inl (by have h:=HJ.out;rw [a8.out] at h;exact h)⟩
theorem aiE (F : Fence) (n : Nat) (h : F.fn 155) (aS : F.round = none) (hn : 1 <= n) (Bs n₀ : Nat) (X : Nat -> Prop) (a : Option Addr) (c : Nat) (L : List Int) (W0 w : World)
 (hL:L.length<=1048576) (hb:SlAt (fun b=>b<n₀∧¬X b) W0 1 aaO (.slice a L.length c) L) (b6:Bs<n₀∧¬X Bs) (h0:Below W0.heap.size W0 w) (ak:w.cell? ⟨Bs,0,none⟩=some (.slice a L.length c)) :
 SeqStopsK F n Tryz.prog 155 #[.pointer (some ⟨Bs,0,none⟩)] ap3 (adi n₀ X) (fun ys=>ys=L) (fun pre=>pre <+: L) L.length w :=
 fun l J Jx W hW _ _ hY b8 =>
  (ak5 F n h aS hn l Bs n₀ X a c L W0 hL hb b6 J Jx hY W (h0.trans (hW.mono h0.size)) (aab ak hW) b8).mono fun _ _ ⟨h1,h2⟩=>⟨h1,h2.imp (fun h=>⟨_,rfl,h⟩) id⟩
structure ap0 (w W:World)(BX:Nat)(l:List Int)(v:Value):Prop where
 old:Below w.heap.size w W
 lo:w.heap.size<=BX
 box:W.heap[BX]?=some (.cells #[v] 26 (0,0))
 own:W.ownsRow (BX+1) 3 1 v l.length (l.map (Value.int .i64))
theorem ap0.lt {w W:World}{BX:Nat}{l:List Int}{v:Value}(h:ap0 w W BX l v):BX<W.heap.size:=(Aax.1 h.box).1
theorem ahs:(Tryz.prog.info? 3).map (fun i=>(i.zero,i.size,i.bytes))=some (some (.int .i64 0),1,8):=by kernel_rfl
theorem ahf(Bs:Nat)(a:Option Addr)(c:Nat)(L:List Int)(w:World)(hL:L.length<=1048576)(hb:SlAt (fun b=>b<w.heap.size) w 1 aaO (.slice a L.length c) L)(ak:w.cell? ⟨Bs,0,none⟩=some (.slice a L.length c)) :
 Calls Tryz.prog 177 #[.slice none 0 0,.func (.func 155) #[] #[.pointer (some ⟨Bs,0,none⟩)]] w fun e w' =>
  ∃v,e = .returned v∧w'.ownsRow w.heap.size 3 1 v L.length (L.map (Value.int .i64))∧Below w.heap.size w w':=by
 have Hb:=hid hb;have bz:=hid ak;have cr:Bs<w.heap.size:=aac ak;clear hb ak;obtain⟨i0,hi,bu,bw,bx⟩:=info_parts ahs;refine (callsIn_wide (n:=6)).1 ?_;refine callsIn_of_wp_marks Tryz.func177 rfl trivial ?_ rfl;simp only [Tryz.ntmps177,List.size_toArray,Aao,Abn,Nat.reduceAdd,Nat.reduceSub,Array.replicate_succ,Array.replicate_zero,List.push_toArray,List.append_toArray,Abf,List.cons_append]
 gi_wp2
 obtain⟨Wk,an⟩:∃Wk,Wk=w.alloc (.cells #[.slice none 0 0] 26):=⟨_,rfl⟩
 have ck:Wk.heap.size=w.heap.size+1:=by rw [an];simp
 have bk:Below w.heap.size w Wk:=by rw [an];exact bE
 have aT:ap0 w Wk w.heap.size [] (.slice none 0 0):=⟨bk,Aad _,by rw [an];exact heap_alloc_new _ _,World.ownsRow_nil _ _ _ _⟩
 have bf:=hid aT;rw [<-an];clear an aT
 refine wpIn_rangeFunc_ownF (α := Int) rfl (by decide) (gf := 155) (lb := #[.pointer (some ⟨Bs, 0, none⟩)]) rfl trivial (enters_of Tryz.func155 (by kernel_rfl) rfl)
  (aiE Fence.wide (6 - 1) trivial rfl (by decide) Bs w.heap.size (fun _=>False) a c L w Wk hL (Hb.out.mono aae (fun k hk=>⟨hk,fun h=>h⟩) (aav.refl _ _)) ⟨cr,fun h=>h⟩ bk (aab bz.out bk))
  (fun h k=>ahv h k) (alW (by omega)) (Below.refl _ _) (fun _=>rfl)
  (fun pre V=>∃v,ap0 w V w.heap.size pre v)
  (fun _ _ _=>False)
  ?hI ?hIx ?h0 (fun x=>{ tmps:=#[.slice none 0 0,(.func (.func 155) #[] #[.pointer (some ⟨Bs,0,none⟩)]),.pointer (some ⟨w.heap.size,0,none⟩),undef,.slice none 0 0,.int .i64 x,(.func (.func 155) #[] #[.pointer (some ⟨Bs,0,none⟩)]),.int .i64 x,undef,undef,undef,undef,undef],defers:=[] }) ?assign ?body ?done ?stop
 case hI =>
  rintro pr A B row ⟨v',ad⟩ hg hr;have aH:∀r,row=some r->Wk.heap.size<=r:=fun r e=>(hr r e).1;have hz:=ad.lt;refine⟨v',ad.old.grown hg ad.old.size (fun k e=>by have:=aH k e;omega),ad.lo,?_,ad.own.kept hg ?_⟩
  . rw [hg.block w.heap.size hz (fun e=>by have:=aH _ e.symm;omega)];exact ad.box
  . rcases ad.own.2 with⟨rfl,-⟩ | ⟨g',cap,cur,rfl,-,h2,-⟩
    . exact .inl rfl
    . refine .inr (fun e=>?_)
      obtain⟨-,o,ho,hc⟩:=hr g' e.symm;rw [h2] at ho;cases ho;cases hc
 case hIx=>exact fun _ _ _ _ _ h _ _=>h
 case h0=>exact⟨_,bf.out⟩
 case assign =>
  intro l x V K hK;unfold ap3
  gi_wp2
  exact hK
 case body =>
  rintro l pre x V ⟨v',ad⟩ bQ;have bL:V.cell? ⟨w.heap.size,0,none⟩=some v':=by simp [World.cell?,ad.box]
  have hz:=ad.lt;have ag:=hid ad;have bB:=hid bQ;have aE:Hid ((V.alloc (.cells #[.int .i64 x] 3)).ownsRow (w.heap.size+1) 3 1 v' pre.length (pre.map (Value.int .i64))):=ad.own.alloc _;obtain⟨va,vc,hv⟩:∃va vc,v' = .slice va pre.length vc:=by
   rcases ad.own.2 with⟨rfl,h0⟩ | ⟨g',cap,cur,rfl,-⟩
   . exact⟨none,0,by rw [h0]⟩
   . exact⟨_,_,rfl⟩
  subst hv;clear ad bQ
  gi_wp2_with (gi_at_builtin;refine wpListIn_append_own_at _ rfl _ _ 26 rfl (w.heap.size+1) 3 i0 (.int .i64 0) 1 8 Tryz.underlying26 hi bu bw bx rfl (by decide) _ _ _ rfl aE.out ⟨V.heap.size,0,none⟩ 1 1 [.int .i64 x] rfl rfl (cell_one_new _ _ _) ?_ ?_ ?_ ?_ ?_)
  . intro u hu;simp at hu;subst hu;rfl
  . have:=bB.out;unfold maxLen;omega
  . have:=bB.out;omega
  . simp;omega
  . intro v9 w9 af ae aG aY
    obtain⟨g,cap,rfl,cb,cc⟩:=acm af;have al:∀r,(Value.slice va pre.length vc).ownBlock=some r->w.heap.size+1<=r∧∃o:Obj,V.heap[r]?=some o∧o.isCells=true:=fun r e=>by
     rcases ag.out.own.2 with⟨h1,-⟩ | ⟨g',cap',cur,h1,h2,h3,-⟩
     . rw [h1] at e;cases e
     . rw [h1] at e;cases e;exact⟨h2,_,h3,rfl⟩
    have aF:∀k,k<V.heap.size->(Value.slice va pre.length vc).ownBlock≠some k->w9.heap[k]?=V.heap[k]?:=fun k h1 h2=>by
     rw [ae.block k (by simp;omega) (fun e=>h2 e.symm),Below.heap_alloc _ _ _ h1]
    have aA:w9.heap[w.heap.size]?=some (.cells #[.slice va pre.length vc] 26 (0,0)):=by
     rw [aF _ hz (fun e=>by have:=(al _ e).1;omega)];exact ag.out.box
    have c9:w9.cell? ⟨w.heap.size,0,none⟩=some (.slice va pre.length vc):=by simp [World.cell?,aA]
    have f9:w9.frozen? ⟨w.heap.size,0,none⟩=false:=by simp [World.frozen?,aA]
    have bI:Below w.heap.size w w9:=(ag.out.old.alloc ag.out.old.size _).grown ae (by have:=ag.out.old.size;simp;omega) (fun k e=>by have:=(al k e).1;omega);have bX:=hid bI;have au:=hid af;have ai:=hid ae;have be:=hid aF;have a7:=hid aA;have av:=hid al;clear af ae aG aY aF aA al bL bI
    gi_wp2
    obtain⟨W9,ao⟩:∃W9,W9=w9.setCell ⟨w.heap.size,0,none⟩ (.slice (some ⟨g,0,none⟩) (pre.length+1) cap):=⟨_,rfl⟩
    rw [<-ao];have cj:W9.heap.size=w9.heap.size:=by rw [ao];simp [World.setCell]
    have bq:V.heap.size+1<=w9.heap.size:=by have:=ai.out.size;simpa using this
    have aq:∀k,k<V.heap.size->k≠w.heap.size->(Value.slice va pre.length vc).ownBlock≠some k->W9.heap[k]?=V.heap[k]?:=fun k h1 h2 h3=>by
     rw [ao,Below.heap_setCell _ _ _ _ (by dsimp only;exact h2)];exact be.out k h1 h3
    refine⟨⟨by omega,fun k o hk hc=>?_⟩,⟨by omega,fun b h1 _=>?_⟩,.slice (some ⟨g,0,none⟩) (pre.length+1) cap,?_,Aad _,?_,?_⟩
    . have aK:k<V.heap.size:=(Aax.1 hk).1
      rw [aq k aK (fun e => by rw [e, ag.out.box] at hk; cases hk; cases hc) (fun e => by
       obtain ⟨-, o', ho, bK⟩ := av.out k e
       rw [hk] at ho
       cases ho
       rw [hc] at bK
       cases bK)]
      exact hk
    . exact aq b (by omega) (by omega) (fun e=>by have:=(av.out b e).1;omega)
    . rw [ao];exact bX.out.setCell (p:=⟨w.heap.size,0,none⟩) (Aad _) _
    . rw [ao,aay a7.out];rfl
    . rw [ao,Aai,Aa5,Aav]
      exact ownsRow_setCell_below (a:=⟨w.heap.size,0,none⟩) au.out (by dsimp only;omega) _
 case done =>
  rintro D xs V hD aW ⟨v',ad⟩ hd;have bL:V.cell? ⟨w.heap.size,0,none⟩=some v':=by simp [World.cell?,ad.box]
  have ag:=hid ad;have Hd:=hid hd;have b5:=hid aW;have hz:=ad.lt;have bF:D<V.heap.size:=(Aax.1 hd).1;clear ad hd aW
  gi_wp2
  refine aff (B:=Wk.heap.size) (C:=D+1) _ _ (by omega) ((ahJ.nil Wk.heap.size D V).cons (Aad _) hD (by omega) Hd.out) (fun W' hW=>?_);have bo:Tryz.f177.results=#[.tmp 4]:=rfl;refine⟨v',by unfold results;rw [bo];simp [go_sem],v',rfl,?_,ag.out.old.trans (hW.1.mono (by omega))⟩;have cn:xs=L:=b5.out;subst cn;have h:=ag.out.own;refine⟨h.1,?_⟩;rcases h.2 with h1 | ⟨g,cap,cur,e,h2,h3,h4⟩
  . exact .inl h1
  . exact .inr ⟨g,cap,cur,e,by omega,hW.2 _ _ _ _ h3,h4⟩
 case stop=>exact fun _ _ _ _ _ _ h _=>h.elim
theorem aiS(Bs:Nat)(a:Option Addr)(c:Nat)(L:List Int)(w:World)(hL:L.length<=1048576)(hb:SlAt (fun b=>b<w.heap.size) w 1 aaO (.slice a L.length c) L)(ak:w.cell? ⟨Bs,0,none⟩=some (.slice a L.length c)) :
 Calls Tryz.prog 154 #[.func (.func 155) #[] #[.pointer (some ⟨Bs,0,none⟩)]] w fun e w' =>
  ∃v,e = .returned v∧w'.ownsRow w.heap.size 3 1 v L.length (L.map (Value.int .i64))∧Below w.heap.size w w':=by
 have Hc:=hid (ahf Bs a c L w hL hb ak);clear hb ak;go_enter Tryz.func154,Tryz.ntmps154;go_wp2_with (go_at_call 177;refine Hc.out.mono ?_;rintro e w1 ⟨v,rfl,h1,h2⟩;have H1:=hid h1;have H2:=hid h2;clear h1 h2);go_ret;exact⟨_,rfl,H1.out,H2.out⟩
theorem akX(Bs:Nat)(a:Option Addr)(c:Nat)(L:List Int)(w:World)(hL:L.length<=1048576)(hb:SlAt (fun b=>b<w.heap.size) w 1 aaO (.slice a L.length c) L)(ak:w.cell? ⟨Bs,0,none⟩=some (.slice a L.length c)) :
 Calls Tryz.prog 145 #[.func (.func 155) #[] #[.pointer (some ⟨Bs,0,none⟩)]] w fun e w' =>
  ∃v,e = .returned v∧aaz w.heap.size w' v (adl L)∧Below w.heap.size w w':=by
 have Hc:=hid (aiS Bs a c L w hL hb ak);have hi:∀x∈L,I64 x:=by
  intro x hx;obtain⟨k,hk,rfl⟩:=Aa1 hx;obtain⟨_,_,cs,_,_,⟨_,h1⟩,_⟩:=hb.get hk;exact h1
 have Hi:=hid hi;clear hb ak hi;go_enter Tryz.func145,Tryz.ntmps145
 go_wp2_with (first
  | (go_at_call 154; refine Hc.out.mono ?_; rintro e w1 ⟨v, rfl, h1, h2⟩; have H1 : Hid (aaz w.heap.size w1 v L) := ⟨h1, Hi.out⟩; have H2 := hid h2; clear h1 h2)
  | (go_at_call 124; refine (aj7 H1.out hL).mono ?_; rintro e w2 ⟨rfl, h3, h4⟩; have H3 := hid h3; have H4 := hid h4; clear h3 h4))
 go_ret;exact⟨_,rfl,H3.out,H2.out.grown H4.out H2.out.size (fun g hg=>(ajT H1.out hg).1)⟩
end
end Go.Proofs.YtnkfdeiigplhoaaGreatDoor
