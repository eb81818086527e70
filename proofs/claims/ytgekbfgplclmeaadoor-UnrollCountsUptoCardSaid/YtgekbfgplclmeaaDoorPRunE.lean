import Derived.Test.YtgekbfgplclmeaaDoorPRunM
import Derived.Test.YtgekbfgplclmeaaDoorPRowOps
/- The walker's methods: top, val, stop, set. The walker enters a function. -/
set_option maxHeartbeats 2000000
set_option maxRecDepth 100000
namespace Go.Proofs.YtgekbfgplclmeaaDoor
section
open Go.RowKit Go.Sort
section
variable {u : aax} {G F A : Value} {S : Nat -> Prop} {W0 : World} {base WB : Nat} {W : World} {V : WPth -> Value} {iv : Value} {s : RnS}
theorem aeT(h:aaG u G F A S W0 base WB W V iv s){n g c:Nat}(hv:V .frs = .slice (some ⟨g,0,none⟩) (n+1) c)(hn:n+1<=30) :
 Calls Tryd.prog 43 #[.pointer (some ⟨WB,0,none⟩)] W fun e w'=>e = .returned (.pointer (some ⟨g,n * 5,none⟩))∧Below W.heap.size W w':=by
 obtain⟨-,-,hc,-⟩:=h.boxAt;have c9:=hc 9 _ rfl;rw [Aac,hv] at c9;have zb:=aac c9;have ch:(0:Int)<=(n:Int):=by omega
 have hw:IntKind.i64.wrap ((n:Int)+1 - 1)=(n:Int):=by rw [IntKind.wrap_i64];omega
 clear h hc hv;go_enter Tryd.func43,Tryd.ntmps43;go_wp2_with fail;go_quiet (fail);go_wp2_with fail;go_ret;exact⟨rfl,bE⟩
theorem ahQ(h:aaG u G F A S W0 base WB W V iv s){t:RnF}{r:List RnF}(ae:s.frs=t :: r)(hn:r.length+1<=30)(b:Bool)(x:Int)(hx:b=true->0<=x∧x<(t.regs.length:Int)) :
 Calls Tryd.prog 69 #[.pointer (some ⟨WB,0,none⟩),.agg #[.bool b,.int .i64 x]] W fun e w'=>e = .returned (.int .i64 (aaX t.regs ⟨b,x⟩))∧Below W.heap.size W w':=by
 obtain⟨W1,ai⟩:∃W1,W1=W.alloc (.cells #[.bool b,.int .i64 x] 42):=⟨_,rfl⟩
 have an:Below W.heap.size W W1:=by rw [ai];exact bE
 have bf:W1.heap[W.heap.size]?=some (.cells #[.bool b,.int .i64 x] 42 (0,0)):=by rw [ai];exact heap_alloc_new _ _
 obtain⟨x0,x1⟩:=(aar (cs:=[_,_]) bf).get2;rw [Aac] at x1;have h1:=h.later an;obtain⟨XB,aM⟩:∃XB,XB=W.heap.size:=⟨_,rfl⟩
 rw [<-aM] at x0 x1;have zX:=aac x0;have ax:=hid an;have HW:Hid (W1=W.alloc (.cells #[.bool b,.int .i64 x] 42)∧XB=W.heap.size):=⟨ai,aM⟩
 cases b with
 | false =>
   have Hr:Hid (aaX t.regs ⟨false,x⟩=x):=rfl;clear h h1 an bf ai aM hx;go_enter Tryd.func69,Tryd.ntmps69;go_upto_region 1 with (fail)
   rw [<-HW.out.1,<-HW.out.2];clear HW;go_wp2_with fail;go_ret;exact⟨aaq Hr.out.symm,ax.out⟩
 | true =>
   obtain⟨k,rfl⟩:∃k:Nat,x=(k:Int):=Aao (hx rfl).1;have hk:k<t.regs.length:=by have:=(hx rfl).2;omega
   obtain⟨RB,rc,hR,-,-,-,hc,-⟩:=h1.numAt (p := .regs r.length) (by rw [ae];exact Aa8 _) rfl (l:=t.regs) (by show aay (s.frs.reverse.getD r.length RnF.none).regs=_;rw [ae,abw]) (Aaa hk);obtain⟨g,fc,hv,-,-,-,aj,-⟩:=h1.topAt ae;have c3:=aj 3 _ rfl;rw [hR] at c3;have Hr:Hid (aaX t.regs ⟨true,(k:Int)⟩=t.regs[k]):=by
    show _=_;unfold aaX;rw [if_pos rfl,Aag,Aab,Aaa hk];rfl
   have bh:Hid (∀m d os,CallsIn Fence.wide m Tryd.prog 43 #[.pointer (some ⟨WB,0,none⟩)] (grow (redrawn W1 d) os) fun e b3=>e = .returned (.pointer (some ⟨g,r.length * 5,none⟩))∧∃p:Regrown,b3=grow (redrawn W1 p.d) p.os):=fun m d os =>
    CallsIn.regrown_of (callsIn_wide (n:=m).2 (aeT (h1.later (below_regrown W1 d os)) hv hn))
   obtain⟨n,az⟩:∃n,n=r.length:=⟨_,rfl⟩
   obtain⟨v,bF⟩:∃v,v=t.regs[k]:=⟨_,rfl⟩
   obtain⟨L,ay⟩:∃L,L=t.regs.length:=⟨_,rfl⟩
   rw [<-az] at c3 bh;rw [<-bF] at hc Hr;rw [<-ay] at c3 hk;have k0:=cell_regrown x0;have k1:=cell_regrown x1;have k2:=cell_regrown c3;have k3:=cell_regrown hc;have z1:=aac c3;have z2:=aac hc;have bV:(k:Int)<(L:Int):=by omega
   clear h h1 an bf ai aM hx ae hR hv aj az bF ay;go_enter Tryd.func69,Tryd.ntmps69;go_upto_region 1 with (fail)
   rw [<-HW.out.1,<-HW.out.2];clear HW;go_upto_region 2 with (fail)
   refine aaw (by kernel_rfl) (by kernel_rfl) ?_
   repeat (gi_big_quiet_step (fail))
   refine wpQuietIn_step (fun _ _ _ _=>trivial) (fun K hK=>?_);go_simp;refine⟨_,fun _=>bh.out _ _ _,hK _ ?_⟩;clear hK K
   repeat (gi_big_quiet_step (fail))
   refine wpQuietIn_nil ?_;intro W7 bZ;obtain⟨rg,bx⟩:=bZ;have bN:Below W1.heap.size W1 W7:=by rw [bx];exact below_regrown _ _ _
   clear bx k0 k1 k2 k3;go_wp2_with fail;go_ret;exact⟨aaq Hr.out.symm,ax.out.trans (bN.mono ax.out.size)⟩
theorem abR(h:aaG u G F A S W0 base WB W V iv s)(x:Int) :
 Calls Tryd.prog 26 #[.pointer (some ⟨WB,0,none⟩),.int .i64 x] W fun e w'=>e = .returned (.bool false)∧aaG u G F A S W0 base WB w' V iv (s.stop x):=by
 obtain⟨-,zb,hc,av⟩:=h.boxAt;have f5:=av 5 (by omega);have c5:=hc 5 _ rfl;rw [Aac] at c5;have H:=hid (h.putState x);clear h hc av;go_enter Tryd.func26,Tryd.ntmps26;go_wp2_with fail;go_ret;exact⟨rfl,H.out⟩
theorem ac4(h:aaG u G F A S W0 base WB W V iv s){t:RnF}{r:List RnF}(ae:s.frs=t :: r)(hn:r.length+1<=30)(d x:Int)(hd:d<(t.regs.length:Int)) :
 Calls Tryd.prog 70 #[.pointer (some ⟨WB,0,none⟩),.int .i64 d,.int .i64 x] W fun e w'=>e = .returned (.tuple #[])∧aaG u G F A S W0 base WB w' V iv { s with frs:={ t with regs:=adG t.regs d x } :: r }:=by
 by_cases h0:0<=d
 . obtain⟨k,rfl⟩:∃k:Nat,d=(k:Int):=Aao h0
   have hk:k<t.regs.length:=by omega
   have hs:adG t.regs (k:Int) x=t.regs.set k x:=by unfold adG;rw [if_pos h0,Aag]
   rw [hs];obtain⟨g,fc,hv,-⟩:=h.topAt ae;have HT:=hid (aeT h hv hn);obtain⟨RB,rc,hR,-⟩:=h.numAt (p := .regs r.length) (by rw [ae];exact Aa8 _) rfl (l:=t.regs) (by show aay (s.frs.reverse.getD r.length RnF.none).regs=_;rw [ae,abw]) (Aaa hk);have HF:Hid (∀W1,Below W.heap.size W W1->W1.cell? ⟨g,r.length * 5+3,none⟩=some (.slice (some ⟨RB,0,none⟩) t.regs.length rc)∧W1.frozen? ⟨RB,k,none⟩=false∧W1.cell? ⟨RB,k,none⟩=some (.int .i64 t.regs[k])∧aaG u G F A S W0 base WB (W1.setCell ⟨RB,k,none⟩ (.int .i64 x)) V iv { s with frs:={ t with regs:=t.regs.set k x } :: r }):=fun W1 hb=>by
    have h1:=h.later hb;obtain⟨g',b8,bD,-,-,-,aj,-⟩:=h1.topAt ae;rw [hv] at bD;cases bD;have c3:=aj 3 _ rfl;rw [hR] at c3;obtain⟨b7,ck,bl,-,-,-,aH,av⟩:=h1.numAt (p := .regs r.length) (by rw [ae];exact Aa8 _) rfl (l:=t.regs) (by show aay (s.frs.reverse.getD r.length RnF.none).regs=_;rw [ae,abw]) (Aaa hk);rw [hR] at bl;cases bl;exact⟨c3,av,aH,h1.putReg ae hR hk x⟩
   obtain⟨n,az⟩:∃n,n=r.length:=⟨_,rfl⟩
   obtain⟨L,ay⟩:∃L,L=t.regs.length:=⟨_,rfl⟩
   have bJ:Hid (∀W1,Below W.heap.size W W1->W1.cell? ⟨g,n * 5+3,none⟩=some (.slice (some ⟨RB,0,none⟩) L rc)∧W1.frozen? ⟨RB,k,none⟩=false∧W1.cell? ⟨RB,k,none⟩=some (.int .i64 t.regs[k])∧aaG u G F A S W0 base WB (W1.setCell ⟨RB,k,none⟩ (.int .i64 x)) V iv { s with frs:={ t with regs:=t.regs.set k x } :: r }):=by rw [az,ay];exact HF.out
   rw [<-az] at HT;have bV:(k:Int)<(L:Int):=by rw [ay];exact hd
   clear h hv h0 hs HF hR az ay hd ae;go_enter Tryd.func70,Tryd.ntmps70;go_wp2_with (first | (go_at_call 43;refine HT.out.mono ?_;rintro e W1 ⟨rfl,an⟩;obtain⟨c3,av,aH,bu⟩:=bJ.out W1 an;have HK:=hid bu;have z1:=aac c3;have z2:=aac aH;clear an bu));go_end0;exact⟨rfl,HK.out⟩
 . have hs:adG t.regs d x=t.regs:=by unfold adG;rw [if_neg h0]
   have bz:{ s with frs:={ t with regs:=t.regs } :: r }=s:=by rw [show ({ t with regs:=t.regs }:RnF)=t from rfl,<-ae]
   rw [hs,bz];have H:=hid h;have cg:¬0<=d:=h0;clear h hs bz;go_enter Tryd.func70,Tryd.ntmps70;go_wp2_with fail;go_end0;exact⟨rfl,H.out⟩
end
end
section
open Go.RowKit Go.Sort
theorem abu {W:World}{base sz n:Nat}{e:TypeId}{v:Value}{xs:List Value}(h:W.ownsRow base e sz v n xs):∃a c,v = .slice a n c:=by
 rcases h.2 with⟨h1,h2⟩ | ⟨g,cap,cur,e1,-⟩
 . exact⟨none,0,by rw [h1,h2]⟩
 . exact⟨_,_,e1⟩
theorem ame:(Tryd.prog.info? 116).map (fun i=>(i.zero,i.size,i.bytes))=some (some (.agg #[.int .i64 0,.int .i64 0,.int .i64 0,.slice none 0 0,.int .i64 0]),5,56):=by kernel_rfl
section
variable {u : aax} {G F A : Value} {S : Nat -> Prop} {W0 : World} {base WB : Nat} {W : World} {V : WPth -> Value} {iv : Value} {s : RnS}
theorem afu (h : aaG u G F A S W0 base WB W V iv s) {fn : Nat} {f : aal} (hf : u.funcs[fn]? = some f) {fa : Option Addr} {fl fc : Nat} (hF : F = .slice fa fl fc) (hr : 0 <= f.regs ∧ f.regs <= 100) (dst : Int) {SA : Nat -> Prop} {aa : Option Addr} {ac : Nat} {al : List Int}
 (ha:SlAt SA W 1 abe (.slice aa al.length ac) al) (cb:(al.length:Int)<=f.regs) {cl:List Int} (hc:s.cnt[fn]?=some cl) (bq:0<cl.length∧∀v∈cl,0<=v∧v<=1000000) (hd:s.frs.length<=30) :
 Calls Tryd.prog 23 #[.pointer (some ⟨WB,0,none⟩),.int .i64 (fn:Int),.int .i64 dst,.slice aa al.length ac] W fun e w'=>e = .returned (.tuple #[])∧∃V',aaG u G F A S W0 base WB w' V' iv (s.enter u fn dst al):=by
 subst hF;obtain⟨-,zb,bp,av⟩:=h.boxAt;have c1:=bp 1 _ rfl;rw [Aac] at c1;have bP:fn<u.funcs.length:=(Aae.1 hf).1;have br:u.funcs[fn]=f:=(Aae.1 hf).2;obtain⟨fb,ad,xa,xc,rfl,aj,-,-,-⟩:=acM h.rd.fs bP;rw [br] at aj;obtain⟨-,-,d2,-⟩:=aj.get4;have bR:fl=u.funcs.length:=by
  obtain⟨ao,c,e,-⟩:=h.rd.fs;cases e;rfl
 subst bR;obtain⟨R,hR⟩:∃R:Nat,f.regs=(R:Int):=Aao hr.1;rw [hR] at d2;have zf:=aac d2;have b9:(0:Int)<=(R:Int):=by omega
 have ca:(R:Int)<=100:=by omega
 have bQ:(fn:Int)<(u.funcs.length:Int):=by omega
 have Hh:=hid h;have Ha:=hid ha;have aW:al.length<=R:=by omega
 have bX:=run_make_row' (P:=Tryd.prog) 26 3 (.int .i64 0) 8 Tryd.underlying26 acr rfl .i64 .i64 R (by omega) (by omega);obtain⟨i0,bT,b0,b1,b2⟩:=info_parts ame;have ar:Hid (abf u fn al=al++List.replicate (R - al.length) 0):=by
  show _=_;unfold abf aez;rw [Aab,hf];show al++List.replicate (f.regs.toNat - al.length) 0=_;rw [hR,Aag]
 have aA:=hid bq;have Hc:=hid hc;have Hf:=hid hf;clear h ha bp av aj hf br bq hc;go_enter Tryd.func23,Tryd.ntmps23;go_upto_region 1 with (fail)
 clear bX;obtain⟨W1,ai⟩:∃W1,W1=W.alloc (.cells (madeCells #[.int .i64 0] R) 3):=⟨_,rfl⟩
 have an:Below W.heap.size W W1:=by rw [ai];exact bE
 have aS:W1.heap[W.heap.size]?=some (.cells (List.replicate R (Value.int .i64 0)).toArray 3 (0,0)):=by rw [ai,heap_alloc_new,abk]
 have bM:W1.heap.size=W.heap.size+1:=by rw [ai];simp
 rw [<-ai];obtain⟨RB,aV⟩:∃RB,RB=W.heap.size:=⟨_,rfl⟩
 rw [<-aV] at aS ⊢;have bg:Hid (RB=W.heap.size∧W1.heap.size=RB+1):=⟨aV,by omega⟩
 have ax:=hid an;have bI:=hid aS;clear ai bM aV an aS
 go_upto_region 2 with (
  with_reducible refine wpList_copy_splice rfl (.tmp 19) (.tmp 20) 26 26 rfl 3 Tryd.underlying26 afI _ _ R R al.length ac rfl rfl RB 0 (List.replicate R (Value.int .i64 0)) 3 bI.out (al.map (Value.int .i64)) ?_ ?_ ?_ ?_ W.heap.size W ax.out ?_ ?_
  . rw [Aal]; exact (Nat.min_eq_left aW).symm
  . intro h0
    rw [Aal] at h0
    refine ⟨rfl, ?_⟩
    obtain ⟨ao, c', e, -, -, hh⟩ := Ha.out
    cases e
    obtain ⟨b, off, rfl, -, hh⟩ := hh (fun e => by rw [e] at h0; simp at h0)
    refine ⟨_, rfl, fun j v hj => ?_⟩
    rw [Aap] at hj
    cases e : al[j]? with
    | none => rw [e] at hj; cases hj
    | some y =>
      rw [e] at hj
      cases hj
      obtain ⟨cs, ⟨rfl, -⟩, -, h3⟩ := hh j y e
      have h4 := h3 0 _ rfl
      rw [Aas, Aam] at h4
      rw [Addr.add_lit]
      exact aab h4 ax.out
  . simp; omega
  . intro v hv
    obtain ⟨y, -, rfl⟩ := List.mem_map.1 hv
    rfl
  . exact Nat.le_of_eq bg.out.1.symm
  intro w2 bt bo
  have aQ := hid bo
  clear bo)
 have h2:=Hh.out.later aQ.out;obtain⟨-,b4,aF,aI⟩:=h2.boxAt;have c9:=aF 9 _ rfl;rw [Aac] at c9;obtain⟨W3,aL⟩:∃W3,W3=w2.alloc (.cells #[.int .i64 (fn:Int),.int .i64 0,.int .i64 0,.slice (some ⟨RB,0,none⟩) R R,.int .i64 dst] 116):=⟨_,rfl⟩
 have aC:Below w2.heap.size w2 W3:=by rw [aL];exact bE
 have aT:W3.heap[w2.heap.size]?=some (.cells #[.int .i64 (fn:Int),.int .i64 0,.int .i64 0,.slice (some ⟨RB,0,none⟩) R R,.int .i64 dst] 116 (0,0)):=by rw [aL];exact heap_alloc_new _ _
 obtain⟨BB,aU⟩:∃BB,BB=w2.heap.size:=⟨_,rfl⟩
 rw [<-aU] at aT;obtain⟨g0,g1,g2,g3,g4⟩:W3.cell? ⟨BB,0,none⟩=some (.int .i64 (fn:Int))∧W3.cell? ⟨BB,1,none⟩=some (.int .i64 0)∧W3.cell? ⟨BB,2,none⟩=some (.int .i64 0)∧W3.cell? ⟨BB,3,none⟩=some (.slice (some ⟨RB,0,none⟩) R R)∧W3.cell? ⟨BB,4,none⟩=some (.int .i64 dst):=by
  have hh:=aar (cs:=[_,_,_,_,_]) aT;have a0:=hh 0 _ rfl;have a1:=hh 1 _ rfl;have a2:=hh 2 _ rfl;have a3:=hh 3 _ rfl;have a4:=hh 4 _ rfl;rw [Aac] at a0 a1 a2 a3 a4;exact⟨a0,a1,a2,a3,a4⟩
 have aq:Below W.heap.size W W3:=aQ.out.trans (aC.mono aQ.out.size);have bA:splice (List.replicate R (Value.int .i64 0)) 0 (al.map (Value.int .i64))=(abf u fn al).map (Value.int .i64):=by
  rw [ar.out,Aat,List.map_replicate];unfold splice;simp
 have aO:(abf u fn al).length=R:=by rw [ar.out,Aak,Aar];omega
 have bw:W3.ownsRow W.heap.size 3 1 (.slice (some ⟨RB,0,none⟩) R R) (abf u fn al).length ((abf u fn al).map (Value.int .i64)):=by
  refine⟨by rw [Aal,Aam],.inr ⟨RB,R,((abf u fn al).map (Value.int .i64)).toArray,by rw [aO],Nat.le_of_eq bg.out.1.symm,?_,Nat.le_of_eq aO,by unfold maxLen;omega,by simp [aO],by simp;exact List.take_of_length_le (by simp)⟩⟩;have aw:=bt.out;rw [bA] at aw;have bW:=(Aan.1 aw).1;rw [aC.block RB bW];exact aw
 have bG:(walkC G (.slice (some ⟨fb,ad,none⟩) u.funcs.length fc) A iv V s .frs).length=s.frs.length:=by show (s.frs.reverse.mapIdx (frC V)).length=_;rw [List.length_mapIdx,Aay]
 have aJ:W3.ownsRow base 116 5 (V .frs) s.frs.length (walkC G (.slice (some ⟨fb,ad,none⟩) u.funcs.length fc) A iv V s .frs).flatten:=by
  have h:=(Hh.out.later aq).rows.own .frs trivial;rw [bG] at h;exact h
 have aD:base<=W3.heap.size:=Aaj (Aaj Hh.out.hb Hh.out.low.size) aq.size;have aY:∀k,(V .frs).ownBlock=some k->k≠WB:=fun k hk e=>Hh.out.rows.apart .frs .box trivial trivial (by intro e;cases e) k hk (by rw [Hh.out.box,e];rfl);have f9:W3.frozen? ⟨WB,9,none⟩=false:=by rw [World.frozen?_of_block (w:=w2) (aC.block WB b4)];exact aI 9 (by omega)
 have aR:=aab c9 aC;have b5:=aac aR
 have ag := hid (fun (w' : World) (v' : Value) (e1 : w'.ownsRow base 116 5 v' (s.frs.length + 1) ((walkC G (.slice (some ⟨fb, ad, none⟩) u.funcs.length fc) A iv V s .frs).flatten ++ [.int .i64 (fn : Int), .int .i64 0, .int .i64 0, .slice (some ⟨RB, 0, none⟩) R R, .int .i64 dst])) (e2 : W3.grownBy w' (V .frs).ownBlock) (e3 : v'.ownBlock = (V .frs).ownBlock ∨ v'.ownBlock = some W3.heap.size) =>
  Hh.out.push (rv := .slice (some ⟨RB, 0, none⟩) R R) (fv := v') (fn := fn) (dst := dst) (regs := abf u fn al) (W1 := W3) (W2 := w') aq bw (by rw [List.flatten_append, Abb, List.flatten_nil, List.append_nil]; exact e1) e2 (fun k hk => by
   rcases e3 with e | e
   . rw [e] at hk; exact .inl hk
   . rw [e] at hk; cases hk; exact .inr (Aad _)))
 have HB:Hid (BB=w2.heap.size∧W3=w2.alloc (.cells #[.int .i64 (fn:Int),.int .i64 0,.int .i64 0,.slice (some ⟨RB,0,none⟩) R R,.int .i64 dst] 116)):=⟨aU,aL⟩
 have b6:=hid aY;have au:=hid aJ;have aB:Hid (∀w':World,W3.grownBy w' (V .frs).ownBlock->w'.cell? ⟨WB,9,none⟩=some (V .frs)∧w'.frozen? ⟨WB,9,none⟩=false):=fun w' hg=>by
  have aE:=hg.block WB b5 fun e=>aY WB e.symm rfl;exact⟨by rw [World.cell?_of_block (w:=W3) aE];exact aR,by rw [World.frozen?_of_block (w:=W3) aE];exact f9⟩
 obtain⟨fv,a7⟩:∃fv,fv=V .frs:=⟨_,rfl⟩
 obtain⟨xs,bH⟩:∃xs,xs=(walkC G (.slice (some ⟨fb,ad,none⟩) u.funcs.length fc) A iv V s .frs).flatten:=⟨_,rfl⟩
 rw [<-bH] at ag au;rw [<-a7] at c9 au aB ag;have HN:Hid (s.frs.length<=30):=hd;have HE:Hid (fv=V .frs):=a7;clear h2 aF aI aL aU aC aT aq bA aO bw bG aJ aY f9 aR bt hd a7 bH
 go_upto_region 3 with (
  refine wpList_append_own_at _ rfl (.tmp 26) (.tmp 31) 78 rfl base 116 i0 _ 5 56 Tryd.underlying78 bT b0 b1 b2 rfl (by decide) fv s.frs.length xs rfl (by rw [<- HB.out.2]; exact au.out) ⟨w2.heap.size, 0, none⟩ 1 1 [.int .i64 (fn : Int), .int .i64 0, .int .i64 0, .slice (some ⟨RB, 0, none⟩) R R, .int .i64 dst] rfl rfl ?_ ?_ ?_ ?_ (by rw [<- HB.out.2]; exact aD) ?_
  . intro j v hj
    rw [Addr.add_lit, Aac, <- HB.out.2, <- HB.out.1]
    match j, hj with
    | 0, hj => cases hj; exact g0
    | 1, hj => cases hj; exact g1
    | 2, hj => cases hj; exact g2
    | 3, hj => cases hj; exact g3
    | 4, hj => cases hj; exact g4
  . intro v hv
    simp at hv
    rcases hv with rfl | rfl | rfl | rfl <;> rfl
  . unfold maxLen; have := HN.out; omega
  . have := HN.out; omega
  intro v' w' ak af bd aZ
  rw [<- HB.out.2] at af aZ
  obtain ⟨va, vc, rfl⟩ := abu ak
  obtain ⟨bj, bL⟩ := aB.out w' af
  have HP := hid (ag.out w' _ ak af aZ)
  have z9 := aac bj
  clear ak af bd aZ c9 g0 g1 g2 g3 g4)
 obtain⟨W5,aX⟩:∃W5,W5=w'.setCell ⟨WB,9,none⟩ (.slice va (s.frs.length+1) vc):=⟨_,rfl⟩
 rw [<-aX];have H5:=HP.out;rw [<-aX] at H5;obtain⟨V5,bm⟩:∃V5,V5=abx (abx V (.regs s.frs.length) (.slice (some ⟨RB,0,none⟩) R R)) .frs (.slice va (s.frs.length+1) vc):=⟨_,rfl⟩
 rw [<-bm] at H5;obtain⟨-,cm,aG,a8⟩:=H5.boxAt;have aN:okW (s.frs.length+1) s.cnt.length (.cnt fn):=(Aae.1 Hc.out).1;obtain⟨v0,aP⟩:∃v0,cl[0]?=some v0:=⟨cl[0]'aA.out.1,Aaa _⟩
 have bk:walkC G (.slice (some ⟨fb,ad,none⟩) u.funcs.length fc) A iv V5 { s with frs:=⟨fn,0,0,abf u fn al,dst⟩ :: s.frs } (.cnt fn)=aay cl:=by
  show aay (s.cnt.getD fn [])=_;rw [Aab,Hc.out];rfl
 obtain⟨CB,cc,a6,-,-,-,aH,cf⟩:=H5.numAt (p := .cnt fn) aN rfl bk aP;have bU:okW (s.frs.length+1) s.cnt.length .cnts:=trivial;have aj:(walkC G (.slice (some ⟨fb,ad,none⟩) u.funcs.length fc) A iv V5 { s with frs:=⟨fn,0,0,abf u fn al,dst⟩ :: s.frs } .cnts)[fn]?=some [V5 (.cnt fn)]:=by
  show ((List.range s.cnt.length).map fun k=>[V5 (.cnt k)])[fn]?=_;rw [Aap,Abg (show fn<s.cnt.length from aN)];rfl
 obtain⟨TB,tc,be,-,-,-,bB,-⟩:=H5.rows.cell bU aj (j:=0) (u:=V5 (.cnt fn)) rfl;have bC:(walkC G (.slice (some ⟨fb,ad,none⟩) u.funcs.length fc) A iv V5 { s with frs:=⟨fn,0,0,abf u fn al,dst⟩ :: s.frs } .cnts).length=s.cnt.length:=by
  show ((List.range s.cnt.length).map fun k=>[V5 (.cnt k)]).length=_;rw [Aal,List.length_range]
 rw [bC] at be;have aK:WPth.cnts.sz=1:=rfl;rw [aK,Aam,Aas,a6] at bB;have bK:=aG 10 _ rfl;rw [Aac,be] at bK;have zT:=aac bB;have zC:=aac aH;have bY:0<=v0∧v0<=1000000:=aA.out.2 v0 (Aah aP);have cj:IntKind.i64.wrap (v0+1)=v0+1:=by rw [IntKind.wrap_i64];omega
 have bS:(fn:Int)<(s.cnt.length:Int):=by have:fn<s.cnt.length:=aN;omega
 have bO:(0:Int)<(cl.length:Int):=by have:=aA.out.1;omega
 have HF:=hid (H5.putCnt (k:=fn) (l:=cl) Hc.out a6 (d:=0) aA.out.1 (v0+1));have HR:Hid ({ ({ s with frs:=⟨fn,0,0,abf u fn al,dst⟩ :: s.frs }:RnS) with cnt:=s.cnt.set fn (cl.set 0 (v0+1)) }=s.enter u fn dst al):=by
  show _=_;unfold RnS.enter ab7;have e1:cl.set 0 (v0+1)=cl.modify 0 (·+1):=by
   refine List.ext_getElem? fun i=>?_;rw [Abe,Abj]
   by_cases e:0=i
   . subst e
     rw [if_pos rfl,if_pos aA.out.1,aP];simp
   . cases cl[i]? <;> simp [e]
  have e2:s.cnt.set fn (cl.set 0 (v0+1))=s.cnt.modify fn (fun r=>r.modify 0 (·+1)):=by
   rw [e1];refine List.ext_getElem? fun i=>?_;rw [Abe,Abj]
   by_cases e:fn=i
   . subst e
     rw [if_pos rfl,if_pos (show fn<s.cnt.length from aN),Hc.out];simp
   . cases s.cnt[i]? <;> simp [e]
  rw [e2]
 clear aX bm H5 aG a8 bk a6 aj be bC aK aP HP bj bL HE;go_wp2_with fail;go_end0;exact⟨rfl,_,HR.out ▸ HF.out⟩
end
end
end Go.Proofs.YtgekbfgplclmeaaDoor
