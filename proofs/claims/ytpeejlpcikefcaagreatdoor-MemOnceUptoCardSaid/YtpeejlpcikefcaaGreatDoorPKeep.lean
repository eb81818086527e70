import Derived.Shelf.Bits.Mul64
import Derived.Test.YtpeejlpcikefcaaGreatDoorPSortF
import Derived.Test.YtpeejlpcikefcaaGreatDoorPRowSt
/- slices.Repeat of a list of one Boolean; math/bits.Mul of 1 and a small number. slices.Repeat of a list of one number. tidy.Keep: the walk. -/
set_option maxHeartbeats 8000000
set_option maxRecDepth 100000
namespace Go.Proofs.YtpeejlpcikefcaaGreatDoor
section
open Go.RowKit Go.Lib
theorem aoB(x y:Nat)(hx:x<18446744073709551616)(hy:y<18446744073709551616)(w:World) :
 Calls Tryz.prog 105 #[.int .u64 x,.int .u64 y] w fun e w'=>e = .returned (.tuple #[.int .u64 ((x * y / 18446744073709551616:Nat):Int),.int .u64 ((x * y % 18446744073709551616:Nat):Int)])∧w=w':=by
 obtain⟨bd,bt,bw,gv⟩:=Lib.mul64_hi x y hx hy;have ba:=Lib.half_mul_le (a:=x / 4294967296) (b:=y / 4294967296) (by omega) (by omega);have bb:=Lib.half_mul_le (a:=x / 4294967296) (b:=y % 4294967296) (by omega) (by omega);have bc:=Lib.half_mul_le (a:=x % 4294967296) (b:=y / 4294967296) (by omega) (by omega);have gD:x / 4294967296 * (y / 4294967296)<18446744073709551616:=by omega
 have gC:x / 4294967296 * (y % 4294967296)<18446744073709551616:=by omega
 have fm:x % 4294967296 * (y / 4294967296)<18446744073709551616:=by omega
 have fh:x / 4294967296 * (y / 4294967296)+(x / 4294967296 * (y % 4294967296)+x % 4294967296 * (y % 4294967296) / 4294967296) / 4294967296<18446744073709551616:=by omega
 have bh:x / 4294967296 * (y / 4294967296)+(x / 4294967296 * (y % 4294967296)+x % 4294967296 * (y % 4294967296) / 4294967296) / 4294967296+((x / 4294967296 * (y % 4294967296)+x % 4294967296 * (y % 4294967296) / 4294967296) % 4294967296+x % 4294967296 * (y / 4294967296)) / 4294967296<18446744073709551616:=by omega
 go_enter Tryz.func105,Tryz.ntmps105;go_wp2;simp only [Mul64.maskN x hx,Mul64.maskN y hy,Mul64.divN,Mul64.mulN,Mul64.addN,Mul64.wrapN _ bd,Mul64.wrapN _ gC,Mul64.wrapN _ bt,Mul64.maskN _ bt,Mul64.wrapN _ fm,Mul64.wrapN _ bw,Mul64.wrapN _ gD,Mul64.wrapN _ fh,Mul64.wrapN _ bh,Mul64.wrapM (x * y)];rw [gv];go_ret2;exact⟨rfl,rfl⟩
theorem aiT(y:Nat)(hy:y<=1048576)(w:World) :
 Calls Tryz.prog 76 #[.int .u64 1,.int .u64 (y:Int)] w fun e w'=>e = .returned (.tuple #[.int .u64 0,.int .u64 (y:Int)])∧w=w':=by
 have du:=aoB 1 y (by decide) (by omega) w;rw [Nat.one_mul,Nat.div_eq_of_lt (by omega),Nat.mod_eq_of_lt (by omega)] at du;have H:=hid du;clear du;go_enter Tryz.func76,Tryz.ntmps76;go_wp2_with (go_at_call 105;refine H.out.mono ?_;rintro e w' ⟨rfl,rfl⟩);go_ret2;exact⟨rfl,rfl⟩
theorem aiU {α:Type}(a b:α){m n c:Nat}(h:m+c<=n):splice (List.replicate m a++List.replicate (n - m) b) m (List.replicate c a)=List.replicate (m+c) a++List.replicate (n - (m+c)) b:=by
 unfold splice;rw [List.take_left' (by simp),List.drop_append,Ab0,Ab0,List.drop_eq_nil_of_le (by simp),Abc,List.drop_replicate,<-List.replicate_append_replicate,Abo,show n - m - (m+c - m)=n - (m+c) by omega]
theorem ad6(z:Value)(n:Nat):madeCells #[z] n=(List.replicate n z).toArray:=by
 apply Array.ext
 . simp [madeCells]
 . intro i h1 h2
   simp [madeCells,Nat.mod_one]
end
section
open Go.RowKit Go.Lib
theorem amu:(Tryz.prog.info? 3).map (fun i=>(i.zero,i.size,i.bytes))=some (some (.int .i64 0),1,8):=by kernel_rfl
theorem amv:(Tryz.prog.info? 3).map (·.size)=some 1:=by kernel_rfl
theorem adB(ad:Addr)(c:Nat)(x:Int)(n:Nat)(hn:n<=1048576)(w:World)(hx:w.cell? (ad.add 0)=some (.int .i64 x)) :
 Calls Tryz.prog 73 #[.slice (some ad) 1 c,.int .i64 (n:Int)] w fun e w' =>
  ∃g,e = .returned (.slice (some ⟨g,0,none⟩) n n)∧w.heap.size<=g∧w'.heap[g]?=some (.cells (List.replicate n (Value.int .i64 x)).toArray 3 (0,0))∧Below w.heap.size w w':=by
 have fp:=run_make_row' (P:=Tryz.prog) 42 3 (.int .i64 0) 8 Tryz.underlying42 amu rfl .i64 .i64 n (by omega) (by omega);have Hx:=hid hx;have gM:IntKind.u64.wrap (n:Int)=(n:Int):=by rw [IntKind.wrap_u64];omega
 have gN:decide ((n:Int)<0)=false:=decide_eq_false (by omega);have gK:decide (9223372036854775807<(n:Int))=false:=decide_eq_false (by omega);clear hx;go_enter Tryz.func73,Tryz.ntmps73;have eM:(ad.add 0).block<w.heap.size:=World.block_lt_of_cell? w _ Hx.out
 go_wp2_with (first
  | (go_at_call 76; (with_reducible refine (aiT n hn w).mono ?_); rintro e w' ⟨rfl, rfl⟩)
  | (with_reducible refine wpList_copy_splice rfl (.tmp 31) (.tmp 32) 42 42 rfl 3 Tryz.underlying42 amv _ _ n n 1 c rfl rfl w.heap.size 0 (List.replicate n (Value.int .i64 0)) 3 ?_ (List.replicate (min 1 n) (Value.int .i64 x)) ?_ ?_ ?_ ?_ w.heap.size w ?_ (Aac _) ?_
     . rw [heap_alloc_new, ad6]
     . simp
     . intro h0
       refine ⟨rfl, ad, rfl, fun j v hj => ?_⟩
       have dT : j = 0 := by
        have := (Aad.1 hj).1
        rw [Ab0] at this
        omega
       subst dT
       rw [Abz] at hj
       split at hj
       . cases hj
         exact ((Below.alloc (Below.refl w.heap.size w) (Aac _) _).cell eM).trans Hx.out
       . cases hj
     . simp; omega
     . intro v hv; rw [List.eq_of_mem_replicate hv]; rfl
     . exact bE
     intro w2 b9 a1
     have fq : Hid (w2.heap[w.heap.size]? = some (.cells (List.replicate (min 1 n) (Value.int .i64 x) ++ List.replicate (n - min 1 n) (Value.int .i64 0)).toArray 3 (0, 0))) := by
      have h := aiU (Value.int .i64 x) (Value.int .i64 0) (m := 0) (n := n) (c := min 1 n) (by omega)
      simp only [List.replicate_zero, Abc, Nat.sub_zero, Aab] at h
      have h2 := b9.out
      rw [h] at h2
      exact h2
     have bY := hid a1
     rw [Ab0]
     clear b9 a1 eM))
 clear fp;go_loopw [8] (fun i wr=>∃m:Nat,m<=n∧min 1 n<=m∧i = .int .i64 (m:Int)∧Hid (wr.heap[w.heap.size]?=some (.cells (List.replicate m (Value.int .i64 x)++List.replicate (n - m) (Value.int .i64 0)).toArray 3 (0,0)))∧Hid (Below w.heap.size w wr)) (fun i _=>n - (intOf i).toNat)
 case atStart=>exact⟨min 1 n,by omega,Aac _,by first | rfl | simp [goInt],fq,bY⟩
 case round =>
  obtain⟨m,hm,fj,rfl,HG,HB⟩:=hrel
  by_cases fW:m<n
  . have gQ:0<m:=by omega
    have dB:¬n=m:=by omega
    have gO:((n:Int) - (m:Int)).toNat=n - m:=by omega
    obtain⟨d,hd⟩:∃d,d=min m (n - m):=⟨_,rfl⟩
    have ck:0<d:=by omega
    have gS:d<=n - m:=by omega
    have bf:m+d<=n:=by omega
    have gF:d<=m:=by omega
    have Hd:=hid hd;have gJ:IntKind.i64.wrap ((m:Int)+(d:Int))=((m+d:Nat):Int):=by rw [IntWalk.i64_in _ (by omega)];simp
    clear hd;clear fj;go_wp2_with fail
    go_region_law
     (refine step_copy_splice (by rfl) (.tmp 41) (.tmp 44) 42 42 (by rfl) 3 Tryz.underlying42 amv (some ⟨w.heap.size, m, none⟩) (some ⟨w.heap.size, 0, none⟩) (n - m) (n - m) m n ?_ ?_ w.heap.size m (List.replicate m (Value.int .i64 x) ++ List.replicate (n - m) (Value.int .i64 0)) 3 HG.out (List.replicate d (Value.int .i64 x)) ?_ ?_ ?_ ?_ w.heap.size w ?_ (Aac _) ?_
      . simp [go_sem]
      . simp [go_sem]
      . rw [Ab0]; exact Hd.out
      . intro _
        refine ⟨rfl, ⟨w.heap.size, 0, none⟩, rfl, fun j v hj => ?_⟩
        have dT : j < d := by
         have := (Aad.1 hj).1
         rwa [Ab0] at this
        rw [Abz, if_pos dT] at hj
        cases hj
        rw [show (⟨w.heap.size, 0, none⟩ : Addr).add j = ⟨w.heap.size, j, none⟩ by unfold Addr.add; split <;> simp_all]
        refine (aaX (w := _) HG.out).trans ?_
        rw [Ab7, Abj (by rw [Ab0]; omega), Abz, if_pos (by omega)]
      . simp; omega
      . intro v hv; rw [List.eq_of_mem_replicate hv]; rfl
      . exact HB.out.drew
      intro w2 b9 a1
      have fV : Hid (w2.heap[w.heap.size]? = some (.cells (List.replicate (m + d) (Value.int .i64 x) ++ List.replicate (n - (m + d)) (Value.int .i64 0)).toArray 3 (0, 0))) := by
       have h2 := b9.out
       have h3 := aiU (Value.int .i64 x) (Value.int .i64 0) (m := m) (n := n) (c := d) bf
       rw [h3] at h2
       exact h2
      have aV := hid a1
      rw [Ab0]
      clear b9 a1)
    all_goals
     go_simp
     (try go_wp2_with fail)
     go_roundw
     case rel=>exact⟨m+d,bf,by omega,by first | rfl | go_num,fV,aV⟩
     case measure=>simp [intOf];omega
  . obtain rfl:m=n:=by omega
    have gl:Hid (wr.heap[w.heap.size]?=some (.cells (List.replicate m (Value.int .i64 x)).toArray 3 (0,0))):=by
     have h:=HG.out;rw [Nat.sub_self,List.replicate_zero,Ab4] at h;exact h
    go_wp2_with fail;go_ret;exact⟨w.heap.size,rfl,Aac _,gl.out,HB.out⟩
end
section
open Go.RowKit
theorem aqx:(Tryz.prog.info? 143).map (fun i=>(i.zero,i.size,i.bytes))=some (some (.agg #[.int .i64 0,.bool false,.int .i64 0]),3,24):=by kernel_rfl
theorem amw {S : Nat -> Prop} (nm : ByteArray) (p r : Int) (bs : List DBlock) (V : Pth -> Value) (base : Nat) (w : World) (hf : abJ w base bs V) (bg : base <= w.heap.size) (bC : acU bs)
 (oa:Option Addr) (m oc:Nat) (ord:List Int) (ho:SlAt S w 1 acx (.slice oa m oc) ord) (eU:ord.length=m) (hm:m<=1048576) (hS:∀b,S b->b<w.heap.size∧∀q,okP bs q->(V q).ownBlock≠some b)
 (ay:∀x∈ord,0<=x∧x<(bs.length:Int)) (eS:ord.Nodup) :
 Calls Tryz.prog 58 #[.agg #[.string nm,.int .i64 p,.int .i64 r,V .blks],.slice oa m oc] w fun e w' =>
  ∃V',e = .returned (.agg #[.string nm,.int .i64 p,.int .i64 r,V' .blks])∧abJ w' base (aa7 bs ord) V'∧Below base w w'∧asZ S w w' (aa7 bs ord) V':=by
 obtain⟨ba,bc,cB⟩:=aah.shape (p := .blks) hf trivial;obtain⟨n,hn⟩:∃n,n=bs.length:=⟨_,rfl⟩
 have bK:(aae bs V .blks).length=n:=by simp [aae,hn]
 rw [bK] at cB;have fN:n<=1048576:=by rw [hn];exact bC.len
 have Hf:=hid hf;have aT:=hid bC;have Ho:=hid ho;have bl:=hid eU;have HS:=hid hS;have df:=hid ay;have e4:=hid eS;have Hn:=hid hn;have eh:=hid cB;rw [cB];clear hf bC ho eU hS ay eS hn bK cB;go_enter Tryz.func58,Tryz.ntmps58;go_upto_region 1 with (fail)
 obtain⟨W,hW⟩:∃W,W=(w.alloc (.cells #[.string nm,.int .i64 p,.int .i64 r,.slice ba n bc] 37)).alloc (.cells #[.string ⟨#[]⟩,.int .i64 0,.int .i64 0,.slice none 0 0] 37):=⟨_,rfl⟩
 obtain⟨dD,h0,h1⟩:=abE w (.cells #[.string nm,.int .i64 p,.int .i64 r,.slice ba n bc] 37) (.cells #[.string ⟨#[]⟩,.int .i64 0,.int .i64 0,.slice none 0 0] 37);rw [<-hW] at dD h0 h1 ⊢;have eK:Below w.heap.size w W:=by rw [hW];exact bE
 obtain⟨UB,dM⟩:∃UB,UB=w.heap.size:=⟨_,rfl⟩
 obtain⟨UO,eg⟩:∃UO,UO=w.heap.size+1:=⟨_,rfl⟩
 rw [<-eg] at h1 ⊢;rw [<-dM] at h0 ⊢;have aM:Hid (UB=w.heap.size∧UO=w.heap.size+1∧W.heap.size=w.heap.size+2):=⟨dM,eg,dD⟩
 have HB:Hid (base<=w.heap.size):=bg;obtain⟨c0,c1,c2,c3⟩:=(aad (cs:=[_,_,_,_]) h0).get4;rw [Aab] at c1 c2 c3;have H0:=hid h0;have H1:=hid h1;have cq:=hid eK;have zB:UB<W.heap.size:=aac c0;clear hW h0 h1 eK dM eg dD bg c0 c1 c2;go_upto_region 2 with (go_at_call 73;refine (adB _ _ (-1) n fN _ (aaB _ [.int .i64 (-1)] 3 rfl 0 _ rfl)).mono ?_;rintro e w2 ⟨T,rfl,hg,bX,a1⟩;have cm:Below W.heap.size W w2:=(bE1 a1);have hT:W.heap.size<=T:=(by simp at hg;omega);have bS:=hid bX;have aG:=hid cm;have HT:=hid hT;clear hg bX a1 cm hT)
 have ag:afr w2 w2 T 3 (adQ ord n 0):=⟨Aac _,fun _ _ _=>rfl,⟨rfl,rfl,rfl⟩,by rw [alw];exact bS.out⟩
 have ak:=hid ag;have bY:Hid (Below w.heap.size w w2):=cq.out.trans (aG.out.mono cq.out.size);clear ag c3 zB;go_wp2_with fail;go_loopw [30] (fun i wr=>∃k:Nat,k<=m∧i = .int .i64 (k:Int)∧afr w2 wr T 3 (adQ ord n k)) (fun i _=>m - (intOf i).toNat)
 case atStart=>exact⟨0,Aaj _,rfl,ak.out⟩
 case round =>
  obtain⟨k,hk,rfl,ag⟩:=hrel;have eI:=hid ag
  by_cases hkm:k<m
  . have aX:k<ord.length:=by rw [bl.out];exact hkm
    obtain⟨b,hb⟩:∃b,b=ord[k]:=⟨_,rfl⟩
    have bo:=df.out ord[k] (Aaq aX);rw [<-hb,<-Hn.out] at bo;obtain⟨ob,dr,rfl,c0⟩:=apu (ag.sl aaw (fun b hb=>by have:=(HS.out b hb).1;have:=HT.out;have:=cq.out.size;omega) (Ho.out.later aaw bY.out)) aX;rw [<-hb] at c0;obtain⟨q,rfl⟩:=Abb bo.1;have aS:q<n:=by omega
    have c1:=ag.at (aeA ord n k aS)
    have f1:=ag.fz q;have bk:=ag.set q (.int .i64 (k:Int));rw [alx ord n k q aX hb.symm] at bk;have dN:=hid bk;have z0:ob<wr.heap.size:=aac c0;have z1:T<wr.heap.size:=aac c1;clear ag hb bo bk;go_wp2_with fail;go_roundw
    case rel=>exact⟨k+1,by omega,by go_num,dN.out⟩
    case measure=>simp [intOf];omega
  . have cY:m=k:=by omega
    subst cY;have bm:wr.heap[UB]?=some (.cells #[.string nm,.int .i64 p,.int .i64 r,.slice ba n bc] 37 (0,0)):=(ag.keep UB (by have:=aM.out;have:=aG.out.size;omega) (by have:=aM.out;have:=HT.out;omega)).trans ((aG.out.block UB (by have:=aM.out;omega)).trans H0.out);have aP:wr.heap[UO]?=some (.cells #[.string ⟨#[]⟩,.int .i64 0,.int .i64 0,.slice none 0 0] 37 (0,0)):=(ag.keep UO (by have:=aM.out;have:=aG.out.size;omega) (by have:=aM.out;have:=HT.out;omega)).trans ((aG.out.block UO (by have:=aM.out;omega)).trans H1.out);obtain⟨c0,c1,c2,c3⟩:=(aad (cs:=[_,_,_,_]) bm).get4;rw [Aab] at c1 c2 c3;have dX:Below w.heap.size w wr:=ag.below bY.out (by have:=HT.out;have:=cq.out.size;omega);have az:abJ wr base bs V:=Hf.out.later dX;have eu:SlAt (fun b=>base<=b∧b<wr.heap.size) wr 6 aa0 (.slice ba bs.length bc) bs:=by
     have h:=az.read aT.out.num;rw [eh.out,Hn.out] at h;exact h
    have de:=hid (adO nm p r ba bc bs wr eu aT.out.len aT.out.hto);rw [<-Hn.out] at de;have ep:=hid bm;have e8:=hid aP;have bI:=hid dX;have bH:=hid az;have cb:Hid (T<wr.heap.size):=ag.lt;clear bm aP dX az eu ag hkm hk;go_upto_region 8 with (go_at_call 74;refine de.out.mono ?_;rintro e W3 ⟨av,rfl,dq,ew⟩;obtain⟨aa,ac,dH,-⟩:=id dq.val;subst dH;have eE:=hid dq;have aV:=hid ew;clear dq ew)
    rw [show (aheadF bs).length=n by simp [aheadF,Hn.out]];have HX:Hid (∀b,w.heap.size<=b->b<W3.heap.size->alz base S w.heap.size W3.heap.size b):=fun b h1 h2 => .inr (.inr ⟨h1,h2⟩);have bJ:=alA.start Hf.out (bI.out.trans (aV.out.mono bI.out.size)) HB.out HS.out ord;have dh:=hid bJ;have cM:Hid (Below w.heap.size w W3):=bI.out.trans (aV.out.mono bI.out.size);have bN:Hid (W3.heap[UB]?=some (.cells #[.string nm,.int .i64 p,.int .i64 r,.slice ba n bc] 37 (0,0))):=(aV.out.block UB (by have:=cb.out;have:=HT.out;have:=aM.out;omega)).trans ep.out;have eb:Hid (W3.heap[UO]?=some (.cells #[.string ⟨#[]⟩,.int .i64 0,.int .i64 0,.slice none 0 0] 37 (0,0))):=(aV.out.block UO (by have:=cb.out;have:=HT.out;have:=aM.out;omega)).trans e8.out;have a7:Hid (W3.heap[T]?=some (.cells (adQ ord n m).toArray 3 (0,0))):=(aV.out.block T cb.out).trans eI.out.row;have ae:Hid (w.heap.size<=UB∧UB<W3.heap.size∧w.heap.size<=UO∧UO<W3.heap.size∧w.heap.size<=T∧T<W3.heap.size):=by
     show _∧_;have:=cb.out;have:=HT.out;have:=aM.out;have:=aV.out.size;omega
    have dJ:Hid (SlAt (fun b=>w.heap.size<=b∧b<W3.heap.size) W3 1 rRow (.slice aa n ac) (aheadF bs)):=by
     have h:=eE.out;rw [show (aheadF bs).length=n by simp [aheadF,Hn.out]] at h;exact (h.live (by decide) amo).mono acX (fun b hb=>⟨Aai bI.out.size hb.1,hb.2⟩) (aaS.refl _ _)
    clear bJ c0 c1 c2 c3 de ep e8 bI bH cb eI ak bY bS eE aV HT aG cq;go_wp2_with fail;go_loopw [44,9] (fun s44 s9 wr=>∃(k:Nat) (af:List DBlock) (U:Pth->Value) (na:Option Addr) (nc:Nat),k<=m∧s44 = .int .i64 (k:Int)∧s9 = .slice na k nc∧U .vBlk = .slice na k nc∧alA W3 wr base (alz base S w.heap.size W3.heap.size) bs ord V k af U) (fun s44 _ _=>m - (intOf s44).toNat)
    case atStart=>exact⟨0,bs,_,none,0,Aaj _,rfl,rfl,aaj _ _ _,dh.out⟩
    case round =>
     obtain⟨wo,gh⟩:∃wo:World,wo=wr:=⟨_,rfl⟩
     subst gh;obtain⟨k,af,U,na,nc,hk,rfl,rfl,dE,ag⟩:=hrel;have ak:=hid ag;have gy:=hid dE;have eA:Hid (∀b o u,w.heap.size<=b->b<W3.heap.size->W3.cell? ⟨b,o,none⟩=some u->wo.cell? ⟨b,o,none⟩=some u):=fun b o u h1 h2 h3=>ag.st.cell (HX.out b h1 h2) h3
     by_cases hkm:k<m
     . have aX:k<ord.length:=by rw [bl.out];exact hkm
       have eH:k<=ord.length:=Nat.le_of_lt aX;have bo:=df.out ord[k] (Aaq aX);obtain⟨ob,dr,rfl,o0⟩:=apu ((Ho.out.later aaw cM.out).mono aaw (fun _ h=>h) (ag.st.stays (S:=S) fun b hb => .inr (.inl hb))) aX;obtain⟨q,hq⟩:=Abb bo.1;rw [hq] at o0 bo;have aS:q<bs.length:=by omega
       have bC:ord[k]?=some (q:Int):=by rw [Aaa aX,hq]
       obtain⟨eX,e7⟩:=ag.opens aS bC e4.out;obtain⟨pa,pc,cK⟩:=aah.shape (p := .phis q) Hf.out aS;obtain⟨la,lc,cI⟩:=aah.shape (p := .list q) Hf.out aS;obtain⟨ta,tc,cO⟩:=aah.shape (p := .to q) Hf.out aS;obtain⟨x,hx⟩:∃x,x=blkOf bs q:=⟨_,rfl⟩
       obtain⟨pn,ea⟩:∃pn,pn=x.phis.length:=⟨_,rfl⟩
       obtain⟨ln,ct⟩:∃ln,ln=x.list.length:=⟨_,rfl⟩
       obtain⟨tn,di⟩:∃tn,tn=x.fin.to.length:=⟨_,rfl⟩
       obtain⟨ek,dV⟩:∃ek,ek=x.fin.kind:=⟨_,rfl⟩
       obtain⟨er,da⟩:∃er,er=x.fin.on.reg:=⟨_,rfl⟩
       obtain⟨en,dg⟩:∃en,en=x.fin.on.n:=⟨_,rfl⟩
       rw [show (aae bs V (.phis q)).length=pn by simp [aae,ea,hx]] at cK;rw [show (aae bs V (.list q)).length=ln by simp [aae,ct,hx]] at cI;rw [show (aae bs V (.to q)).length=tn by simp [aae,di,hx]] at cO;have aD:(elN af U (nsO bs V ord k) .blks)[q]?=some [.slice pa pn pc,.slice la ln lc,.int .i64 ek,.bool er,.int .i64 en,.slice ta tn tc]:=by
        rw [aaY (by simp)];simp only [aae];rw [aai,aap af (by rw [ag.len];exact aS),eX,Aaw,(ag.same.2 q).1,(ag.same.2 q).2.1,(ag.same.2 q).2.2,cK,cI,cO,dV,da,dg,hx];rfl
       obtain⟨R,rc,dP,-,-,fK,gq⟩:=ag.st.rows.addr (p := .blks) (.inl trivial) (Ab9 (Aaj _) (Aad.1 aD).1);rw [ag.same.1,eh.out] at dP;have gj:ba=some ⟨R,0,none⟩:=by injection dP
       subst gj;have b3:aal wo R (q * 6) [.slice pa pn pc,.slice la ln lc,.int .i64 ek,.bool er,.int .i64 en,.slice ta tn tc]:=(ag.st.rows.at (p := .blks) (.inl trivial) (ag.same.1.trans eh.out) aD).1;obtain⟨q0,q1,q2,q3,q4,q5⟩:=b3.get6;have u3:wo.cell? ⟨UB,3,none⟩=some (.slice (some ⟨R,0,none⟩) n bc):=by
        have h:=(aad (cs:=[_,_,_,_]) bN.out) 3 _ rfl;rw [Aab] at h;exact eA.out UB 3 _ ae.out.1 ae.out.2.1 h
       have gu:q<n:=by rw [Hn.out];exact aS
       have Hx:Hid (x=blkOf bs q):=hx;have aw:Hid (pn=x.phis.length∧ln=x.list.length∧tn=x.fin.to.length∧ek=x.fin.kind∧er=x.fin.on.reg∧en=x.fin.on.n):=⟨ea,ct,di,dV,da,dg⟩
       have aC:Hid (V (.phis q) = .slice pa pn pc∧V (.list q) = .slice la ln lc∧V (.to q) = .slice ta tn tc):=⟨cK,cI,cO⟩
       have ar:=hid aS;have ee:=hid bC;have ca:agR W3 wo base (alz base S w.heap.size W3.heap.size) af q x V (nsO bs V ord k) (.slice na k nc) U:=by rw [hx,<-dE];exact e7
       have cF:=hid ca;clear ag dE bo hq bC eX e7 ca cK cI cO hx ea ct di dV da dg aD dP fK gq b3 aX aS;go_upto_region 13 with (fail)
       obtain⟨LB,cx⟩:∃LB,LB=wo.heap.size:=⟨_,rfl⟩
       obtain⟨W4,b6⟩:∃W4,W4=wo.alloc (.cells #[.slice pa pn pc,.slice la ln lc,.int .i64 ek,.bool er,.int .i64 en,.slice ta tn tc] 46):=⟨_,rfl⟩
       have dI:W4.heap[LB]?=some (.cells #[.slice pa pn pc,.slice la ln lc,.int .i64 ek,.bool er,.int .i64 en,.slice ta tn tc] 46 (0,0)):=by rw [b6,cx];exact heap_alloc_new _ _
       rw [<-b6,<-cx];have cf:Below wo.heap.size wo W4:=by rw [b6];exact bE
       have e5:W4.heap.size=LB+1:=by rw [b6,cx];simp
       have eF:agR W4 W4 base (akp base S w.heap.size W3.heap.size LB) af q x V (nsO bs V ord k) (.slice na k nc) U:=by
        refine (cF.out.later cf).keep (fun b hb=>?_) (fun pp bM kk a6 hx=>?_)
        . rcases hb with h | h
          . exact Aay (cF.out.st.x_lt h) cf.size
          . omega
        . rcases hx with h | h
          . exact cF.out.st.off pp bM kk a6 h
          . have:=(cF.out.st.rows.lt bM kk a6).2;omega
       have gn:=hid eF;have gb:Hid (Below wo.heap.size wo W4∧W4.heap.size=LB+1∧LB=wo.heap.size):=⟨cf,e5,cx⟩
       have bP:=hid dI;obtain⟨l0,l1,l2,l3,l4,l5⟩:=(aad (cs:=[_,_,_,_,_,_]) dI).get6;rw [Aab] at l1 l2 l3 l4 l5;have eQ:Hid (∀b o u,w.heap.size<=b->b<W3.heap.size->W3.cell? ⟨b,o,none⟩=some u->W4.cell? ⟨b,o,none⟩=some u):=fun b o u h1 h2 h3=>aab (eA.out b o u h1 h2 h3) cf;clear cx b6 dI cf e5 eF q0 q1 q2 q3 q4 q5 u3 o0;have fM:pn<=1048576:=by rw [aw.out.1,Hx.out];exact (aT.out.small _ (Aae (aap bs ar.out))).phis
       go_wp2_with fail;clear l0 l1 l2 l3 l4 l5;go_loopw [56] (fun s56 wr=>∃(i:Nat) (U':Pth->Value),i<=pn∧s56 = .int .i64 (i:Int)∧agR W4 wr base (akp base S w.heap.size W3.heap.size LB) af q (abQ (aa8 ord) (aaf bs 0 q) x i) V (nsO bs V ord k) (.slice na k nc) U') (fun s56 _=>pn - (intOf s56).toNat)
       case atStart=>exact⟨0,U,Aaj _,rfl,by rw [ank];exact gn.out⟩
       case round =>
        obtain⟨wp,fT⟩:∃wp:World,wp=wr:=⟨_,rfl⟩
        subst fT;obtain⟨i,U',hi,rfl,an⟩:=hrel;have aH:=hid an
        by_cases hipn:i<pn
        . obtain⟨ph,cg⟩:∃ph,x.phis[i]?=some ph:=⟨_,Aaa (by have:=aw.out.1;omega)⟩
          have cp:blkOf (af.set q (abQ (aa8 ord) (aaf bs 0 q) x i)) q=abQ (aa8 ord) (aaf bs 0 q) x i:=by rw [aaT (by rw [ak.out.len];exact ar.out),if_pos rfl]
          have hyp:(abQ (aa8 ord) (aaf bs 0 q) x i).phis[i]?=some ph:=by
           show (x.phis.mapIdx _)[i]?=_;rw [aai,cg];simp
          have ev:i<(abQ (aa8 ord) (aaf bs 0 q) x i).phis.length:=(Aad.1 hyp).1;obtain⟨fa,fc,cP⟩:=aah.shape (p := .src q i) an.st.rows (.inl (by show i<(blkOf _ q).phis.length;rw [cp];exact ev));obtain⟨fn,bW⟩:∃fn,fn=ph.src.length:=⟨_,rfl⟩
          obtain⟨pd,dR⟩:∃pd,pd=ph.dst:=⟨_,rfl⟩
          have bp:elN (af.set q (abQ (aa8 ord) (aaf bs 0 q) x i)) U' (nsO bs V ord k) (.src q i)=ph.src.map aaA:=by
           rw [aaY (by simp)];simp only [aae];rw [cp,Aaf,hyp];rfl
          rw [bp,Aah,<-bW] at cP;have aD:(elN (af.set q (abQ (aa8 ord) (aaf bs 0 q) x i)) U' (nsO bs V ord k) (.phis q))[i]?=some [.int .i64 pd,.slice fa fn fc]:=by
           rw [aaY (by simp)];simp only [aae];rw [cp,aai,hyp,Aaw,cP,dR]
          have au:okN (af.set q (abQ (aa8 ord) (aaf bs 0 q) x i)) (.phis q) := .inl (by show q<_;rw [Aat,ak.out.len];exact ar.out);obtain⟨P,fD,dF,-,-,ey,eO⟩:=an.st.rows.addr (p := .phis q) au (Ab9 (Aaj _) (Aad.1 aD).1);rw [(an.same.2 q).1,aC.out.1] at dF;have fo:pa=some ⟨P,0,none⟩:=by injection dF
          subst fo;have al:aal wp P (i * 2) [.int .i64 pd,.slice fa fn fc]:=(an.st.rows.at (p := .phis q) au ((an.same.2 q).1.trans aC.out.1) aD).1;obtain⟨q0,q1⟩:=al.get2;have gd:fn<=1048576:=by rw [bW];exact (aT.out.small _ (Aae (aap bs ar.out))).src ph (by rw [<-Hx.out];exact Aae cg)
          have et:(aaf bs 0 q).length=fn:=by rw [bW];exact (aT.out.src q ar.out ph (by rw [<-Hx.out];exact Aae cg)).symm
          have fR:=hid cg;have cD:=hid cp;have Hyp:=hid hyp;have b5:=hid bp;have aR:Hid (fn=ph.src.length∧pd=ph.dst):=⟨bW,dR⟩
          have dW:=hid cP;have ed:=hid et;have HP:Hid (base<=P∧P<wp.heap.size):=⟨ey,eO⟩
          clear an cg cp hyp ev cP bW dR bp aD au dF ey eO al et;go_upto_region 17 with (fail)
          obtain⟨PB,b4⟩:∃PB,PB=wp.heap.size:=⟨_,rfl⟩
          obtain⟨W5,bn⟩:∃W5,W5=wp.alloc (.cells #[.int .i64 pd,.slice fa fn fc] 115):=⟨_,rfl⟩
          have dG:W5.heap[PB]?=some (.cells #[.int .i64 pd,.slice fa fn fc] 115 (0,0)):=by rw [bn,b4];exact heap_alloc_new _ _
          rw [<-bn,<-b4];have cJ:Below wp.heap.size wp W5:=by rw [bn];exact bE
          have eV:W5.heap.size=PB+1:=by rw [bn,b4];simp
          have dU:Hid (∀b o u,w.heap.size<=b->b<W3.heap.size->W3.cell? ⟨b,o,none⟩=some u->W5.cell? ⟨b,o,none⟩=some u):=fun b o u h1 h2 h3=>aab (aH.out.st.cell (.inl (HX.out b h1 h2)) (eQ.out b o u h1 h2 h3)) cJ;have bD:Hid (agR W4 W5 base (akp base S w.heap.size W3.heap.size LB) af q (abQ (aa8 ord) (aaf bs 0 q) x i) V (nsO bs V ord k) (.slice na k nc) U'):=aH.out.later cJ;have cV:Hid (Below wp.heap.size wp W5∧W5.heap.size=PB+1∧PB=wp.heap.size):=⟨cJ,eV,b4⟩
          have gP:=hid dG;have cw:okN (af.set q (abQ (aa8 ord) (aaf bs 0 q) x i)) (.src q i) := .inl (by show i<(blkOf _ q).phis.length;rw [cD.out];exact (Aad.1 Hyp.out).1);have cz:=hid cw;obtain⟨b0,b1⟩:=(aad (cs:=[_,_]) dG).get2;rw [Aab] at b1;obtain⟨ab,dY,cs,gm,aW,eo,-,bT⟩:=dJ.out.get (k:=q) (by simp [aheadF];exact ar.out);rw [show (aheadF bs)[q]'(by simp [aheadF];exact ar.out)=aaf bs 0 q from (Aad.1 (ajv ar.out)).2] at eo;obtain⟨rv,rfl,dA⟩:=eo;obtain⟨ra,rc,bV,-⟩:=id dA.val;rw [ed.out] at bV;subst bV;subst gm;have dZ:=bT.get1;rw [Abd] at dZ;have fw:=hid dA;have fA:Hid (W5.cell? ⟨ab,dY+q,none⟩=some (.slice ra fn rc)):=dU.out ab _ _ aW.1 aW.2 dZ;have gz:Hid (∀x,x<n->W5.cell? ⟨T,x,none⟩=some (.int .i64 (ako ord m x))):=fun x hx=>dU.out T x _ ae.out.2.2.2.2.1 ae.out.2.2.2.2.2 (by rw [aaX a7.out,Ab7];exact aeA ord n m hx);clear b4 bn dG cJ eV cw aW dA bT dZ q0 q1;go_wp2_with fail;clear b0 b1;go_loopw [64,15] (fun s64 s15 wr=>∃(j:Nat) (ga:Option Addr) (gc:Nat),j<=fn∧s64 = .int .i64 (j:Int)∧s15 = .slice ga (acT (aa8 ord) (aaf bs 0 q) ph.src j).length gc∧atn W5 wr (.slice ga (acT (aa8 ord) (aaf bs 0 q) ph.src j).length gc) (acT (aa8 ord) (aaf bs 0 q) ph.src j)) (fun s64 _ _=>fn - (intOf s64).toNat)
          case atStart=>exact⟨0,none,0,Aaj _,rfl,rfl,World.ownsRow_nil _ _ _ _,Below.refl _ _⟩
          case round =>
           obtain⟨j,ga,gc,hj,rfl,rfl,az⟩:=hrel;have bH:=hid az
           by_cases hjn:j<fn
           . obtain⟨v2,bx⟩:∃v2,ph.src[j]?=some v2:=⟨_,Aaa (by have:=aR.out.1;omega)⟩
             have cH:j<(aaf bs 0 q).length:=by rw [ed.out];exact hjn
             obtain⟨pb,fQ,cs,fF,dv,⟨rfl,-⟩,-,eB⟩:=fw.out.get cH;subst fF;obtain⟨aq,db⟩:=Abb (abr (Aaq cH)).1;have dQ:aq<n:=by have:=(abr (Aaq cH)).2;have:=Hn.out;omega
             have eY:(aaf bs 0 q)[j]?=some (aq:Int):=by rw [Aaa cH,db]
             have c5:=eB.get1;rw [Abd,db] at c5;have c6:=aab (dU.out pb _ _ dv.1 dv.2 c5) az.low;have c7:=aab fA.out az.low;have c8:=aab (gz.out aq dQ) az.low;have b2:0<(elN (af.set q (abQ (aa8 ord) (aaf bs 0 q) x i)) U' (nsO bs V ord k) (.src q i)).length:=by rw [b5.out,Aah,<-aR.out.1];omega
             obtain⟨F,fZ,dO,-,-,-,-⟩:=bD.out.st.rows.addr cz.out b2;rw [dW.out] at dO;have gw:fa=some ⟨F,0,none⟩:=by injection dO
             subst gw;obtain⟨vr,bF⟩:∃vr,vr=v2.reg:=⟨_,rfl⟩
             obtain⟨vn,bz⟩:∃vn,vn=v2.n:=⟨_,rfl⟩
             have eJ:aal W5 F (j * 2) [.bool vr,.int .i64 vn]:=(bD.out.st.rows.at cz.out dW.out (i:=j) (by rw [b5.out,Aak,bx,bF,bz];rfl)).1;obtain⟨e0,e1⟩:=eJ.get2;have d0:=aab e0 az.low;have d1:=aab e1 az.low;obtain⟨d,hd⟩:∃d,d=ako ord m aq:=⟨_,rfl⟩
             rw [<-hd] at c8;have bf:d=aa8 ord aq:=by rw [hd];unfold aa8;rw [bl.out]
             have z6:pb<wr.heap.size:=aac c6;have z7:ab<wr.heap.size:=aac c7;have z8:T<wr.heap.size:=aac c8;have HD:=hid bf;have e9:=hid eY;have cC:=hid bx;have bO:Hid (vr=v2.reg∧vn=v2.n):=⟨bF,bz⟩
             clear dv eB c5 db eY b2 dO bF bz eJ e0 e1 hd bf bx az;go_upto_region 21 with (fail)
             obtain⟨VB,dw⟩:∃VB,VB=wr.heap.size:=⟨_,rfl⟩
             obtain⟨W7,cE⟩:∃W7,W7=wr.alloc (.cells #[.bool vr,.int .i64 vn] 41):=⟨_,rfl⟩
             have eD:W7.heap[VB]?=some (.cells #[.bool vr,.int .i64 vn] 41 (0,0)):=by rw [cE,dw];exact heap_alloc_new _ _
             rw [<-cE,<-dw];have cZ:Below wr.heap.size wr W7:=by rw [cE];exact bE
             have bR:atn W5 W7 (.slice ga (acT (aa8 ord) (aaf bs 0 q) ph.src j).length gc) (acT (aa8 ord) (aaf bs 0 q) ph.src j):=⟨aan bH.out.own cZ,bH.out.low.trans (cZ.mono bH.out.low.size)⟩
             have aZ:=hid bR;obtain⟨v0,v1⟩:=(aad (cs:=[_,_]) eD).get2;rw [Aab] at v1;clear cE dw eD cZ bR c6 c7 c8 d0 d1 z6 z7 z8
             by_cases ck:0<=d
             . have fL:decide (0<=d)=true:=decide_eq_true ck
               obtain⟨i0,fC,fx,fr,aO⟩:=info_parts aqx;go_wp2_with (at_builtin;refine wpList_append_own_at _ rfl _ _ 141 rfl W5.heap.size 143 i0 (.agg #[.int .i64 0,.bool false,.int .i64 0]) 3 24 Tryz.underlying141 fC fx fr aO rfl (by decide) (.slice ga (acT (aa8 ord) (aaf bs 0 q) ph.src j).length gc) (acT (aa8 ord) (aaf bs 0 q) ph.src j).length (((acT (aa8 ord) (aaf bs 0 q) ph.src j).map ads).flatten) rfl ?_ ⟨W7.heap.size,0,none⟩ 1 1 [.int .i64 d,.bool vr,.int .i64 vn] rfl rfl ?_ ?_ ?_ ?_ ?_ ?_)
               . exact aan aZ.out.own bE
               . exact aaB W7 [.int .i64 d,.bool vr,.int .i64 vn] 143 rfl
               . intro u hu
                 simp only [Aam,Aao,or_false] at hu;rcases hu with rfl | rfl | rfl <;> rfl
               . have:=aiV (aa8 ord) (aaf bs 0 q) ph.src j;have:=aR.out.1;unfold maxLen;omega
               . have:=aiV (aa8 ord) (aaf bs 0 q) ph.src j;have:=aR.out.1;omega
               . have:=aZ.out.low.size;simp;omega
               . intro v' w9 ai ah _ _
                 obtain⟨va,vc,rfl⟩:=aao ai;have aQ:=aZ.out.snoc (W8:=W7.alloc (.cells #[.int .i64 d,.bool vr,.int .i64 vn] 143)) bE (d,v2) (by rw [bO.out.1,bO.out.2] at ai;exact ai) ah;have aj:=ahG (at_:=aa8 ord) e9.out cC.out;rw [Aan,<-HD.out,if_pos ck] at aj;rw [<-aj] at aQ;have hlen:(acT (aa8 ord) (aaf bs 0 q) ph.src j).length+1=(acT (aa8 ord) (aaf bs 0 q) ph.src (j+1)).length:=by rw [aj];simp
                 rw [hlen] at aQ;have fS:=hid aQ;have ef:=hid hlen;clear ai ah aQ aj hlen;go_wp2_with fail;go_roundw
                 case rel=>exact⟨j+1,va,vc,by omega,by go_num,by rw [<-ef.out],fS.out⟩
                 case measure=>simp [intOf];omega
             . have fL:decide (0<=d)=false:=decide_eq_false ck
               have aj:=ahG (at_:=aa8 ord) e9.out cC.out;rw [Aan,<-HD.out,if_neg ck,Ab4] at aj;have be:=hid aj;clear aj;go_wp2_with fail;go_roundw
               case rel=>exact⟨j+1,ga,gc,by omega,by go_num,by rw [be.out],by rw [be.out];exact aZ.out⟩
               case measure=>simp [intOf];omega
           . obtain⟨we,fP⟩:∃we:World,we=wr:=⟨_,rfl⟩
             subst fP;have gB:fn=j:=by omega
             subst gB;have bA:acT (aa8 ord) (aaf bs 0 q) ph.src fn=ac0 (aa8 ord) (aaf bs 0 q) ph.src:=by
              rw [aR.out.1];exact anj (by rw [ed.out];exact Nat.le_of_eq aR.out.1.symm)
             rw [bA] at az;rw [bA];obtain⟨sl,cL⟩:∃sl,sl=(ac0 (aa8 ord) (aaf bs 0 q) ph.src).mergeSort leF:=⟨_,rfl⟩
             obtain⟨sn,aQ⟩:∃sn,sn=(ac0 (aa8 ord) (aaf bs 0 q) ph.src).length:=⟨_,rfl⟩
             have dK:=akU _ we az.own (alB ord (by rw [bl.out];exact hm) _ _) (ano aT.out ord q ph.src) (by have:=ahI (aa8 ord) (aaf bs 0 q) ph.src;rw [<-aR.out.1] at this;omega);have b8:sl.length=sn:=by rw [cL,aQ];exact (List.mergeSort_perm _ _).length_eq
             rw [<-aQ,<-cL] at dK;rw [<-aQ] at az ⊢;have gA:sn<=fn:=by rw [aQ,aR.out.1];exact ahI _ _ _
             have fk:=hid dK;have bG:=hid az;have fH:=hid cL;have aY:=hid b8;clear dK az cL b8 aQ bA bH hj hjn;go_upto_region 25 with (go_at_call 89;refine fk.out.mono ?_;rintro e w6 ⟨rfl,e6,ei⟩;have fi:=hid e6;have ez:Hid (Below W5.heap.size W5 w6):=bG.out.low.grown ei bG.out.low.size (fun b hb=>(bG.out.own.lt b hb).1);clear e6 ei)
             have aL:=bD.out.later ez.out;have aJ:w6.heap[LB]?=some (.cells #[.slice (some ⟨P,0,none⟩) pn pc,.slice la ln lc,.int .i64 ek,.bool er,.int .i64 en,.slice ta tn tc] 46 (0,0)):=(aL.st.kept LB (.inr rfl)).trans bP.out;have l0:=(aad (cs:=[_,_,_,_,_,_]) aJ) 0 _ rfl;rw [Aab] at l0;have au:okN (af.set q (abQ (aa8 ord) (aaf bs 0 q) x i)) (.phis q) := .inl (by show q<_;rw [Aat,ak.out.len];exact ar.out)
             obtain ⟨al, aO⟩ := aL.st.rows.at (p := .phis q) au ((aL.same.2 q).1.trans aC.out.1) (i := i) (cs := [.int .i64 pd, .slice fa fn fc]) (by
              rw [aaY (by simp)]
              simp only [aae]
              rw [cD.out, aai, Hyp.out, Aaw, dW.out, aR.out.2])
             have aI:aal w6 P (i * 2) [.int .i64 pd,.slice fa fn fc]:=al;have q1:=aI.get2.2;have z1:=aO (i * 2+1);have aE:=aL.src (i:=i) (g:=P) (c:=pc) (n:=pn) (v' := .slice none 0 0) (l:=[]) (by rw [ak.out.len];exact ar.out) (Aad.1 Hyp.out).1 aC.out.1 (World.ownsRow_nil _ _ _ _) ⟨rfl,rfl,rfl,Aac _,fun _ _ _=>rfl⟩ (fun b hb=>by cases hb);obtain⟨Wc,cu⟩:∃Wc,Wc=w6.setCell ⟨P,i * 2+1,none⟩ (.slice none 0 0):=⟨_,rfl⟩
             rw [<-cu] at aE;have dc:Wc.ownsRow W5.heap.size 143 3 (.slice ga sn gc) sn (sl.map ads).flatten:=by
              rw [cu];exact ownsRow_setCell_below fi.out (by show P<_;have:=HP.out;have:=cV.out;omega) _
             have cv:W5.heap.size<=Wc.heap.size:=by rw [cu];have:=ez.out.size;simpa [World.setCell] using this
             have cQ:∀b,(Value.slice ga sn gc).ownBlock=some b->W5.heap.size<=b∧b<Wc.heap.size:=fun b hb=>dc.lt b hb;have cj:agR Wc Wc base (arH base S w.heap.size W3.heap.size LB PB (Value.slice ga sn gc).ownBlock) af q (aeI (abQ (aa8 ord) (aaf bs 0 q) x i) i []) V (nsO bs V ord k) (.slice na k nc) (aaU U' (.src q i) (.slice none 0 0)):=by
              refine aE.keep (fun b hb=>?_) (fun pp bM kk a6 hx=>?_)
              . rcases hb with h | h | h
                . exact aE.st.x_lt h
                . have:=cV.out;omega
                . exact (cQ b h).2
              . rcases hx with h | h
                . exact aE.st.off pp bM kk a6 h
                . have fW:kk<PB:=by
                   by_cases e:pp = .src q i
                   . rw [e,aaj] at a6;cases a6
                   . rw [aag _ _ e] at a6
                     have dx:okN (af.set q (abQ (aa8 ord) (aaf bs 0 q) x i)) pp:=by
                      have ec:q<(af.set q (abQ (aa8 ord) (aaf bs 0 q) x i)).length:=by rw [Aat,ak.out.len];exact ar.out
                      have:=(alR (bs:=af.set q (abQ (aa8 ord) (aaf bs 0 q) x i)) ec (y:=aeI (abQ (aa8 ord) (aaf bs 0 q) x i) i []) (by rw [cD.out];exact ag8 _ _ _) (by rw [cD.out];rfl) pp).1;rw [Aaz] at this;exact this bM
                     have:=(aH.out.st.rows.lt dx kk a6).2;have:=cV.out;omega
                  rcases h with h | h
                  . omega
                  . have:=(cQ kk h).1;have:=cV.out;omega
             have bL:=hid aE;have dL:=hid cj;have fX:=hid dc;have gH:=hid cQ;have fB:=hid cu;have gp:=hid cv;clear aL aJ au al aO aI aE cj cu dc cQ cv;go_upto_region 26 with (fail)
             rw [<-fB.out];clear l0 q1 z1;go_wp2_with fail;go_loopw [97] (fun s97 wr=>∃(j:Nat) (U2:Pth->Value),j<=sn∧s97 = .int .i64 (j:Int)∧agR Wc wr base (arH base S w.heap.size W3.heap.size LB PB (Value.slice ga sn gc).ownBlock) af q (aeI (abQ (aa8 ord) (aaf bs 0 q) x i) i ((sl.take j).map Prod.snd)) V (nsO bs V ord k) (.slice na k nc) U2) (fun s97 _=>sn - (intOf s97).toNat)
             case atStart=>exact⟨0,_,Aaj _,rfl,dL.out⟩
             case round =>
              obtain⟨wl,fv⟩:∃wl:World,wl=wr:=⟨_,rfl⟩
              subst fv;obtain⟨j,U2,hj,rfl,aB⟩:=hrel;have eW:=hid aB
              by_cases hjn:j<sn
              . obtain⟨⟨d,v2⟩,bx⟩:∃y,sl[j]?=some y:=⟨_,Aaa (by rw [aY.out];exact hjn)⟩
                obtain⟨vr,bF⟩:∃vr,vr=v2.reg:=⟨_,rfl⟩
                obtain⟨vn,bz⟩:∃vn,vn=v2.n:=⟨_,rfl⟩
                obtain⟨G,dt,eZ,eG⟩:=ann fX.out (fun cs aD=>by obtain⟨y,_,rfl⟩:=Aal.1 aD;rfl) (j:=j) (cs:=[.int .i64 d,.bool vr,.int .i64 vn]) (by rw [Aak,bx,bF,bz];rfl) (by omega);have gg:ga=some ⟨G,0,none⟩:=by injection eZ
                subst gg;obtain⟨y0,y1,y2⟩:=eG.get3;have x0:=aB.st.cell (b:=G) (.inr (.inr rfl)) y0;have x1:=aB.st.cell (b:=G) (.inr (.inr rfl)) y1;have x2:=aB.st.cell (b:=G) (.inr (.inr rfl)) y2;have ec:q<(af.set q (abQ (aa8 ord) (aaf bs 0 q) x i)).length:=by rw [Aat,ak.out.len];exact ar.out
                have aA:blkOf (af.set q (aeI (abQ (aa8 ord) (aaf bs 0 q) x i) i ((sl.take j).map Prod.snd))) q=(aeI (abQ (aa8 ord) (aaf bs 0 q) x i) i ((sl.take j).map Prod.snd)):=by rw [aaT (by rw [ak.out.len];exact ar.out),if_pos rfl]
                have cS:i<(abQ (aa8 ord) (aaf bs 0 q) x i).phis.length:=(Aad.1 Hyp.out).1;have br:(aeI (abQ (aa8 ord) (aaf bs 0 q) x i) i ((sl.take j).map Prod.snd)).phis[i]?=some ⟨pd,(sl.take j).map Prod.snd⟩:=by
                 show ((abQ (aa8 ord) (aaf bs 0 q) x i).phis.set i _)[i]?=_;rw [Aa6 cS,Aaf,Hyp.out,aR.out.2];rfl
                have aK:okN (af.set q (aeI (abQ (aa8 ord) (aaf bs 0 q) x i) i ((sl.take j).map Prod.snd))) (.src q i) := .inl (by show i<(blkOf _ q).phis.length;rw [aA,ag8];exact cS);have au:okN (af.set q (aeI (abQ (aa8 ord) (aaf bs 0 q) x i) i ((sl.take j).map Prod.snd))) (.phis q) := .inl (by show q<_;rw [Aat,ak.out.len];exact ar.out);have b7:elN (af.set q (aeI (abQ (aa8 ord) (aaf bs 0 q) x i) i ((sl.take j).map Prod.snd))) U2 (nsO bs V ord k) (.src q i)=((sl.take j).map Prod.snd).map aaA:=by
                 rw [aaY (by simp)];simp only [aae];rw [aA,Aaf,br];rfl
                obtain⟨sa,sc,bB⟩:=aah.shape aB.st.rows aK;have ai:=aB.st.rows.own _ aK;rw [b7,Aah,Aah,Aar,aY.out,Abt hj] at bB ai;rw [bB] at ai
                obtain ⟨al, aO⟩ := aB.st.rows.at (p := .phis q) au ((aB.same.2 q).1.trans aC.out.1) (i := i) (cs := [.int .i64 pd, .slice sa j sc]) (by
                 rw [aaY (by simp)]
                 simp only [aae]
                 rw [aA, aai, br, Aaw, bB])
                have aI:aal wl P (i * 2) [.int .i64 pd,.slice sa j sc]:=al;have k1:=aI.get2.2;have kz:=aO (i * 2+1);have ax:wl.heap[LB]?=some (.cells #[.slice (some ⟨P,0,none⟩) pn pc,.slice la ln lc,.int .i64 ek,.bool er,.int .i64 en,.slice ta tn tc] 46 (0,0)):=(aB.st.kept LB (.inl (.inr rfl))).trans ((bL.out.st.kept LB (.inr rfl)).trans bP.out);have l0:=(aad (cs:=[_,_,_,_,_,_]) ax) 0 _ rfl;rw [Aab] at l0;have cr:∀b,(Value.slice sa j sc).ownBlock=some b->b≠LB∧b≠P:=fun b hb=>by
                 refine⟨fun e=>aB.st.off _ aK b (by rw [bB];exact hb) (.inl (.inr e)),fun e=>?_⟩;refine aB.st.rows.apart (.src q i) (.phis q) aK au (by simp) b (by rw [bB];exact hb) ?_;rw [(aB.same.2 q).1,aC.out.1,e];rfl
                have fl:Hid (P≠LB):=by
                 intro e;have:=HP.out;have:=aH.out.st.off (.phis q) (.inl (by show q<_;rw [Aat,ak.out.len];exact ar.out)) P (by rw [(aH.out.same.2 q).1,aC.out.1];rfl);exact this (.inr e)
                have aU:=hid ai;have bu:=hid cr;have fb:=hid bB;have cC:=hid bx;have bO:Hid (vr=v2.reg∧vn=v2.n):=⟨bF,bz⟩
                have eC:=hid cS;clear aB bx bF bz eZ eG y0 y1 y2 ec aA cS br aK au b7 bB ai al aO aI ax cr;go_upto_region 29 with (fail)
                obtain⟨FB,dn⟩:∃FB,FB=wl.heap.size:=⟨_,rfl⟩
                obtain⟨W8,cU⟩:∃W8,W8=wl.alloc (.cells #[.int .i64 d,.bool vr,.int .i64 vn] 143):=⟨_,rfl⟩
                have ej:W8.heap[FB]?=some (.cells #[.int .i64 d,.bool vr,.int .i64 vn] 143 (0,0)):=by rw [cU,dn];exact heap_alloc_new _ _
                rw [<-cU,<-dn];have cc:Below wl.heap.size wl W8:=by rw [cU];exact bE
                obtain⟨-,r1,r2⟩:=(aad (cs:=[_,_,_]) ej).get3;rw [Aab] at r1 r2;have e3:=l0;have eP:=k1;have l0:=aab l0 cc;have kz:=(cc.frozen (p:=⟨P,i * 2+1,none⟩) (aac k1)).trans kz;have k1:=aab k1 cc;have zL:LB<W8.heap.size:=aac l0;have zP:P<W8.heap.size:=aac k1;have zF:FB<W8.heap.size:=aac r1;have cR:Hid (FB≠LB∧FB≠P∧(Value.slice sa j sc).ownBlock≠some FB):=by
                 have h1:=aU.out.lt;refine⟨fun e=>?_,fun e=>?_,fun e=>?_⟩
                 . have:=aac e3;omega
                 . have:=aac eP;omega
                 . have:=(h1 FB e).2;omega
                have cG:=hid cc;clear cU dn ej cc x0 x1 x2 e3 eP;obtain⟨i1,gE,dz,c4,dS⟩:=info_parts ahq;have aW:Below W8.heap.size W8 (W8.alloc (.cells #[.bool vr,.int .i64 vn] 41)).drew:=((Below.refl W8.heap.size W8).alloc (Aac _) _).drew;have gL:Hid (W8.drew.cell? ⟨LB,0,none⟩=some (.slice (some ⟨P,0,none⟩) pn pc)∧W8.drew.cell? ⟨FB,1,none⟩=some (.bool vr)∧W8.drew.cell? ⟨FB,2,none⟩=some (.int .i64 vn)):=⟨l0,r1,r2⟩
                have gG:Hid ((W8.alloc (.cells #[.bool vr,.int .i64 vn] 41)).drew.cell? ⟨LB,0,none⟩=some (.slice (some ⟨P,0,none⟩) pn pc)∧(W8.alloc (.cells #[.bool vr,.int .i64 vn] 41)).drew.cell? ⟨FB,1,none⟩=some (.bool vr)∧(W8.alloc (.cells #[.bool vr,.int .i64 vn] 41)).drew.cell? ⟨FB,2,none⟩=some (.int .i64 vn)):=⟨aab l0 aW,aab r1 aW,aab r2 aW⟩
                have dj:=hid aW;clear aW
                go_region_law
                 ((refine adf rfl _ _ 47 rfl base 41 i1 (.agg #[.bool false, .int .i64 0]) 2 16 Tryz.underlying47 gE dz c4 dS rfl (by decide) (.slice sa j sc) j ((((sl.take j).map Prod.snd).map aaA).flatten) rfl ?_ ⟨W8.heap.size, 0, none⟩ 1 1 [.bool vr, .int .i64 vn] rfl rfl ?_ ?_ ?_ ?_ ?_ ?_
                   . exact aan (aan aU.out cG.out) dj.out
                   . intro m u hu; exact aaB _ _ _ rfl m u hu
                   . intro u hu; simp only [Aam, Aao, or_false] at hu; rcases hu with rfl | rfl <;> rfl
                   . unfold maxLen; omega
                   . omega
                   . have := eW.out.st.base_le; have := cG.out.size; simp; omega
                   intro v3 w9 ao ah cA
                   obtain ⟨cW, cT, rfl⟩ := aao ao
                   have aF : ∀ b, b < W8.heap.size -> (Value.slice sa j sc).ownBlock ≠ some b -> w9.heap[b]? = W8.heap[b]? := fun b h1 h2 => (ah.block b (by simp; omega) (fun e => h2 e.symm)).trans (Below.heap_alloc W8.drew _ _ h1)
                   have n0 := (World.cell?_of_block (w := W8) (a := ⟨LB, 0, none⟩) (aF LB zL (fun e => (bu.out LB e).1 rfl))).trans l0
                   have m1 := (World.cell?_of_block (w := W8) (a := ⟨FB, 1, none⟩) (aF FB zF (fun e => cR.out.2.2 e))).trans r1
                   have m2 := (World.cell?_of_block (w := W8) (a := ⟨FB, 2, none⟩) (aF FB zF (fun e => cR.out.2.2 e))).trans r2
                   have n1 := (World.cell?_of_block (w := W8) (a := ⟨P, i * 2 + 1, none⟩) (aF P zP (fun e => (bu.out P e).2 rfl))).trans k1
                   have nz := (World.frozen?_of_block (w := W8) (a := ⟨P, i * 2 + 1, none⟩) (aF P zP (fun e => (bu.out P e).2 rfl))).trans kz
                   have gR : Hid (w9.cell? ⟨LB, 0, none⟩ = some (.slice (some ⟨P, 0, none⟩) pn pc) ∧ w9.cell? ⟨FB, 1, none⟩ = some (.bool vr) ∧ w9.cell? ⟨FB, 2, none⟩ = some (.int .i64 vn)) := ⟨n0, m1, m2⟩
                   have ff : Hid ((w9.setCell ⟨P, i * 2 + 1, none⟩ (.slice cW (j + 1) cT)).cell? ⟨LB, 0, none⟩ = some (.slice (some ⟨P, 0, none⟩) pn pc) ∧ (w9.setCell ⟨P, i * 2 + 1, none⟩ (.slice cW (j + 1) cT)).cell? ⟨FB, 1, none⟩ = some (.bool vr) ∧ (w9.setCell ⟨P, i * 2 + 1, none⟩ (.slice cW (j + 1) cT)).cell? ⟨FB, 2, none⟩ = some (.int .i64 vn)) := by
                    refine ⟨?_, ?_, ?_⟩
                    . exact (aam _ (fun e => fl.out e.symm) _ _).trans n0
                    . exact (aam _ cR.out.2.1 _ _).trans m1
                    . exact (aam _ cR.out.2.1 _ _).trans m2
                   have bQ := hid ao
                   have cy := hid ah
                   have dp := hid cA
                   clear ao ah cA aF m1 m2))
                all_goals
                 go_wp2_with fail;go_roundw
                 case rel =>
                  have cX:=eW.out.later (cG.out.trans (((Below.refl W8.heap.size W8).drew.alloc (o := .cells #[.bool vr,.int .i64 vn] 41) (by simp)).mono cG.out.size));have fy:(sl.take (j+1)).map Prod.snd=(sl.take j).map Prod.snd++[v2]:=by rw [Acb,cC.out];simp
                  have ct:((sl.take (j+1)).map Prod.snd).length=j+1:=by rw [Aah,Aar,aY.out];omega
                  have aN := cX.src (i := i) (g := P) (c := pc) (n := pn) (v' := .slice cW (j + 1) cT) (l := (sl.take (j + 1)).map Prod.snd) (by rw [ak.out.len]; exact ar.out) (by rw [ag8]; exact eC.out) aC.out.1 (by
                   rw [ct, fy, Aa8, Abs]
                   have h := bQ.out
                   rw [bO.out.1, bO.out.2] at h
                   exact h) (by rw [fb.out]; exact cy.out) (fun b hb => by
                   rw [fb.out]
                   rcases dp.out with h | h
                   . exact .inl (by rw [<- h]; exact hb)
                   . rw [h] at hb; cases hb; exact .inr (Aac _))
                  rw [anl _ _ _ _ eC.out] at aN;exact⟨j+1,_,by omega,by go_num,aN⟩
                 case measure=>simp [intOf];omega
              . have fU:sn=j:=by omega
                subst fU;have aN:=bL.out.trans aB (fun b hb => .inl hb);rw [show sl.take sn=sl by rw [<-aY.out];exact Aa1,show sl.map Prod.snd=(ae2 (aa8 ord) (aaf bs 0 q) ph).src by rw [fH.out];rfl,aoF fR.out] at aN;have dy:=hid aN;clear aB aN hj hjn;go_wp2_with fail;go_roundw
                case rel=>exact⟨i+1,U2,by omega,by go_num,dy.out⟩
                case measure=>simp [intOf];omega
        . obtain⟨dC,c9⟩:∃dC:World,dC=wp:=⟨_,rfl⟩
          subst c9;have fg:pn=i:=by omega
          subst fg;have hto:abQ (aa8 ord) (aaf bs 0 q) x pn=aly (aa8 ord) (aaf bs 0 q) x 0:=by rw [aw.out.1];exact aoE _ _ _
          rw [hto] at an;have fY:=hid an;have aJ:dC.heap[LB]?=some (.cells #[.slice pa pn pc,.slice la ln lc,.int .i64 ek,.bool er,.int .i64 en,.slice ta tn tc] 46 (0,0)):=(an.st.kept LB (.inr rfl)).trans bP.out;obtain⟨l0,l1,l2,l3,l4,l5⟩:=(aad (cs:=[_,_,_,_,_,_]) aJ).get6;rw [Aab] at l1 l2 l3 l4 l5;have ft:tn<=1048576:=by rw [aw.out.2.2.1,Hx.out];exact (aT.out.small _ (Aae (aap bs ar.out))).to
          clear hto an aJ aH hi hipn;go_wp2_with fail;clear l0 l1 l2 l3 l4 l5;go_loopw [122] (fun s122 wr=>∃(j:Nat),j<=tn∧s122 = .int .i64 (j:Int)∧agR W4 wr base (akp base S w.heap.size W3.heap.size LB) af q (aly (aa8 ord) (aaf bs 0 q) x j) V (nsO bs V ord k) (.slice na k nc) U') (fun s122 _=>tn - (intOf s122).toNat)
          case atStart=>exact⟨0,Aaj _,rfl,fY.out⟩
          case round =>
           obtain⟨wq,gi⟩:∃wq:World,wq=wr:=⟨_,rfl⟩
           subst gi;obtain⟨j,hj,rfl,ay⟩:=hrel;have bU:=hid ay
           by_cases hjn:j<tn
           . obtain⟨t,ht⟩:∃t,x.fin.to[j]?=some t:=⟨_,Aaa (by have:=aw.out.2.2.1;omega)⟩
             have eT:=aT.out.toIn x (by rw [Hx.out];exact Aae (aap bs ar.out)) t (Aae ht);obtain⟨tq,rfl⟩:=Abb eT.1;have fu:tq<n:=by have:=Hn.out;omega
             have aA:blkOf (af.set q (aly (aa8 ord) (aaf bs 0 q) x j)) q=aly (aa8 ord) (aaf bs 0 q) x j:=by rw [aaT (by rw [ak.out.len];exact ar.out),if_pos rfl]
             have bq:okN (af.set q (aly (aa8 ord) (aaf bs 0 q) x j)) (.to q) := .inl (by show q<_;rw [Aat,ak.out.len];exact ar.out);have ds:(aly (aa8 ord) (aaf bs 0 q) x j).fin.to[j]?=some (tq:Int):=by
              show (x.fin.to.mapIdx _)[j]?=_;rw [aai,ht];simp
             have aD:(elN (af.set q (aly (aa8 ord) (aaf bs 0 q) x j)) U' (nsO bs V ord k) (.to q))[j]?=some [.int .i64 (tq:Int)]:=by
              rw [aaY (by simp)];simp only [aae];rw [aA,Aak,ds];rfl
             obtain⟨G,dt,dk,-,-,fG,fI⟩:=ay.st.rows.addr bq (Ab9 (Aaj _) (Aad.1 aD).1);rw [(ay.same.2 q).2.2,aC.out.2.2] at dk;have gx:ta=some ⟨G,0,none⟩:=by injection dk
             subst gx;obtain⟨al,aO⟩:=ay.st.rows.at (p := .to q) bq ((ay.same.2 q).2.2.trans aC.out.2.2) aD;have q0:=al.get1;rw [show j * Pth.sz (.to q)=j by simp [Pth.sz]] at q0;have qz:=aO j;have ax:wq.heap[LB]?=some (.cells #[.slice pa pn pc,.slice la ln lc,.int .i64 ek,.bool er,.int .i64 en,.slice (some ⟨G,0,none⟩) tn tc] 46 (0,0)):=(ay.st.kept LB (.inr rfl)).trans bP.out;have l5:=(aad (cs:=[_,_,_,_,_,_]) ax) 5 _ rfl;rw [Aab] at l5;obtain⟨d,hd⟩:∃d,d=ako ord m tq:=⟨_,rfl⟩
             have bf:d=aa8 ord tq:=by rw [hd];unfold aa8;rw [bl.out]
             have c8:wq.cell? ⟨T,tq,none⟩=some (.int .i64 d):=by
              rw [hd];exact ay.st.cell (b:=T) (.inl (HX.out T ae.out.2.2.2.2.1 ae.out.2.2.2.2.2)) (eQ.out T tq _ ae.out.2.2.2.2.1 ae.out.2.2.2.2.2 (by rw [aaX a7.out,Ab7];exact aeA ord n m fu))
             have aN:=(bU.out.later (Below.refl wq.heap.size wq).drew).to (j:=j) (g:=G) (c:=tc) (n:=tn) (t:=d) (by rw [ak.out.len];exact ar.out) (Aad.1 ds).1 aC.out.2.2;have dd:=aqz (at_:=aa8 ord) (A:=aaf bs 0 q) (x:=x) ht;rw [Aan,<-bf] at dd;rw [dd] at aN;have dy:=hid aN;have zG:G<wq.heap.size:=aac q0;have zL:LB<wq.heap.size:=aac l5;have zT:T<wq.heap.size:=aac c8;clear ay ht eT aA bq ds aD dk fG fI al aO ax hd bf aN dd;go_wp2_with fail;go_big_region
             all_goals
              go_wp2_with fail;go_roundw
              case rel=>exact⟨j+1,by omega,by go_num,dy.out⟩
              case measure=>simp [intOf];omega
           . have fE:tn=j:=by omega
             subst fE;have eN:aly (aa8 ord) (aaf bs 0 q) x tn=afi (aa8 ord) (aaf bs 0 q) x:=by rw [aw.out.2.2.1];exact aqy _ _ _
             rw [eN] at ay;have ax:wq.heap[LB]?=some (.cells #[.slice pa pn pc,.slice la ln lc,.int .i64 ek,.bool er,.int .i64 en,.slice ta tn tc] 46 (0,0)):=(ay.st.kept LB (.inr rfl)).trans bP.out;obtain⟨l0,l1,l2,l3,l4,l5⟩:=(aad (cs:=[_,_,_,_,_,_]) ax).get6;rw [Aab] at l1 l2 l3 l4 l5;have ai:=ay.st.rows.own .vBlk (.inr rfl);rw [aeJ,ay.new,aoG eH] at ai;have aU:=hid ai;have eR:abd (blkOf bs q) (V (.phis q)) (V (.list q)) (V (.to q))=[.slice pa pn pc,.slice la ln lc,.int .i64 ek,.bool er,.int .i64 en,.slice ta tn tc]:=by
              rw [aC.out.1,aC.out.2.1,aC.out.2.2,aw.out.2.2.2.1,aw.out.2.2.2.2.1,aw.out.2.2.2.2.2,Hx.out];rfl
             have fO:=hid eR;have cn:=hid ay;obtain⟨ib,gf,dz,c4,dS⟩:=info_parts ahy;clear eN ay ax ai eR hj hjn bU;go_wp2_with (at_builtin;refine wpList_append_own_at _ rfl _ _ 35 rfl base 46 ib (.agg #[.slice none 0 0,.slice none 0 0,.int .i64 0,.bool false,.int .i64 0,.slice none 0 0]) 6 96 Tryz.underlying35 gf dz c4 dS rfl (by decide) (.slice na k nc) k ((nsO bs V ord k).flatten) rfl ?_ ⟨wq.heap.size,0,none⟩ 1 1 [.slice pa pn pc,.slice la ln lc,.int .i64 ek,.bool er,.int .i64 en,.slice ta tn tc] rfl rfl ?_ ?_ ?_ ?_ ?_ ?_)
             . exact aan aU.out bE
             . intro m u hu;exact aaB _ _ _ rfl m u hu
             . intro u hu
               simp only [Aam,Aao,or_false] at hu;rcases hu with rfl | rfl | rfl | rfl | rfl | rfl <;> rfl
             . unfold maxLen;omega
             . omega
             . have:=cn.out.st.base_le;simp;omega
             . intro v' w9 ao ah _ fe
               obtain⟨va,vc,rfl⟩:=aao ao
               have a8 := (ak.out.later gb.out.1).next (v' := .slice va (k + 1) vc) ar.out ee.out (by rw [<- Hx.out]; exact cn.out.later (W' := wq.alloc (.cells #[.slice pa pn pc, .slice la ln lc, .int .i64 ek, .bool er, .int .i64 en, .slice ta tn tc] 46)) bE) (fun b hb => Or.inl hb) (by rw [aoG eH, fO.out]; exact ao) ah (fun b hb => by
                rcases fe with h | h
                . exact .inl (by rw [<- h]; exact hb)
                . rw [h] at hb; cases hb; exact .inr (by simp))
               have bZ:=hid a8;clear ao ah fe a8;go_wp2_with fail;go_roundw
               case rel=>exact⟨k+1,_,_,va,vc,by omega,by go_num,rfl,aaj _ _ _,bZ.out⟩
               case measure=>simp [intOf];omega
     . have dm:m=k:=by omega
       subst dm;have bm:wo.heap[UB]?=some (.cells #[.string nm,.int .i64 p,.int .i64 r,.slice ba n bc] 37 (0,0)):=(ag.st.kept UB (HX.out UB ae.out.1 ae.out.2.1)).trans bN.out;have aP:wo.heap[UO]?=some (.cells #[.string ⟨#[]⟩,.int .i64 0,.int .i64 0,.slice none 0 0] 37 (0,0)):=(ag.st.kept UO (HX.out UO ae.out.2.2.1 ae.out.2.2.2.1)).trans eb.out;obtain⟨c0,c1,c2,c3⟩:=(aad (cs:=[_,_,_,_]) bm).get4;obtain⟨o0,o1,o2,o3⟩:=(aad (cs:=[_,_,_,_]) aP).get4;rw [Aab] at c1 c2 c3 o1 o2 o3;have f3:=aaq bm 3;have z0:=aaq aP 0;have z1:=aaq aP 1;have z2:=aaq aP 2;have z3:=aaq aP 3;have dB:¬UO=UB:=by have:=aM.out;omega
       have el:aal (wo.setCell ⟨UB,3,none⟩ (.slice na m nc)) UO 0 [.string ⟨#[]⟩,.int .i64 0,.int .i64 0,.slice none 0 0]:=fun j v hj=>by
        rw [aam _ dB];exact aad aP j v hj
       have fJ:=hid el;have gI:=hid dB;clear bm aP hkm hk el;go_wp2_with fail;have bn:=asW (u0 := .string nm) (u1 := .int .i64 p) (u2 := .int .i64 r) (u3 := .slice na m nc) fJ.out;refine bodyPost_ret (adP rfl rfl bn) rfl ?_;have eL:∀b,alz base S w.heap.size W3.heap.size b->∀q,okN af q->(U q).ownBlock≠some b:=fun b hb q hq e=>ak.out.st.off q hq b e hb;have gr:=eL UB (HX.out UB ae.out.1 ae.out.2.1);have cN:=eL UO (HX.out UO ae.out.2.2.1 ae.out.2.2.2.1);have bj:=ak.out.st.rows;rw [<-bl.out] at bj;have e2:=alA.pick (by have h:=ak.out;rw [<-bl.out] at h;exact h) df.out e4.out (((((bj.setOff (o:=3) gr (.slice na m nc)).setOff (o:=0) cN (.string nm)).setOff (o:=1) cN (.int .i64 p)).setOff (o:=2) cN (.int .i64 r)).setOff (o:=3) cN (.slice na m nc));refine⟨_,?_,e2.1,?_,?_⟩
       . show _=Ending.returned (.agg #[.string nm,.int .i64 p,.int .i64 r,U .vBlk])
         rw [gy.out]
       . have hb:=(cM.out.mono HB.out).trans ak.out.st.low
         have h1:base<=UB:=by have:=ae.out;have:=HB.out;omega
         have h2:base<=UO:=by have:=ae.out;have:=HB.out;omega
         exact ((((hb.setCell (p:=⟨UB,3,none⟩) h1 _).setCell (p:=⟨UO,0,none⟩) h2 _).setCell (p:=⟨UO,1,none⟩) h2 _).setCell (p:=⟨UO,2,none⟩) h2 _).setCell (p:=⟨UO,3,none⟩) h2 _
       . intro b hb
         have bK:=(HS.out b hb).1;have h1:b≠UB:=by have:=ae.out;omega
         have h2:b≠UO:=by have:=ae.out;omega
         refine⟨?_,fun q hq e=>ak.out.st.off _ (e2.2 q hq) b e (.inr (.inl hb))⟩;refine (((((Kp.refl (fun b=>b≠UB∧b≠UO) wo).set (a:=⟨UB,3,none⟩) (fun h=>h.1 rfl) _).set (a:=⟨UO,0,none⟩) (fun h=>h.2 rfl) _).set (a:=⟨UO,1,none⟩) (fun h=>h.2 rfl) _).set (a:=⟨UO,2,none⟩) (fun h=>h.2 rfl) _ |>.set (a:=⟨UO,3,none⟩) (fun h=>h.2 rfl) _).block b ?_ ⟨h1,h2⟩ |>.trans ?_
         . exact Aay bK (Aai cM.out.size ak.out.st.low.size)
         . exact (ak.out.st.kept b (.inr (.inl hb))).trans (cM.out.block b bK)
end
end Go.Proofs.YtpeejlpcikefcaaGreatDoor
