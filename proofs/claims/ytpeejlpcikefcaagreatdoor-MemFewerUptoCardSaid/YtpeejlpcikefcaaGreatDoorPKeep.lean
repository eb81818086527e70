import Derived.Shelf.Bits.Mul64
import Derived.Test.YtpeejlpcikefcaaGreatDoorPSortF
import Derived.Test.YtpeejlpcikefcaaGreatDoorPRowSt
/- slices.Repeat of a list of one Boolean; math/bits.Mul of 1 and a small number. slices.Repeat of a list of one number. tidy.Keep: the walk. -/
set_option maxHeartbeats 8000000
set_option maxRecDepth 100000
namespace Go.Proofs.YtpeejlpcikefcaaGreatDoor
section
open Go.RowKit Go.Lib
theorem aoz(x y:Nat)(hx:x<18446744073709551616)(hy:y<18446744073709551616)(w:World) :
 Calls Tryz.prog 105 #[.int .u64 x,.int .u64 y] w fun e w'=>e = .returned (.tuple #[.int .u64 ((x * y / 18446744073709551616:Nat):Int),.int .u64 ((x * y % 18446744073709551616:Nat):Int)])∧w=w':=by
 obtain⟨bd,bt,bw,fi⟩:=Lib.mul64_hi x y hx hy;have ba:=Lib.half_mul_le (a:=x / 4294967296) (b:=y / 4294967296) (by omega) (by omega);have bb:=Lib.half_mul_le (a:=x / 4294967296) (b:=y % 4294967296) (by omega) (by omega);have bc:=Lib.half_mul_le (a:=x % 4294967296) (b:=y / 4294967296) (by omega) (by omega);have ff:x / 4294967296 * (y / 4294967296)<18446744073709551616:=by omega
 have fv:x / 4294967296 * (y % 4294967296)<18446744073709551616:=by omega
 have fN:x % 4294967296 * (y / 4294967296)<18446744073709551616:=by omega
 have fl:x / 4294967296 * (y / 4294967296)+(x / 4294967296 * (y % 4294967296)+x % 4294967296 * (y % 4294967296) / 4294967296) / 4294967296<18446744073709551616:=by omega
 have bh:x / 4294967296 * (y / 4294967296)+(x / 4294967296 * (y % 4294967296)+x % 4294967296 * (y % 4294967296) / 4294967296) / 4294967296+((x / 4294967296 * (y % 4294967296)+x % 4294967296 * (y % 4294967296) / 4294967296) % 4294967296+x % 4294967296 * (y / 4294967296)) / 4294967296<18446744073709551616:=by omega
 go_enter Tryz.func105,Tryz.ntmps105;go_wp2;simp only [Mul64.maskN x hx,Mul64.maskN y hy,Mul64.divN,Mul64.mulN,Mul64.addN,Mul64.wrapN _ bd,Mul64.wrapN _ fv,Mul64.wrapN _ bt,Mul64.maskN _ bt,Mul64.wrapN _ fN,Mul64.wrapN _ bw,Mul64.wrapN _ ff,Mul64.wrapN _ fl,Mul64.wrapN _ bh,Mul64.wrapM (x * y)];rw [fi];go_ret2;exact⟨rfl,rfl⟩
theorem aiO(y:Nat)(hy:y<=1048576)(w:World) :
 Calls Tryz.prog 76 #[.int .u64 1,.int .u64 (y:Int)] w fun e w'=>e = .returned (.tuple #[.int .u64 0,.int .u64 (y:Int)])∧w=w':=by
 have da:=aoz 1 y (by decide) (by omega) w;rw [Nat.one_mul,Nat.div_eq_of_lt (by omega),Nat.mod_eq_of_lt (by omega)] at da;have H:=hid da;clear da;go_enter Tryz.func76,Tryz.ntmps76;go_wp2_with (go_at_call 105;refine H.out.mono ?_;rintro e w' ⟨rfl,rfl⟩);go_ret2;exact⟨rfl,rfl⟩
theorem aiP {α:Type}(a b:α){m n c:Nat}(h:m+c<=n):splice (List.replicate m a++List.replicate (n - m) b) m (List.replicate c a)=List.replicate (m+c) a++List.replicate (n - (m+c)) b:=by
 unfold splice;rw [List.take_left' (by simp),List.drop_append,Ab1,Ab1,List.drop_eq_nil_of_le (by simp),Abg,List.drop_replicate,<-List.replicate_append_replicate,Abh,show n - m - (m+c - m)=n - (m+c) by omega]
theorem ad6(z:Value)(n:Nat):madeCells #[z] n=(List.replicate n z).toArray:=by
 apply Array.ext
 . simp [madeCells]
 . intro i h1 h2
   simp [madeCells,Nat.mod_one]
end
section
open Go.RowKit Go.Lib
theorem ams:(Tryz.prog.info? 3).map (fun i=>(i.zero,i.size,i.bytes))=some (some (.int .i64 0),1,8):=by kernel_rfl
theorem amt:(Tryz.prog.info? 3).map (·.size)=some 1:=by kernel_rfl
theorem adB(ad:Addr)(c:Nat)(x:Int)(n:Nat)(hn:n<=1048576)(w:World)(hx:w.cell? (ad.add 0)=some (.int .i64 x)) :
 Calls Tryz.prog 73 #[.slice (some ad) 1 c,.int .i64 (n:Int)] w fun e w' =>
  ∃g,e = .returned (.slice (some ⟨g,0,none⟩) n n)∧w.heap.size<=g∧w'.heap[g]?=some (.cells (List.replicate n (Value.int .i64 x)).toArray 3 (0,0))∧Below w.heap.size w w':=by
 have fH:=run_make_row' (P:=Tryz.prog) 42 3 (.int .i64 0) 8 Tryz.underlying42 ams rfl .i64 .i64 n (by omega) (by omega);have Hx:=hid hx;have gQ:IntKind.u64.wrap (n:Int)=(n:Int):=by rw [IntKind.wrap_u64];omega
 have gF:decide ((n:Int)<0)=false:=decide_eq_false (by omega);have gG:decide (9223372036854775807<(n:Int))=false:=decide_eq_false (by omega);clear hx;go_enter Tryz.func73,Tryz.ntmps73;have eo:(ad.add 0).block<w.heap.size:=World.block_lt_of_cell? w _ Hx.out
 go_wp2_with (first
  | (go_at_call 76; (with_reducible refine (aiO n hn w).mono ?_); rintro e w' ⟨rfl, rfl⟩)
  | (with_reducible refine wpList_copy_splice rfl (.tmp 31) (.tmp 32) 42 42 rfl 3 Tryz.underlying42 amt _ _ n n 1 c rfl rfl w.heap.size 0 (List.replicate n (Value.int .i64 0)) 3 ?_ (List.replicate (min 1 n) (Value.int .i64 x)) ?_ ?_ ?_ ?_ w.heap.size w ?_ (Aac _) ?_
     . rw [heap_alloc_new, ad6]
     . simp
     . intro h0
       refine ⟨rfl, ad, rfl, fun j v hj => ?_⟩
       have dz : j = 0 := by
        have := (Aad.1 hj).1
        rw [Ab1] at this
        omega
       subst dz
       rw [Acb] at hj
       split at hj
       . cases hj
         exact ((Below.alloc (Below.refl w.heap.size w) (Aac _) _).cell eo).trans Hx.out
       . cases hj
     . simp; omega
     . intro v hv; rw [List.eq_of_mem_replicate hv]; rfl
     . exact bE
     intro w2 b8 bg
     have fB : Hid (w2.heap[w.heap.size]? = some (.cells (List.replicate (min 1 n) (Value.int .i64 x) ++ List.replicate (n - min 1 n) (Value.int .i64 0)).toArray 3 (0, 0))) := by
      have h := aiP (Value.int .i64 x) (Value.int .i64 0) (m := 0) (n := n) (c := min 1 n) (by omega)
      simp only [List.replicate_zero, Abg, Nat.sub_zero, Aab] at h
      have h2 := b8.out
      rw [h] at h2
      exact h2
     have cq := hid bg
     rw [Ab1]
     clear b8 bg eo))
 clear fH;go_loopw [8] (fun i wr=>∃m:Nat,m<=n∧min 1 n<=m∧i = .int .i64 (m:Int)∧Hid (wr.heap[w.heap.size]?=some (.cells (List.replicate m (Value.int .i64 x)++List.replicate (n - m) (Value.int .i64 0)).toArray 3 (0,0)))∧Hid (Below w.heap.size w wr)) (fun i _=>n - (intOf i).toNat)
 case atStart=>exact⟨min 1 n,by omega,Aac _,by first | rfl | simp [goInt],fB,cq⟩
 case round =>
  obtain⟨m,hm,gv,rfl,HG,HB⟩:=hrel
  by_cases gB:m<n
  . have gL:0<m:=by omega
    have dW:¬n=m:=by omega
    have gR:((n:Int) - (m:Int)).toNat=n - m:=by omega
    obtain⟨d,hd⟩:∃d,d=min m (n - m):=⟨_,rfl⟩
    have cz:0<d:=by omega
    have gH:d<=n - m:=by omega
    have a1:m+d<=n:=by omega
    have gM:d<=m:=by omega
    have Hd:=hid hd;have gK:IntKind.i64.wrap ((m:Int)+(d:Int))=((m+d:Nat):Int):=by rw [IntWalk.i64_in _ (by omega)];simp
    clear hd;clear gv;go_wp2_with fail
    go_region_law
     (refine step_copy_splice (by rfl) (.tmp 41) (.tmp 44) 42 42 (by rfl) 3 Tryz.underlying42 amt (some ⟨w.heap.size, m, none⟩) (some ⟨w.heap.size, 0, none⟩) (n - m) (n - m) m n ?_ ?_ w.heap.size m (List.replicate m (Value.int .i64 x) ++ List.replicate (n - m) (Value.int .i64 0)) 3 HG.out (List.replicate d (Value.int .i64 x)) ?_ ?_ ?_ ?_ w.heap.size w ?_ (Aac _) ?_
      . simp [go_sem]
      . simp [go_sem]
      . rw [Ab1]; exact Hd.out
      . intro _
        refine ⟨rfl, ⟨w.heap.size, 0, none⟩, rfl, fun j v hj => ?_⟩
        have dz : j < d := by
         have := (Aad.1 hj).1
         rwa [Ab1] at this
        rw [Acb, if_pos dz] at hj
        cases hj
        rw [show (⟨w.heap.size, 0, none⟩ : Addr).add j = ⟨w.heap.size, j, none⟩ by unfold Addr.add; split <;> simp_all]
        refine (aaW (w := _) HG.out).trans ?_
        rw [Ab8, Abl (by rw [Ab1]; omega), Acb, if_pos (by omega)]
      . simp; omega
      . intro v hv; rw [List.eq_of_mem_replicate hv]; rfl
      . exact HB.out.drew
      intro w2 b8 bg
      have fD : Hid (w2.heap[w.heap.size]? = some (.cells (List.replicate (m + d) (Value.int .i64 x) ++ List.replicate (n - (m + d)) (Value.int .i64 0)).toArray 3 (0, 0))) := by
       have h2 := b8.out
       have h3 := aiP (Value.int .i64 x) (Value.int .i64 0) (m := m) (n := n) (c := d) a1
       rw [h3] at h2
       exact h2
      have aZ := hid bg
      rw [Ab1]
      clear b8 bg)
    all_goals
     go_simp
     (try go_wp2_with fail)
     go_roundw
     case rel=>exact⟨m+d,a1,by omega,by first | rfl | go_num,fD,aZ⟩
     case measure=>simp [intOf];omega
  . obtain rfl:m=n:=by omega
    have gA:Hid (wr.heap[w.heap.size]?=some (.cells (List.replicate m (Value.int .i64 x)).toArray 3 (0,0))):=by
     have h:=HG.out;rw [Nat.sub_self,List.replicate_zero,Ab5] at h;exact h
    go_wp2_with fail;go_ret;exact⟨w.heap.size,rfl,Aac _,gA.out,HB.out⟩
end
section
open Go.RowKit
theorem aqC:(Tryz.prog.info? 143).map (fun i=>(i.zero,i.size,i.bytes))=some (some (.agg #[.int .i64 0,.bool false,.int .i64 0]),3,24):=by kernel_rfl
theorem amu {S : Nat -> Prop} (nm : ByteArray) (p r : Int) (bs : List DBlock) (V : Pth -> Value) (base : Nat) (w : World) (hf : abK w base bs V) (bf : base <= w.heap.size) (br : acC bs)
 (oa:Option Addr) (m oc:Nat) (ord:List Int) (ho:SlAt S w 1 acz (.slice oa m oc) ord) (eJ:ord.length=m) (hm:m<=1048576) (hS:∀b,S b->b<w.heap.size∧∀q,okP bs q->(V q).ownBlock≠some b)
 (ax:∀x∈ord,0<=x∧x<(bs.length:Int)) (eW:ord.Nodup) :
 Calls Tryz.prog 58 #[.agg #[.string nm,.int .i64 p,.int .i64 r,V .blks],.slice oa m oc] w fun e w' =>
  ∃V',e = .returned (.agg #[.string nm,.int .i64 p,.int .i64 r,V' .blks])∧abK w' base (aa1 bs ord) V'∧Below base w w'∧as6 S w w' (aa1 bs ord) V':=by
 obtain⟨ba,bc,cK⟩:=aah.shape (p := .blks) hf trivial;obtain⟨n,hn⟩:∃n,n=bs.length:=⟨_,rfl⟩
 have cm:(aae bs V .blks).length=n:=by simp [aae,hn]
 rw [cm] at cK;have gr:n<=1048576:=by rw [hn];exact br.len
 have Hf:=hid hf;have aW:=hid br;have Ho:=hid ho;have bD:=hid eJ;have HS:=hid hS;have c4:=hid ax;have e9:=hid eW;have Hn:=hid hn;have cY:=hid cK;rw [cK];clear hf br ho eJ hS ax eW hn cm cK;go_enter Tryz.func58,Tryz.ntmps58;go_upto_region 1 with (fail)
 obtain⟨W,hW⟩:∃W,W=(w.alloc (.cells #[.string nm,.int .i64 p,.int .i64 r,.slice ba n bc] 37)).alloc (.cells #[.string ⟨#[]⟩,.int .i64 0,.int .i64 0,.slice none 0 0] 37):=⟨_,rfl⟩
 obtain⟨dC,h0,h1⟩:=abQ w (.cells #[.string nm,.int .i64 p,.int .i64 r,.slice ba n bc] 37) (.cells #[.string ⟨#[]⟩,.int .i64 0,.int .i64 0,.slice none 0 0] 37);rw [<-hW] at dC h0 h1 ⊢;have eC:Below w.heap.size w W:=by rw [hW];exact bE
 obtain⟨UB,dm⟩:∃UB,UB=w.heap.size:=⟨_,rfl⟩
 obtain⟨UO,dP⟩:∃UO,UO=w.heap.size+1:=⟨_,rfl⟩
 rw [<-dP] at h1 ⊢;rw [<-dm] at h0 ⊢;have aO:Hid (UB=w.heap.size∧UO=w.heap.size+1∧W.heap.size=w.heap.size+2):=⟨dm,dP,dC⟩
 have HB:Hid (base<=w.heap.size):=bf;obtain⟨c0,c1,c2,c3⟩:=(aad (cs:=[_,_,_,_]) h0).get4;rw [Aab] at c1 c2 c3;have H0:=hid h0;have H1:=hid h1;have bX:=hid eC;have zB:UB<W.heap.size:=aac c0;clear hW h0 h1 eC dm dP dC bf c0 c1 c2;go_upto_region 2 with (go_at_call 73;refine (adB _ _ (-1) n gr _ (aaB _ [.int .i64 (-1)] 3 rfl 0 _ rfl)).mono ?_;rintro e w2 ⟨T,rfl,hg,bJ,bg⟩;have ck:Below W.heap.size W w2:=(bE1 bg);have hT:W.heap.size<=T:=(by simp at hg;omega);have bO:=hid bJ;have aF:=hid ck;have HT:=hid hT;clear hg bJ bg ck hT)
 have af:afs w2 w2 T 3 (adS ord n 0):=⟨Aac _,fun _ _ _=>rfl,⟨rfl,rfl,rfl⟩,by rw [aly];exact bO.out⟩
 have ak:=hid af;have cq:Hid (Below w.heap.size w w2):=bX.out.trans (aF.out.mono bX.out.size);clear af c3 zB;go_wp2_with fail;go_loopw [30] (fun i wr=>∃k:Nat,k<=m∧i = .int .i64 (k:Int)∧afs w2 wr T 3 (adS ord n k)) (fun i _=>m - (intOf i).toNat)
 case atStart=>exact⟨0,Aaj _,rfl,ak.out⟩
 case round =>
  obtain⟨k,hk,rfl,af⟩:=hrel;have ew:=hid af
  by_cases hkm:k<m
  . have aU:k<ord.length:=by rw [bD.out];exact hkm
    obtain⟨b,hb⟩:∃b,b=ord[k]:=⟨_,rfl⟩
    have bu:=c4.out ord[k] (Aas aU);rw [<-hb,<-Hn.out] at bu;obtain⟨ob,dJ,rfl,c0⟩:=apA (af.sl aax (fun b hb=>by have:=(HS.out b hb).1;have:=HT.out;have:=bX.out.size;omega) (Ho.out.later aax cq.out)) aU;rw [<-hb] at c0;obtain⟨q,rfl⟩:=Abc bu.1;have aS:q<n:=by omega
    have c1:=af.at (aeC ord n k aS)
    have f1:=af.fz q;have bl:=af.set q (.int .i64 (k:Int));rw [alz ord n k q aU hb.symm] at bl;have dR:=hid bl;have z0:ob<wr.heap.size:=aac c0;have z1:T<wr.heap.size:=aac c1;clear af hb bu bl;go_wp2_with fail;go_roundw
    case rel=>exact⟨k+1,by omega,by go_num,dR.out⟩
    case measure=>simp [intOf];omega
  . have dt:m=k:=by omega
    subst dt;have bA:wr.heap[UB]?=some (.cells #[.string nm,.int .i64 p,.int .i64 r,.slice ba n bc] 37 (0,0)):=(af.keep UB (by have:=aO.out;have:=aF.out.size;omega) (by have:=aO.out;have:=HT.out;omega)).trans ((aF.out.block UB (by have:=aO.out;omega)).trans H0.out);have aM:wr.heap[UO]?=some (.cells #[.string ⟨#[]⟩,.int .i64 0,.int .i64 0,.slice none 0 0] 37 (0,0)):=(af.keep UO (by have:=aO.out;have:=aF.out.size;omega) (by have:=aO.out;have:=HT.out;omega)).trans ((aF.out.block UO (by have:=aO.out;omega)).trans H1.out);obtain⟨c0,c1,c2,c3⟩:=(aad (cs:=[_,_,_,_]) bA).get4;rw [Aab] at c1 c2 c3;have dQ:Below w.heap.size w wr:=af.below cq.out (by have:=HT.out;have:=bX.out.size;omega);have az:abK wr base bs V:=Hf.out.later dQ;have ei:SlAt (fun b=>base<=b∧b<wr.heap.size) wr 6 aa2 (.slice ba bs.length bc) bs:=by
     have h:=az.read aW.out.num;rw [cY.out,Hn.out] at h;exact h
    have c9:=hid (adQ nm p r ba bc bs wr ei aW.out.len aW.out.hto);rw [<-Hn.out] at c9;have e8:=hid bA;have eF:=hid aM;have bI:=hid dQ;have bH:=hid az;have cb:Hid (T<wr.heap.size):=af.lt;clear bA aM dQ az ei af hkm hk;go_upto_region 8 with (go_at_call 74;refine c9.out.mono ?_;rintro e W3 ⟨av,rfl,db,eI⟩;obtain⟨aa,ac,ds,-⟩:=id db.val;subst ds;have eX:=hid db;have aZ:=hid eI;clear db eI)
    rw [show (aheadF bs).length=n by simp [aheadF,Hn.out]];have HX:Hid (∀b,w.heap.size<=b->b<W3.heap.size->alB base S w.heap.size W3.heap.size b):=fun b h1 h2 => .inr (.inr ⟨h1,h2⟩);have b5:=alC.start Hf.out (bI.out.trans (aZ.out.mono bI.out.size)) HB.out HS.out ord;have dZ:=hid b5;have cD:Hid (Below w.heap.size w W3):=bI.out.trans (aZ.out.mono bI.out.size);have cg:Hid (W3.heap[UB]?=some (.cells #[.string nm,.int .i64 p,.int .i64 r,.slice ba n bc] 37 (0,0))):=(aZ.out.block UB (by have:=cb.out;have:=HT.out;have:=aO.out;omega)).trans e8.out;have dr:Hid (W3.heap[UO]?=some (.cells #[.string ⟨#[]⟩,.int .i64 0,.int .i64 0,.slice none 0 0] 37 (0,0))):=(aZ.out.block UO (by have:=cb.out;have:=HT.out;have:=aO.out;omega)).trans eF.out;have a8:Hid (W3.heap[T]?=some (.cells (adS ord n m).toArray 3 (0,0))):=(aZ.out.block T cb.out).trans ew.out.row;have ae:Hid (w.heap.size<=UB∧UB<W3.heap.size∧w.heap.size<=UO∧UO<W3.heap.size∧w.heap.size<=T∧T<W3.heap.size):=by
     show _∧_;have:=cb.out;have:=HT.out;have:=aO.out;have:=aZ.out.size;omega
    have dx:Hid (SlAt (fun b=>w.heap.size<=b∧b<W3.heap.size) W3 1 rRow (.slice aa n ac) (aheadF bs)):=by
     have h:=eX.out;rw [show (aheadF bs).length=n by simp [aheadF,Hn.out]] at h;exact (h.live (by decide) amm).mono acW (fun b hb=>⟨Aai bI.out.size hb.1,hb.2⟩) (aaS.refl _ _)
    clear b5 c0 c1 c2 c3 c9 e8 eF bI bH cb ew ak cq bO eX aZ HT aF bX;go_wp2_with fail;go_loopw [44,9] (fun s44 s9 wr=>∃(k:Nat) (ag:List DBlock) (U:Pth->Value) (na:Option Addr) (nc:Nat),k<=m∧s44 = .int .i64 (k:Int)∧s9 = .slice na k nc∧U .vBlk = .slice na k nc∧alC W3 wr base (alB base S w.heap.size W3.heap.size) bs ord V k ag U) (fun s44 _ _=>m - (intOf s44).toNat)
    case atStart=>exact⟨0,bs,_,none,0,Aaj _,rfl,rfl,aaj _ _ _,dZ.out⟩
    case round =>
     obtain⟨wo,gd⟩:∃wo:World,wo=wr:=⟨_,rfl⟩
     subst gd;obtain⟨k,ag,U,na,nc,hk,rfl,rfl,df,af⟩:=hrel;have ak:=hid af;have fP:=hid df;have eK:Hid (∀b o u,w.heap.size<=b->b<W3.heap.size->W3.cell? ⟨b,o,none⟩=some u->wo.cell? ⟨b,o,none⟩=some u):=fun b o u h1 h2 h3=>af.st.cell (HX.out b h1 h2) h3
     by_cases hkm:k<m
     . have aU:k<ord.length:=by rw [bD.out];exact hkm
       have eP:k<=ord.length:=Nat.le_of_lt aU;have bu:=c4.out ord[k] (Aas aU);obtain⟨ob,dJ,rfl,o0⟩:=apA ((Ho.out.later aax cD.out).mono aax (fun _ h=>h) (af.st.stays (S:=S) fun b hb => .inr (.inl hb))) aU;obtain⟨q,hq⟩:=Abc bu.1;rw [hq] at o0 bu;have aS:q<bs.length:=by omega
       have br:ord[k]?=some (q:Int):=by rw [Aaa aU,hq]
       obtain⟨eA,ey⟩:=af.opens aS br e9.out;obtain⟨pa,pc,cE⟩:=aah.shape (p := .phis q) Hf.out aS;obtain⟨la,lc,cW⟩:=aah.shape (p := .list q) Hf.out aS;obtain⟨ta,tc,cJ⟩:=aah.shape (p := .to q) Hf.out aS;obtain⟨x,hx⟩:∃x,x=blkOf bs q:=⟨_,rfl⟩
       obtain⟨pn,dk⟩:∃pn,pn=x.phis.length:=⟨_,rfl⟩
       obtain⟨ln,cp⟩:∃ln,ln=x.list.length:=⟨_,rfl⟩
       obtain⟨tn,dj⟩:∃tn,tn=x.fin.to.length:=⟨_,rfl⟩
       obtain⟨ek,eg⟩:∃ek,ek=x.fin.kind:=⟨_,rfl⟩
       obtain⟨er,dT⟩:∃er,er=x.fin.on.reg:=⟨_,rfl⟩
       obtain⟨en,eh⟩:∃en,en=x.fin.on.n:=⟨_,rfl⟩
       rw [show (aae bs V (.phis q)).length=pn by simp [aae,dk,hx]] at cE;rw [show (aae bs V (.list q)).length=ln by simp [aae,cp,hx]] at cW;rw [show (aae bs V (.to q)).length=tn by simp [aae,dj,hx]] at cJ;have aG:(elN ag U (nsO bs V ord k) .blks)[q]?=some [.slice pa pn pc,.slice la ln lc,.int .i64 ek,.bool er,.int .i64 en,.slice ta tn tc]:=by
        rw [aaY (by simp)];simp only [aae];rw [aai,aan ag (by rw [af.len];exact aS),eA,Aaw,(af.same.2 q).1,(af.same.2 q).2.1,(af.same.2 q).2.2,cE,cW,cJ,eg,dT,eh,hx];rfl
       obtain⟨R,rc,dF,-,-,fU,gb⟩:=af.st.rows.addr (p := .blks) (.inl trivial) (Aca (Aaj _) (Aad.1 aG).1);rw [af.same.1,cY.out] at dF;have fg:ba=some ⟨R,0,none⟩:=by injection dF
       subst fg;have bT:aal wo R (q * 6) [.slice pa pn pc,.slice la ln lc,.int .i64 ek,.bool er,.int .i64 en,.slice ta tn tc]:=(af.st.rows.at (p := .blks) (.inl trivial) (af.same.1.trans cY.out) aG).1;obtain⟨q0,q1,q2,q3,q4,q5⟩:=bT.get6;have u3:wo.cell? ⟨UB,3,none⟩=some (.slice (some ⟨R,0,none⟩) n bc):=by
        have h:=(aad (cs:=[_,_,_,_]) cg.out) 3 _ rfl;rw [Aab] at h;exact eK.out UB 3 _ ae.out.1 ae.out.2.1 h
       have fx:q<n:=by rw [Hn.out];exact aS
       have Hx:Hid (x=blkOf bs q):=hx;have aw:Hid (pn=x.phis.length∧ln=x.list.length∧tn=x.fin.to.length∧ek=x.fin.kind∧er=x.fin.on.reg∧en=x.fin.on.n):=⟨dk,cp,dj,eg,dT,eh⟩
       have aC:Hid (V (.phis q) = .slice pa pn pc∧V (.list q) = .slice la ln lc∧V (.to q) = .slice ta tn tc):=⟨cE,cW,cJ⟩
       have ar:=hid aS;have dn:=hid br;have ct:agR W3 wo base (alB base S w.heap.size W3.heap.size) ag q x V (nsO bs V ord k) (.slice na k nc) U:=by rw [hx,<-df];exact ey
       have cH:=hid ct;clear af df bu hq br eA ey ct cE cW cJ hx dk cp dj eg dT eh aG dF fU gb bT aU aS;go_upto_region 13 with (fail)
       obtain⟨LB,b2⟩:∃LB,LB=wo.heap.size:=⟨_,rfl⟩
       obtain⟨W4,bY⟩:∃W4,W4=wo.alloc (.cells #[.slice pa pn pc,.slice la ln lc,.int .i64 ek,.bool er,.int .i64 en,.slice ta tn tc] 46):=⟨_,rfl⟩
       have dy:W4.heap[LB]?=some (.cells #[.slice pa pn pc,.slice la ln lc,.int .i64 ek,.bool er,.int .i64 en,.slice ta tn tc] 46 (0,0)):=by rw [bY,b2];exact heap_alloc_new _ _
       rw [<-bY,<-b2];have b7:Below wo.heap.size wo W4:=by rw [bY];exact bE
       have fe:W4.heap.size=LB+1:=by rw [bY,b2];simp
       have eN:agR W4 W4 base (akp base S w.heap.size W3.heap.size LB) ag q x V (nsO bs V ord k) (.slice na k nc) U:=by
        refine (cH.out.later b7).keep (fun b hb=>?_) (fun pp bL kk a7 hx=>?_)
        . rcases hb with h | h
          . exact Aay (cH.out.st.x_lt h) b7.size
          . omega
        . rcases hx with h | h
          . exact cH.out.st.off pp bL kk a7 h
          . have:=(cH.out.st.rows.lt bL kk a7).2;omega
       have gx:=hid eN;have fG:Hid (Below wo.heap.size wo W4∧W4.heap.size=LB+1∧LB=wo.heap.size):=⟨b7,fe,b2⟩
       have cf:=hid dy;obtain⟨l0,l1,l2,l3,l4,l5⟩:=(aad (cs:=[_,_,_,_,_,_]) dy).get6;rw [Aab] at l1 l2 l3 l4 l5;have eG:Hid (∀b o u,w.heap.size<=b->b<W3.heap.size->W3.cell? ⟨b,o,none⟩=some u->W4.cell? ⟨b,o,none⟩=some u):=fun b o u h1 h2 h3=>aab (eK.out b o u h1 h2 h3) b7;clear b2 bY dy b7 fe eN q0 q1 q2 q3 q4 q5 u3 o0;have fp:pn<=1048576:=by rw [aw.out.1,Hx.out];exact (aW.out.small _ (Aae (aan bs ar.out))).phis
       go_wp2_with fail;clear l0 l1 l2 l3 l4 l5;go_loopw [56] (fun s56 wr=>∃(i:Nat) (U':Pth->Value),i<=pn∧s56 = .int .i64 (i:Int)∧agR W4 wr base (akp base S w.heap.size W3.heap.size LB) ag q (abR (aa8 ord) (aaf bs 0 q) x i) V (nsO bs V ord k) (.slice na k nc) U') (fun s56 _=>pn - (intOf s56).toNat)
       case atStart=>exact⟨0,U,Aaj _,rfl,by rw [ani];exact gx.out⟩
       case round =>
        obtain⟨wp,fw⟩:∃wp:World,wp=wr:=⟨_,rfl⟩
        subst fw;obtain⟨i,U',hi,rfl,al⟩:=hrel;have aH:=hid al
        by_cases hipn:i<pn
        . obtain⟨ph,cj⟩:∃ph,x.phis[i]?=some ph:=⟨_,Aaa (by have:=aw.out.1;omega)⟩
          have cu:blkOf (ag.set q (abR (aa8 ord) (aaf bs 0 q) x i)) q=abR (aa8 ord) (aaf bs 0 q) x i:=by rw [aaR (by rw [ak.out.len];exact ar.out),if_pos rfl]
          have hyp:(abR (aa8 ord) (aaf bs 0 q) x i).phis[i]?=some ph:=by
           show (x.phis.mapIdx _)[i]?=_;rw [aai,cj];simp
          have ep:i<(abR (aa8 ord) (aaf bs 0 q) x i).phis.length:=(Aad.1 hyp).1;obtain⟨fa,fc,cQ⟩:=aah.shape (p := .src q i) al.st.rows (.inl (by show i<(blkOf _ q).phis.length;rw [cu];exact ep));obtain⟨fn,cy⟩:∃fn,fn=ph.src.length:=⟨_,rfl⟩
          obtain⟨pd,dS⟩:∃pd,pd=ph.dst:=⟨_,rfl⟩
          have bF:elN (ag.set q (abR (aa8 ord) (aaf bs 0 q) x i)) U' (nsO bs V ord k) (.src q i)=ph.src.map aaz:=by
           rw [aaY (by simp)];simp only [aae];rw [cu,Aaf,hyp];rfl
          rw [bF,Aah,<-cy] at cQ;have aG:(elN (ag.set q (abR (aa8 ord) (aaf bs 0 q) x i)) U' (nsO bs V ord k) (.phis q))[i]?=some [.int .i64 pd,.slice fa fn fc]:=by
           rw [aaY (by simp)];simp only [aae];rw [cu,aai,hyp,Aaw,cQ,dS]
          have au:okN (ag.set q (abR (aa8 ord) (aaf bs 0 q) x i)) (.phis q) := .inl (by show q<_;rw [Aar,ak.out.len];exact ar.out);obtain⟨P,gE,eb,-,-,e7,ez⟩:=al.st.rows.addr (p := .phis q) au (Aca (Aaj _) (Aad.1 aG).1);rw [(al.same.2 q).1,aC.out.1] at eb;have gg:pa=some ⟨P,0,none⟩:=by injection eb
          subst gg;have an:aal wp P (i * 2) [.int .i64 pd,.slice fa fn fc]:=(al.st.rows.at (p := .phis q) au ((al.same.2 q).1.trans aC.out.1) aG).1;obtain⟨q0,q1⟩:=an.get2;have fW:fn<=1048576:=by rw [cy];exact (aW.out.small _ (Aae (aan bs ar.out))).src ph (by rw [<-Hx.out];exact Aae cj)
          have eH:(aaf bs 0 q).length=fn:=by rw [cy];exact (aW.out.src q ar.out ph (by rw [<-Hx.out];exact Aae cj)).symm
          have fo:=hid cj;have cT:=hid cu;have Hyp:=hid hyp;have bV:=hid bF;have aP:Hid (fn=ph.src.length∧pd=ph.dst):=⟨cy,dS⟩
          have dB:=hid cQ;have dL:=hid eH;have HP:Hid (base<=P∧P<wp.heap.size):=⟨e7,ez⟩
          clear al cj cu hyp ep cQ cy dS bF aG au eb e7 ez an eH;go_upto_region 17 with (fail)
          obtain⟨PB,bR⟩:∃PB,PB=wp.heap.size:=⟨_,rfl⟩
          obtain⟨W5,bo⟩:∃W5,W5=wp.alloc (.cells #[.int .i64 pd,.slice fa fn fc] 115):=⟨_,rfl⟩
          have dK:W5.heap[PB]?=some (.cells #[.int .i64 pd,.slice fa fn fc] 115 (0,0)):=by rw [bo,bR];exact heap_alloc_new _ _
          rw [<-bo,<-bR];have cI:Below wp.heap.size wp W5:=by rw [bo];exact bE
          have e6:W5.heap.size=PB+1:=by rw [bo,bR];simp
          have dg:Hid (∀b o u,w.heap.size<=b->b<W3.heap.size->W3.cell? ⟨b,o,none⟩=some u->W5.cell? ⟨b,o,none⟩=some u):=fun b o u h1 h2 h3=>aab (aH.out.st.cell (.inl (HX.out b h1 h2)) (eG.out b o u h1 h2 h3)) cI;have bx:Hid (agR W4 W5 base (akp base S w.heap.size W3.heap.size LB) ag q (abR (aa8 ord) (aaf bs 0 q) x i) V (nsO bs V ord k) (.slice na k nc) U'):=aH.out.later cI;have cR:Hid (Below wp.heap.size wp W5∧W5.heap.size=PB+1∧PB=wp.heap.size):=⟨cI,e6,bR⟩
          have gS:=hid dK;have cr:okN (ag.set q (abR (aa8 ord) (aaf bs 0 q) x i)) (.src q i) := .inl (by show i<(blkOf _ q).phis.length;rw [cT.out];exact (Aad.1 Hyp.out).1);have bS:=hid cr;obtain⟨b0,b1⟩:=(aad (cs:=[_,_]) dK).get2;rw [Aab] at b1;obtain⟨ab,dp,cs,gp,aT,e4,-,ca⟩:=dx.out.get (k:=q) (by simp [aheadF];exact ar.out);rw [show (aheadF bs)[q]'(by simp [aheadF];exact ar.out)=aaf bs 0 q from (Aad.1 (ajp ar.out)).2] at e4;obtain⟨rv,rfl,dI⟩:=e4;obtain⟨ra,rc,b6,-⟩:=id dI.val;rw [dL.out] at b6;subst b6;subst gp;have dO:=ca.get1;rw [Abd] at dO;have gj:=hid dI;have gC:Hid (W5.cell? ⟨ab,dp+q,none⟩=some (.slice ra fn rc)):=dg.out ab _ _ aT.1 aT.2 dO;have fE:Hid (∀x,x<n->W5.cell? ⟨T,x,none⟩=some (.int .i64 (ako ord m x))):=fun x hx=>dg.out T x _ ae.out.2.2.2.2.1 ae.out.2.2.2.2.2 (by rw [aaW a8.out,Ab8];exact aeC ord n m hx);clear bR bo dK cI e6 cr aT dI ca dO q0 q1;go_wp2_with fail;clear b0 b1;go_loopw [64,15] (fun s64 s15 wr=>∃(j:Nat) (ga:Option Addr) (gc:Nat),j<=fn∧s64 = .int .i64 (j:Int)∧s15 = .slice ga (acT (aa8 ord) (aaf bs 0 q) ph.src j).length gc∧atv W5 wr (.slice ga (acT (aa8 ord) (aaf bs 0 q) ph.src j).length gc) (acT (aa8 ord) (aaf bs 0 q) ph.src j)) (fun s64 _ _=>fn - (intOf s64).toNat)
          case atStart=>exact⟨0,none,0,Aaj _,rfl,rfl,World.ownsRow_nil _ _ _ _,Below.refl _ _⟩
          case round =>
           obtain⟨j,ga,gc,hj,rfl,rfl,az⟩:=hrel;have bH:=hid az
           by_cases hjn:j<fn
           . obtain⟨v2,bk⟩:∃v2,ph.src[j]?=some v2:=⟨_,Aaa (by have:=aP.out.1;omega)⟩
             have cB:j<(aaf bs 0 q).length:=by rw [dL.out];exact hjn
             obtain⟨pb,fu,cs,gD,ed,⟨rfl,-⟩,-,eR⟩:=gj.out.get cB;subst gD;obtain⟨aq,dU⟩:=Abc (abu (Aas cB)).1;have dD:aq<n:=by have:=(abu (Aas cB)).2;have:=Hn.out;omega
             have el:(aaf bs 0 q)[j]?=some (aq:Int):=by rw [Aaa cB,dU]
             have c5:=eR.get1;rw [Abd,dU] at c5;have c6:=aab (dg.out pb _ _ ed.1 ed.2 c5) az.low;have c7:=aab gC.out az.low;have c8:=aab (fE.out aq dD) az.low;have bW:0<(elN (ag.set q (abR (aa8 ord) (aaf bs 0 q) x i)) U' (nsO bs V ord k) (.src q i)).length:=by rw [bV.out,Aah,<-aP.out.1];omega
             obtain⟨F,fk,ea,-,-,-,-⟩:=bx.out.st.rows.addr bS.out bW;rw [dB.out] at ea;have fy:fa=some ⟨F,0,none⟩:=by injection ea
             subst fy;obtain⟨vr,bz⟩:∃vr,vr=v2.reg:=⟨_,rfl⟩
             obtain⟨vn,bq⟩:∃vn,vn=v2.n:=⟨_,rfl⟩
             have ev:aal W5 F (j * 2) [.bool vr,.int .i64 vn]:=(bx.out.st.rows.at bS.out dB.out (i:=j) (by rw [bV.out,Aak,bk,bz,bq];rfl)).1;obtain⟨e0,e1⟩:=ev.get2;have d0:=aab e0 az.low;have d1:=aab e1 az.low;obtain⟨d,hd⟩:∃d,d=ako ord m aq:=⟨_,rfl⟩
             rw [<-hd] at c8;have a1:d=aa8 ord aq:=by rw [hd];unfold aa8;rw [bD.out]
             have z6:pb<wr.heap.size:=aac c6;have z7:ab<wr.heap.size:=aac c7;have z8:T<wr.heap.size:=aac c8;have HD:=hid a1;have e5:=hid el;have cM:=hid bk;have cc:Hid (vr=v2.reg∧vn=v2.n):=⟨bz,bq⟩
             clear ed eR c5 dU el bW ea bz bq ev e0 e1 hd a1 bk az;go_upto_region 21 with (fail)
             obtain⟨VB,de⟩:∃VB,VB=wr.heap.size:=⟨_,rfl⟩
             obtain⟨W7,cF⟩:∃W7,W7=wr.alloc (.cells #[.bool vr,.int .i64 vn] 41):=⟨_,rfl⟩
             have eB:W7.heap[VB]?=some (.cells #[.bool vr,.int .i64 vn] 41 (0,0)):=by rw [cF,de];exact heap_alloc_new _ _
             rw [<-cF,<-de];have ec:Below wr.heap.size wr W7:=by rw [cF];exact bE
             have cx:atv W5 W7 (.slice ga (acT (aa8 ord) (aaf bs 0 q) ph.src j).length gc) (acT (aa8 ord) (aaf bs 0 q) ph.src j):=⟨aao bH.out.own ec,bH.out.low.trans (ec.mono bH.out.low.size)⟩
             have aV:=hid cx;obtain⟨v0,v1⟩:=(aad (cs:=[_,_]) eB).get2;rw [Aab] at v1;clear cF de eB ec cx c6 c7 c8 d0 d1 z6 z7 z8
             by_cases cz:0<=d
             . have fA:decide (0<=d)=true:=decide_eq_true cz
               obtain⟨i0,fC,fX,gm,aQ⟩:=info_parts aqC;go_wp2_with (at_builtin;refine wpList_append_own_at _ rfl _ _ 141 rfl W5.heap.size 143 i0 (.agg #[.int .i64 0,.bool false,.int .i64 0]) 3 24 Tryz.underlying141 fC fX gm aQ rfl (by decide) (.slice ga (acT (aa8 ord) (aaf bs 0 q) ph.src j).length gc) (acT (aa8 ord) (aaf bs 0 q) ph.src j).length (((acT (aa8 ord) (aaf bs 0 q) ph.src j).map adt).flatten) rfl ?_ ⟨W7.heap.size,0,none⟩ 1 1 [.int .i64 d,.bool vr,.int .i64 vn] rfl rfl ?_ ?_ ?_ ?_ ?_ ?_)
               . exact aao aV.out.own bE
               . exact aaB W7 [.int .i64 d,.bool vr,.int .i64 vn] 143 rfl
               . intro u hu
                 simp only [Aam,Aaq,or_false] at hu;rcases hu with rfl | rfl | rfl <;> rfl
               . have:=aiQ (aa8 ord) (aaf bs 0 q) ph.src j;have:=aP.out.1;unfold maxLen;omega
               . have:=aiQ (aa8 ord) (aaf bs 0 q) ph.src j;have:=aP.out.1;omega
               . have:=aV.out.low.size;simp;omega
               . intro v' w9 ai ah _ _
                 obtain⟨va,vc,rfl⟩:=aap ai;have aN:=aV.out.snoc (W8:=W7.alloc (.cells #[.int .i64 d,.bool vr,.int .i64 vn] 143)) bE (d,v2) (by rw [cc.out.1,cc.out.2] at ai;exact ai) ah;have aj:=ahE (at_:=aa8 ord) e5.out cM.out;rw [Aan,<-HD.out,if_pos cz] at aj;rw [<-aj] at aN;have hlen:(acT (aa8 ord) (aaf bs 0 q) ph.src j).length+1=(acT (aa8 ord) (aaf bs 0 q) ph.src (j+1)).length:=by rw [aj];simp
                 rw [hlen] at aN;have fM:=hid aN;have dA:=hid hlen;clear ai ah aN aj hlen;go_wp2_with fail;go_roundw
                 case rel=>exact⟨j+1,va,vc,by omega,by go_num,by rw [<-dA.out],fM.out⟩
                 case measure=>simp [intOf];omega
             . have fA:decide (0<=d)=false:=decide_eq_false cz
               have aj:=ahE (at_:=aa8 ord) e5.out cM.out;rw [Aan,<-HD.out,if_neg cz,Ab5] at aj;have bj:=hid aj;clear aj;go_wp2_with fail;go_roundw
               case rel=>exact⟨j+1,ga,gc,by omega,by go_num,by rw [bj.out],by rw [bj.out];exact aV.out⟩
               case measure=>simp [intOf];omega
           . obtain⟨we,gi⟩:∃we:World,we=wr:=⟨_,rfl⟩
             subst gi;have fm:fn=j:=by omega
             subst fm;have bC:acT (aa8 ord) (aaf bs 0 q) ph.src fn=ac1 (aa8 ord) (aaf bs 0 q) ph.src:=by
              rw [aP.out.1];exact anh (by rw [dL.out];exact Nat.le_of_eq aP.out.1.symm)
             rw [bC] at az;rw [bC];obtain⟨sl,cN⟩:∃sl,sl=(ac1 (aa8 ord) (aaf bs 0 q) ph.src).mergeSort leF:=⟨_,rfl⟩
             obtain⟨sn,aN⟩:∃sn,sn=(ac1 (aa8 ord) (aaf bs 0 q) ph.src).length:=⟨_,rfl⟩
             have dG:=akU _ we az.own (alD ord (by rw [bD.out];exact hm) _ _) (anm aW.out ord q ph.src) (by have:=ahG (aa8 ord) (aaf bs 0 q) ph.src;rw [<-aP.out.1] at this;omega);have cn:sl.length=sn:=by rw [cN,aN];exact (List.mergeSort_perm _ _).length_eq
             rw [<-aN,<-cN] at dG;rw [<-aN] at az ⊢;have fV:sn<=fn:=by rw [aN,aP.out.1];exact ahG _ _ _
             have fO:=hid dG;have bG:=hid az;have gq:=hid cN;have aY:=hid cn;clear dG az cN cn aN bC bH hj hjn;go_upto_region 25 with (go_at_call 89;refine fO.out.mono ?_;rintro e w6 ⟨rfl,fb,eV⟩;have gw:=hid fb;have e3:Hid (Below W5.heap.size W5 w6):=bG.out.low.grown eV bG.out.low.size (fun b hb=>(bG.out.own.lt b hb).1);clear fb eV)
             have aK:=bx.out.later e3.out;have aL:w6.heap[LB]?=some (.cells #[.slice (some ⟨P,0,none⟩) pn pc,.slice la ln lc,.int .i64 ek,.bool er,.int .i64 en,.slice ta tn tc] 46 (0,0)):=(aK.st.kept LB (.inr rfl)).trans cf.out;have l0:=(aad (cs:=[_,_,_,_,_,_]) aL) 0 _ rfl;rw [Aab] at l0;have au:okN (ag.set q (abR (aa8 ord) (aaf bs 0 q) x i)) (.phis q) := .inl (by show q<_;rw [Aar,ak.out.len];exact ar.out)
             obtain ⟨an, aQ⟩ := aK.st.rows.at (p := .phis q) au ((aK.same.2 q).1.trans aC.out.1) (i := i) (cs := [.int .i64 pd, .slice fa fn fc]) (by
              rw [aaY (by simp)]
              simp only [aae]
              rw [cT.out, aai, Hyp.out, Aaw, dB.out, aP.out.2])
             have aI:aal w6 P (i * 2) [.int .i64 pd,.slice fa fn fc]:=an;have q1:=aI.get2.2;have z1:=aQ (i * 2+1);have aD:=aK.src (i:=i) (g:=P) (c:=pc) (n:=pn) (v' := .slice none 0 0) (l:=[]) (by rw [ak.out.len];exact ar.out) (Aad.1 Hyp.out).1 aC.out.1 (World.ownsRow_nil _ _ _ _) ⟨rfl,rfl,rfl,Aac _,fun _ _ _=>rfl⟩ (fun b hb=>by cases hb);obtain⟨Wc,b4⟩:∃Wc,Wc=w6.setCell ⟨P,i * 2+1,none⟩ (.slice none 0 0):=⟨_,rfl⟩
             rw [<-b4] at aD;have ee:Wc.ownsRow W5.heap.size 143 3 (.slice ga sn gc) sn (sl.map adt).flatten:=by
              rw [b4];exact ownsRow_setCell_below gw.out (by show P<_;have:=HP.out;have:=cR.out;omega) _
             have bM:W5.heap.size<=Wc.heap.size:=by rw [b4];have:=e3.out.size;simpa [World.setCell] using this
             have cC:∀b,(Value.slice ga sn gc).ownBlock=some b->W5.heap.size<=b∧b<Wc.heap.size:=fun b hb=>ee.lt b hb;have bZ:agR Wc Wc base (arR base S w.heap.size W3.heap.size LB PB (Value.slice ga sn gc).ownBlock) ag q (aeK (abR (aa8 ord) (aaf bs 0 q) x i) i []) V (nsO bs V ord k) (.slice na k nc) (aaU U' (.src q i) (.slice none 0 0)):=by
              refine aD.keep (fun b hb=>?_) (fun pp bL kk a7 hx=>?_)
              . rcases hb with h | h | h
                . exact aD.st.x_lt h
                . have:=cR.out;omega
                . exact (cC b h).2
              . rcases hx with h | h
                . exact aD.st.off pp bL kk a7 h
                . have gB:kk<PB:=by
                   by_cases e:pp = .src q i
                   . rw [e,aaj] at a7;cases a7
                   . rw [aag _ _ e] at a7
                     have dw:okN (ag.set q (abR (aa8 ord) (aaf bs 0 q) x i)) pp:=by
                      have di:q<(ag.set q (abR (aa8 ord) (aaf bs 0 q) x i)).length:=by rw [Aar,ak.out.len];exact ar.out
                      have:=(alR (bs:=ag.set q (abR (aa8 ord) (aaf bs 0 q) x i)) di (y:=aeK (abR (aa8 ord) (aaf bs 0 q) x i) i []) (by rw [cT.out];exact ag5 _ _ _) (by rw [cT.out];rfl) pp).1;rw [Aaz] at this;exact this bL
                     have:=(aH.out.st.rows.lt dw kk a7).2;have:=cR.out;omega
                  rcases h with h | h
                  . omega
                  . have:=(cC kk h).1;have:=cR.out;omega
             have bU:=hid aD;have dE:=hid bZ;have fQ:=hid ee;have gN:=hid cC;have fJ:=hid b4;have fF:=hid bM;clear aK aL au an aQ aI aD bZ b4 ee cC bM;go_upto_region 26 with (fail)
             rw [<-fJ.out];clear l0 q1 z1;go_wp2_with fail;go_loopw [97] (fun s97 wr=>∃(j:Nat) (U2:Pth->Value),j<=sn∧s97 = .int .i64 (j:Int)∧agR Wc wr base (arR base S w.heap.size W3.heap.size LB PB (Value.slice ga sn gc).ownBlock) ag q (aeK (abR (aa8 ord) (aaf bs 0 q) x i) i ((sl.take j).map Prod.snd)) V (nsO bs V ord k) (.slice na k nc) U2) (fun s97 _=>sn - (intOf s97).toNat)
             case atStart=>exact⟨0,_,Aaj _,rfl,dE.out⟩
             case round =>
              obtain⟨wl,gy⟩:∃wl:World,wl=wr:=⟨_,rfl⟩
              subst gy;obtain⟨j,U2,hj,rfl,aA⟩:=hrel;have eS:=hid aA
              by_cases hjn:j<sn
              . obtain⟨⟨d,v2⟩,bk⟩:∃y,sl[j]?=some y:=⟨_,Aaa (by rw [aY.out];exact hjn)⟩
                obtain⟨vr,bz⟩:∃vr,vr=v2.reg:=⟨_,rfl⟩
                obtain⟨vn,bq⟩:∃vn,vn=v2.n:=⟨_,rfl⟩
                obtain⟨G,dY,eM,ej⟩:=anl fQ.out (fun cs aG=>by obtain⟨y,_,rfl⟩:=Aal.1 aG;rfl) (j:=j) (cs:=[.int .i64 d,.bool vr,.int .i64 vn]) (by rw [Aak,bk,bz,bq];rfl) (by omega);have gn:ga=some ⟨G,0,none⟩:=by injection eM
                subst gn;obtain⟨y0,y1,y2⟩:=ej.get3;have x0:=aA.st.cell (b:=G) (.inr (.inr rfl)) y0;have x1:=aA.st.cell (b:=G) (.inr (.inr rfl)) y1;have x2:=aA.st.cell (b:=G) (.inr (.inr rfl)) y2;have di:q<(ag.set q (abR (aa8 ord) (aaf bs 0 q) x i)).length:=by rw [Aar,ak.out.len];exact ar.out
                have aB:blkOf (ag.set q (aeK (abR (aa8 ord) (aaf bs 0 q) x i) i ((sl.take j).map Prod.snd))) q=(aeK (abR (aa8 ord) (aaf bs 0 q) x i) i ((sl.take j).map Prod.snd)):=by rw [aaR (by rw [ak.out.len];exact ar.out),if_pos rfl]
                have cS:i<(abR (aa8 ord) (aaf bs 0 q) x i).phis.length:=(Aad.1 Hyp.out).1;have bm:(aeK (abR (aa8 ord) (aaf bs 0 q) x i) i ((sl.take j).map Prod.snd)).phis[i]?=some ⟨pd,(sl.take j).map Prod.snd⟩:=by
                 show ((abR (aa8 ord) (aaf bs 0 q) x i).phis.set i _)[i]?=_;rw [Aa5 cS,Aaf,Hyp.out,aP.out.2];rfl
                have aJ:okN (ag.set q (aeK (abR (aa8 ord) (aaf bs 0 q) x i) i ((sl.take j).map Prod.snd))) (.src q i) := .inl (by show i<(blkOf _ q).phis.length;rw [aB,ag5];exact cS);have au:okN (ag.set q (aeK (abR (aa8 ord) (aaf bs 0 q) x i) i ((sl.take j).map Prod.snd))) (.phis q) := .inl (by show q<_;rw [Aar,ak.out.len];exact ar.out);have cw:elN (ag.set q (aeK (abR (aa8 ord) (aaf bs 0 q) x i) i ((sl.take j).map Prod.snd))) U2 (nsO bs V ord k) (.src q i)=((sl.take j).map Prod.snd).map aaz:=by
                 rw [aaY (by simp)];simp only [aae];rw [aB,Aaf,bm];rfl
                obtain⟨sa,sc,bB⟩:=aah.shape aA.st.rows aJ;have ai:=aA.st.rows.own _ aJ;rw [cw,Aah,Aah,Aat,aY.out,Abw hj] at bB ai;rw [bB] at ai
                obtain ⟨an, aQ⟩ := aA.st.rows.at (p := .phis q) au ((aA.same.2 q).1.trans aC.out.1) (i := i) (cs := [.int .i64 pd, .slice sa j sc]) (by
                 rw [aaY (by simp)]
                 simp only [aae]
                 rw [aB, aai, bm, Aaw, bB])
                have aI:aal wl P (i * 2) [.int .i64 pd,.slice sa j sc]:=an;have k1:=aI.get2.2;have kz:=aQ (i * 2+1);have ay:wl.heap[LB]?=some (.cells #[.slice (some ⟨P,0,none⟩) pn pc,.slice la ln lc,.int .i64 ek,.bool er,.int .i64 en,.slice ta tn tc] 46 (0,0)):=(aA.st.kept LB (.inl (.inr rfl))).trans ((bU.out.st.kept LB (.inr rfl)).trans cf.out);have l0:=(aad (cs:=[_,_,_,_,_,_]) ay) 0 _ rfl;rw [Aab] at l0;have b3:∀b,(Value.slice sa j sc).ownBlock=some b->b≠LB∧b≠P:=fun b hb=>by
                 refine⟨fun e=>aA.st.off _ aJ b (by rw [bB];exact hb) (.inl (.inr e)),fun e=>?_⟩;refine aA.st.rows.apart (.src q i) (.phis q) aJ au (by simp) b (by rw [bB];exact hb) ?_;rw [(aA.same.2 q).1,aC.out.1,e];rfl
                have fr:Hid (P≠LB):=by
                 intro e;have:=HP.out;have:=aH.out.st.off (.phis q) (.inl (by show q<_;rw [Aar,ak.out.len];exact ar.out)) P (by rw [(aH.out.same.2 q).1,aC.out.1];rfl);exact this (.inr e)
                have aX:=hid ai;have bn:=hid b3;have eL:=hid bB;have cM:=hid bk;have cc:Hid (vr=v2.reg∧vn=v2.n):=⟨bz,bq⟩
                have eU:=hid cS;clear aA bk bz bq eM ej y0 y1 y2 di aB cS bm aJ au cw bB ai an aQ aI ay b3;go_upto_region 29 with (fail)
                obtain⟨FB,cZ⟩:∃FB,FB=wl.heap.size:=⟨_,rfl⟩
                obtain⟨W8,cG⟩:∃W8,W8=wl.alloc (.cells #[.int .i64 d,.bool vr,.int .i64 vn] 143):=⟨_,rfl⟩
                have eQ:W8.heap[FB]?=some (.cells #[.int .i64 d,.bool vr,.int .i64 vn] 143 (0,0)):=by rw [cG,cZ];exact heap_alloc_new _ _
                rw [<-cG,<-cZ];have cA:Below wl.heap.size wl W8:=by rw [cG];exact bE
                obtain⟨-,r1,r2⟩:=(aad (cs:=[_,_,_]) eQ).get3;rw [Aab] at r1 r2;have eZ:=l0;have eu:=k1;have l0:=aab l0 cA;have kz:=(cA.frozen (p:=⟨P,i * 2+1,none⟩) (aac k1)).trans kz;have k1:=aab k1 cA;have zL:LB<W8.heap.size:=aac l0;have zP:P<W8.heap.size:=aac k1;have zF:FB<W8.heap.size:=aac r1;have cL:Hid (FB≠LB∧FB≠P∧(Value.slice sa j sc).ownBlock≠some FB):=by
                 have h1:=aX.out.lt;refine⟨fun e=>?_,fun e=>?_,fun e=>?_⟩
                 . have:=aac eZ;omega
                 . have:=aac eu;omega
                 . have:=(h1 FB e).2;omega
                have cU:=hid cA;clear cG cZ eQ cA x0 x1 x2 eZ eu;obtain⟨i1,fq,dq,cX,dX⟩:=info_parts ahp;have aT:Below W8.heap.size W8 (W8.alloc (.cells #[.bool vr,.int .i64 vn] 41)).drew:=((Below.refl W8.heap.size W8).alloc (Aac _) _).drew;have gJ:Hid (W8.drew.cell? ⟨LB,0,none⟩=some (.slice (some ⟨P,0,none⟩) pn pc)∧W8.drew.cell? ⟨FB,1,none⟩=some (.bool vr)∧W8.drew.cell? ⟨FB,2,none⟩=some (.int .i64 vn)):=⟨l0,r1,r2⟩
                have gP:Hid ((W8.alloc (.cells #[.bool vr,.int .i64 vn] 41)).drew.cell? ⟨LB,0,none⟩=some (.slice (some ⟨P,0,none⟩) pn pc)∧(W8.alloc (.cells #[.bool vr,.int .i64 vn] 41)).drew.cell? ⟨FB,1,none⟩=some (.bool vr)∧(W8.alloc (.cells #[.bool vr,.int .i64 vn] 41)).drew.cell? ⟨FB,2,none⟩=some (.int .i64 vn)):=⟨aab l0 aT,aab r1 aT,aab r2 aT⟩
                have dM:=hid aT;clear aT
                go_region_law
                 ((refine adk rfl _ _ 47 rfl base 41 i1 (.agg #[.bool false, .int .i64 0]) 2 16 Tryz.underlying47 fq dq cX dX rfl (by decide) (.slice sa j sc) j ((((sl.take j).map Prod.snd).map aaz).flatten) rfl ?_ ⟨W8.heap.size, 0, none⟩ 1 1 [.bool vr, .int .i64 vn] rfl rfl ?_ ?_ ?_ ?_ ?_ ?_
                   . exact aao (aao aX.out cU.out) dM.out
                   . intro m u hu; exact aaB _ _ _ rfl m u hu
                   . intro u hu; simp only [Aam, Aaq, or_false] at hu; rcases hu with rfl | rfl <;> rfl
                   . unfold maxLen; omega
                   . omega
                   . have := eS.out.st.base_le; have := cU.out.size; simp; omega
                   intro v3 w9 ao ah cv
                   obtain ⟨cV, cO, rfl⟩ := aap ao
                   have aE : ∀ b, b < W8.heap.size -> (Value.slice sa j sc).ownBlock ≠ some b -> w9.heap[b]? = W8.heap[b]? := fun b h1 h2 => (ah.block b (by simp; omega) (fun e => h2 e.symm)).trans (Below.heap_alloc W8.drew _ _ h1)
                   have n0 := (World.cell?_of_block (w := W8) (a := ⟨LB, 0, none⟩) (aE LB zL (fun e => (bn.out LB e).1 rfl))).trans l0
                   have m1 := (World.cell?_of_block (w := W8) (a := ⟨FB, 1, none⟩) (aE FB zF (fun e => cL.out.2.2 e))).trans r1
                   have m2 := (World.cell?_of_block (w := W8) (a := ⟨FB, 2, none⟩) (aE FB zF (fun e => cL.out.2.2 e))).trans r2
                   have n1 := (World.cell?_of_block (w := W8) (a := ⟨P, i * 2 + 1, none⟩) (aE P zP (fun e => (bn.out P e).2 rfl))).trans k1
                   have nz := (World.frozen?_of_block (w := W8) (a := ⟨P, i * 2 + 1, none⟩) (aE P zP (fun e => (bn.out P e).2 rfl))).trans kz
                   have gO : Hid (w9.cell? ⟨LB, 0, none⟩ = some (.slice (some ⟨P, 0, none⟩) pn pc) ∧ w9.cell? ⟨FB, 1, none⟩ = some (.bool vr) ∧ w9.cell? ⟨FB, 2, none⟩ = some (.int .i64 vn)) := ⟨n0, m1, m2⟩
                   have fR : Hid ((w9.setCell ⟨P, i * 2 + 1, none⟩ (.slice cV (j + 1) cO)).cell? ⟨LB, 0, none⟩ = some (.slice (some ⟨P, 0, none⟩) pn pc) ∧ (w9.setCell ⟨P, i * 2 + 1, none⟩ (.slice cV (j + 1) cO)).cell? ⟨FB, 1, none⟩ = some (.bool vr) ∧ (w9.setCell ⟨P, i * 2 + 1, none⟩ (.slice cV (j + 1) cO)).cell? ⟨FB, 2, none⟩ = some (.int .i64 vn)) := by
                    refine ⟨?_, ?_, ?_⟩
                    . exact (aam _ (fun e => fr.out e.symm) _ _).trans n0
                    . exact (aam _ cL.out.2.1 _ _).trans m1
                    . exact (aam _ cL.out.2.1 _ _).trans m2
                   have bQ := hid ao
                   have bK := hid ah
                   have dV := hid cv
                   clear ao ah cv aE m1 m2))
                all_goals
                 go_wp2_with fail;go_roundw
                 case rel =>
                  have dh:=eS.out.later (cU.out.trans (((Below.refl W8.heap.size W8).drew.alloc (o := .cells #[.bool vr,.int .i64 vn] 41) (by simp)).mono cU.out.size));have gh:(sl.take (j+1)).map Prod.snd=(sl.take j).map Prod.snd++[v2]:=by rw [Ab7,cM.out];simp
                  have cp:((sl.take (j+1)).map Prod.snd).length=j+1:=by rw [Aah,Aat,aY.out];omega
                  have aR := dh.src (i := i) (g := P) (c := pc) (n := pn) (v' := .slice cV (j + 1) cO) (l := (sl.take (j + 1)).map Prod.snd) (by rw [ak.out.len]; exact ar.out) (by rw [ag5]; exact eU.out) aC.out.1 (by
                   rw [cp, gh, Aa9, Abu]
                   have h := bQ.out
                   rw [cc.out.1, cc.out.2] at h
                   exact h) (by rw [eL.out]; exact bK.out) (fun b hb => by
                   rw [eL.out]
                   rcases dV.out with h | h
                   . exact .inl (by rw [<- h]; exact hb)
                   . rw [h] at hb; cases hb; exact .inr (Aac _))
                  rw [anj _ _ _ _ eU.out] at aR;exact⟨j+1,_,by omega,by go_num,aR⟩
                 case measure=>simp [intOf];omega
              . have fY:sn=j:=by omega
                subst fY;have aR:=bU.out.trans aA (fun b hb => .inl hb);rw [show sl.take sn=sl by rw [<-aY.out];exact Aa0,show sl.map Prod.snd=(ae3 (aa8 ord) (aaf bs 0 q) ph).src by rw [gq.out];rfl,aoD fo.out] at aR;have du:=hid aR;clear aA aR hj hjn;go_wp2_with fail;go_roundw
                case rel=>exact⟨i+1,U2,by omega,by go_num,du.out⟩
                case measure=>simp [intOf];omega
        . obtain⟨dv,ef⟩:∃dv:World,dv=wp:=⟨_,rfl⟩
          subst ef;have gu:pn=i:=by omega
          subst gu;have hto:abR (aa8 ord) (aaf bs 0 q) x pn=alA (aa8 ord) (aaf bs 0 q) x 0:=by rw [aw.out.1];exact aoC _ _ _
          rw [hto] at al;have fS:=hid al;have aL:dv.heap[LB]?=some (.cells #[.slice pa pn pc,.slice la ln lc,.int .i64 ek,.bool er,.int .i64 en,.slice ta tn tc] 46 (0,0)):=(al.st.kept LB (.inr rfl)).trans cf.out;obtain⟨l0,l1,l2,l3,l4,l5⟩:=(aad (cs:=[_,_,_,_,_,_]) aL).get6;rw [Aab] at l1 l2 l3 l4 l5;have ft:tn<=1048576:=by rw [aw.out.2.2.1,Hx.out];exact (aW.out.small _ (Aae (aan bs ar.out))).to
          clear hto al aL aH hi hipn;go_wp2_with fail;clear l0 l1 l2 l3 l4 l5;go_loopw [122] (fun s122 wr=>∃(j:Nat),j<=tn∧s122 = .int .i64 (j:Int)∧agR W4 wr base (akp base S w.heap.size W3.heap.size LB) ag q (alA (aa8 ord) (aaf bs 0 q) x j) V (nsO bs V ord k) (.slice na k nc) U') (fun s122 _=>tn - (intOf s122).toNat)
          case atStart=>exact⟨0,Aaj _,rfl,fS.out⟩
          case round =>
           obtain⟨wq,fK⟩:∃wq:World,wq=wr:=⟨_,rfl⟩
           subst fK;obtain⟨j,hj,rfl,ax⟩:=hrel;have bP:=hid ax
           by_cases hjn:j<tn
           . obtain⟨t,ht⟩:∃t,x.fin.to[j]?=some t:=⟨_,Aaa (by have:=aw.out.2.2.1;omega)⟩
             have e2:=aW.out.toIn x (by rw [Hx.out];exact Aae (aan bs ar.out)) t (Aae ht);obtain⟨tq,rfl⟩:=Abc e2.1;have fI:tq<n:=by have:=Hn.out;omega
             have aB:blkOf (ag.set q (alA (aa8 ord) (aaf bs 0 q) x j)) q=alA (aa8 ord) (aaf bs 0 q) x j:=by rw [aaR (by rw [ak.out.len];exact ar.out),if_pos rfl]
             have bp:okN (ag.set q (alA (aa8 ord) (aaf bs 0 q) x j)) (.to q) := .inl (by show q<_;rw [Aar,ak.out.len];exact ar.out);have dd:(alA (aa8 ord) (aaf bs 0 q) x j).fin.to[j]?=some (tq:Int):=by
              show (x.fin.to.mapIdx _)[j]?=_;rw [aai,ht];simp
             have aG:(elN (ag.set q (alA (aa8 ord) (aaf bs 0 q) x j)) U' (nsO bs V ord k) (.to q))[j]?=some [.int .i64 (tq:Int)]:=by
              rw [aaY (by simp)];simp only [aae];rw [aB,Aak,dd];rfl
             obtain⟨G,dY,dc,-,-,gf,gz⟩:=ax.st.rows.addr bp (Aca (Aaj _) (Aad.1 aG).1);rw [(ax.same.2 q).2.2,aC.out.2.2] at dc;have fZ:ta=some ⟨G,0,none⟩:=by injection dc
             subst fZ;obtain⟨an,aQ⟩:=ax.st.rows.at (p := .to q) bp ((ax.same.2 q).2.2.trans aC.out.2.2) aG;have q0:=an.get1;rw [show j * Pth.sz (.to q)=j by simp [Pth.sz]] at q0;have qz:=aQ j;have ay:wq.heap[LB]?=some (.cells #[.slice pa pn pc,.slice la ln lc,.int .i64 ek,.bool er,.int .i64 en,.slice (some ⟨G,0,none⟩) tn tc] 46 (0,0)):=(ax.st.kept LB (.inr rfl)).trans cf.out;have l5:=(aad (cs:=[_,_,_,_,_,_]) ay) 5 _ rfl;rw [Aab] at l5;obtain⟨d,hd⟩:∃d,d=ako ord m tq:=⟨_,rfl⟩
             have a1:d=aa8 ord tq:=by rw [hd];unfold aa8;rw [bD.out]
             have c8:wq.cell? ⟨T,tq,none⟩=some (.int .i64 d):=by
              rw [hd];exact ax.st.cell (b:=T) (.inl (HX.out T ae.out.2.2.2.2.1 ae.out.2.2.2.2.2)) (eG.out T tq _ ae.out.2.2.2.2.1 ae.out.2.2.2.2.2 (by rw [aaW a8.out,Ab8];exact aeC ord n m fI))
             have aR:=(bP.out.later (Below.refl wq.heap.size wq).drew).to (j:=j) (g:=G) (c:=tc) (n:=tn) (t:=d) (by rw [ak.out.len];exact ar.out) (Aad.1 dd).1 aC.out.2.2;have dH:=aqE (at_:=aa8 ord) (A:=aaf bs 0 q) (x:=x) ht;rw [Aan,<-a1] at dH;rw [dH] at aR;have du:=hid aR;have zG:G<wq.heap.size:=aac q0;have zL:LB<wq.heap.size:=aac l5;have zT:T<wq.heap.size:=aac c8;clear ax ht e2 aB bp dd aG dc gf gz an aQ ay hd a1 aR dH;go_wp2_with fail;go_big_region
             all_goals
              go_wp2_with fail;go_roundw
              case rel=>exact⟨j+1,by omega,by go_num,du.out⟩
              case measure=>simp [intOf];omega
           . have fT:tn=j:=by omega
             subst fT;have eT:alA (aa8 ord) (aaf bs 0 q) x tn=afl (aa8 ord) (aaf bs 0 q) x:=by rw [aw.out.2.2.1];exact aqD _ _ _
             rw [eT] at ax;have ay:wq.heap[LB]?=some (.cells #[.slice pa pn pc,.slice la ln lc,.int .i64 ek,.bool er,.int .i64 en,.slice ta tn tc] 46 (0,0)):=(ax.st.kept LB (.inr rfl)).trans cf.out;obtain⟨l0,l1,l2,l3,l4,l5⟩:=(aad (cs:=[_,_,_,_,_,_]) ay).get6;rw [Aab] at l1 l2 l3 l4 l5;have ai:=ax.st.rows.own .vBlk (.inr rfl);rw [aeL,ax.new,aoE eP] at ai;have aX:=hid ai;have et:abe (blkOf bs q) (V (.phis q)) (V (.list q)) (V (.to q))=[.slice pa pn pc,.slice la ln lc,.int .i64 ek,.bool er,.int .i64 en,.slice ta tn tc]:=by
              rw [aC.out.1,aC.out.2.1,aC.out.2.2,aw.out.2.2.2.1,aw.out.2.2.2.2.1,aw.out.2.2.2.2.2,Hx.out];rfl
             have gl:=hid et;have b9:=hid ax;obtain⟨ib,fj,dq,cX,dX⟩:=info_parts ahx;clear eT ax ay ai et hj hjn bP;go_wp2_with (at_builtin;refine wpList_append_own_at _ rfl _ _ 35 rfl base 46 ib (.agg #[.slice none 0 0,.slice none 0 0,.int .i64 0,.bool false,.int .i64 0,.slice none 0 0]) 6 96 Tryz.underlying35 fj dq cX dX rfl (by decide) (.slice na k nc) k ((nsO bs V ord k).flatten) rfl ?_ ⟨wq.heap.size,0,none⟩ 1 1 [.slice pa pn pc,.slice la ln lc,.int .i64 ek,.bool er,.int .i64 en,.slice ta tn tc] rfl rfl ?_ ?_ ?_ ?_ ?_ ?_)
             . exact aao aX.out bE
             . intro m u hu;exact aaB _ _ _ rfl m u hu
             . intro u hu
               simp only [Aam,Aaq,or_false] at hu;rcases hu with rfl | rfl | rfl | rfl | rfl | rfl <;> rfl
             . unfold maxLen;omega
             . omega
             . have:=b9.out.st.base_le;simp;omega
             . intro v' w9 ao ah _ eD
               obtain⟨va,vc,rfl⟩:=aap ao
               have be := (ak.out.later fG.out.1).next (v' := .slice va (k + 1) vc) ar.out dn.out (by rw [<- Hx.out]; exact b9.out.later (W' := wq.alloc (.cells #[.slice pa pn pc, .slice la ln lc, .int .i64 ek, .bool er, .int .i64 en, .slice ta tn tc] 46)) bE) (fun b hb => Or.inl hb) (by rw [aoE eP, gl.out]; exact ao) ah (fun b hb => by
                rcases eD with h | h
                . exact .inl (by rw [<- h]; exact hb)
                . rw [h] at hb; cases hb; exact .inr (by simp))
               have bN:=hid be;clear ao ah eD be;go_wp2_with fail;go_roundw
               case rel=>exact⟨k+1,_,_,va,vc,by omega,by go_num,rfl,aaj _ _ _,bN.out⟩
               case measure=>simp [intOf];omega
     . have dN:m=k:=by omega
       subst dN;have bA:wo.heap[UB]?=some (.cells #[.string nm,.int .i64 p,.int .i64 r,.slice ba n bc] 37 (0,0)):=(af.st.kept UB (HX.out UB ae.out.1 ae.out.2.1)).trans cg.out;have aM:wo.heap[UO]?=some (.cells #[.string ⟨#[]⟩,.int .i64 0,.int .i64 0,.slice none 0 0] 37 (0,0)):=(af.st.kept UO (HX.out UO ae.out.2.2.1 ae.out.2.2.2.1)).trans dr.out;obtain⟨c0,c1,c2,c3⟩:=(aad (cs:=[_,_,_,_]) bA).get4;obtain⟨o0,o1,o2,o3⟩:=(aad (cs:=[_,_,_,_]) aM).get4;rw [Aab] at c1 c2 c3 o1 o2 o3;have f3:=aaq bA 3;have z0:=aaq aM 0;have z1:=aaq aM 1;have z2:=aaq aM 2;have z3:=aaq aM 3;have dW:¬UO=UB:=by have:=aO.out;omega
       have eY:aal (wo.setCell ⟨UB,3,none⟩ (.slice na m nc)) UO 0 [.string ⟨#[]⟩,.int .i64 0,.int .i64 0,.slice none 0 0]:=fun j v hj=>by
        rw [aam _ dW];exact aad aM j v hj
       have fL:=hid eY;have gI:=hid dW;clear bA aM hkm hk eY;go_wp2_with fail;have bo:=as3 (u0 := .string nm) (u1 := .int .i64 p) (u2 := .int .i64 r) (u3 := .slice na m nc) fL.out;refine bodyPost_ret (adR rfl rfl bo) rfl ?_;have eO:∀b,alB base S w.heap.size W3.heap.size b->∀q,okN ag q->(U q).ownBlock≠some b:=fun b hb q hq e=>ak.out.st.off q hq b e hb;have fh:=eO UB (HX.out UB ae.out.1 ae.out.2.1);have cP:=eO UO (HX.out UO ae.out.2.2.1 ae.out.2.2.2.1);have a6:=ak.out.st.rows;rw [<-bD.out] at a6;have eE:=alC.pick (by have h:=ak.out;rw [<-bD.out] at h;exact h) c4.out e9.out (((((a6.setOff (o:=3) fh (.slice na m nc)).setOff (o:=0) cP (.string nm)).setOff (o:=1) cP (.int .i64 p)).setOff (o:=2) cP (.int .i64 r)).setOff (o:=3) cP (.slice na m nc));refine⟨_,?_,eE.1,?_,?_⟩
       . show _=Ending.returned (.agg #[.string nm,.int .i64 p,.int .i64 r,U .vBlk])
         rw [fP.out]
       . have hb:=(cD.out.mono HB.out).trans ak.out.st.low
         have h1:base<=UB:=by have:=ae.out;have:=HB.out;omega
         have h2:base<=UO:=by have:=ae.out;have:=HB.out;omega
         exact ((((hb.setCell (p:=⟨UB,3,none⟩) h1 _).setCell (p:=⟨UO,0,none⟩) h2 _).setCell (p:=⟨UO,1,none⟩) h2 _).setCell (p:=⟨UO,2,none⟩) h2 _).setCell (p:=⟨UO,3,none⟩) h2 _
       . intro b hb
         have cm:=(HS.out b hb).1;have h1:b≠UB:=by have:=ae.out;omega
         have h2:b≠UO:=by have:=ae.out;omega
         refine⟨?_,fun q hq e=>ak.out.st.off _ (eE.2 q hq) b e (.inr (.inl hb))⟩;refine (((((Kp.refl (fun b=>b≠UB∧b≠UO) wo).set (a:=⟨UB,3,none⟩) (fun h=>h.1 rfl) _).set (a:=⟨UO,0,none⟩) (fun h=>h.2 rfl) _).set (a:=⟨UO,1,none⟩) (fun h=>h.2 rfl) _).set (a:=⟨UO,2,none⟩) (fun h=>h.2 rfl) _ |>.set (a:=⟨UO,3,none⟩) (fun h=>h.2 rfl) _).block b ?_ ⟨h1,h2⟩ |>.trans ?_
         . exact Aay cm (Aai cD.out.size ak.out.st.low.size)
         . exact (ak.out.st.kept b (.inr (.inl hb))).trans (cD.out.block b cm)
end
end Go.Proofs.YtpeejlpcikefcaaGreatDoor
