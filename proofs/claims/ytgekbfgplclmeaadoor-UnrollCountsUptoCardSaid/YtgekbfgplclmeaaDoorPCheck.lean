import Derived.Test.YtgekbfgplclmeaaDoorPCheck0
/- The contract of code.Check. -/
namespace Go.Proofs.YtgekbfgplclmeaaDoor
open Go.RowKit
theorem ak7:(Tryd.prog.info? 9).map (fun i=>(i.zero,i.size,i.bytes))=some (some (.string ByteArray.empty),1,16):=by kernel_rfl
set_option maxRecDepth 100000 in
set_option maxHeartbeats 4000000 in
theorem aeu {S : Nat -> Prop} (ga : Option Addr) (gc : Nat) (fa : Option Addr) (fc : Nat) (gs : List aat) (fs : List aal) (w : World)
 (hg:SlAt S w 3 abd (.slice ga gs.length gc) gs) (hf:SlAt S w 4 abT (.slice fa fs.length fc) fs) (hw:ab5 w)
 (bW:gs.length<=1048576) (bU:fs.length<=1048576) (bI:∀(k:Nat) (f:aal),fs[k]?=some f->aa1 f.blocks<=1048576∧f.blocks.length<=1048576) :
 Calls Tryd.prog 19 #[.agg #[.slice ga gs.length gc,.slice fa fs.length fc]] w fun e w' =>
  e = .returned (.agg #[.int .i64 (aak ⟨gs,fs⟩).1,.int .i64 (aak ⟨gs,fs⟩).2])∧Below w.heap.size w w':=by
 have Hg:=hid hg;have Hf:=hid hf;have Hw:=hid hw;have bB:=hid bI;obtain⟨_,_,bV,b1⟩:=hg.val;obtain⟨_,_,aC,aP⟩:=hf.val;cases bV;cases aC;clear hg hf hw bI;obtain⟨i0,hi,bK,bL,bM⟩:=info_parts ak7
 by_cases hlen:10<gs.length∨10<fs.length
 . have Hr:Hid (aak ⟨gs,fs⟩=(2,0)):=by show aak ⟨gs,fs⟩=_;unfold aak;rw [if_pos hlen]
   by_cases hgl':10<gs.length
   all_goals
    go_enter Tryd.func19,Tryd.ntmps19;go_wp2_with (go_at_call 21;((with_reducible refine (aaQ _ _ _).mono ?_);rintro e w2 ⟨rfl,af⟩;obtain⟨aO,aP⟩:=aao af));refine bodyPost_ret (v:=_) ?_ rfl ⟨rfl,?_⟩
    . rw [Hr.out]
      simp [results,Tryd.results19,go_sem,aO]
    . exact bE1 af
 have bF:gs.length<=10:=by omega
 have aH:fs.length<=10:=by omega
 have aD:=hid hlen;clear hlen bW bU;have be:Hid (∀a b:Obj,Below w.heap.size w ((w.alloc a).alloc b)):=fun a b=>by exact bE
 go_enter Tryd.func19,Tryd.ntmps19;go_wp2_with fail;go_loopw [3,4,31] (fun v3 wd i wr=>∃(k:Nat) (nv:Value),k<=gs.length∧i = .int .i64 k∧nv=v3∧wd = .int .i64 (aaY gs k)∧(∀j,j<k->acp gs j=0)∧wr.ownsRow (w.heap.size+2) 9 1 nv (abL gs k).length ((abL gs k).map Value.string)∧Below (w.heap.size+2) ((w.alloc (.cells #[.slice ga gs.length gc,.slice fa fs.length fc] 25)).alloc (.cells #[.int .i64 0,.int .i64 0] 28)) wr) (fun _ _ i _=>gs.length - (intOf i).toNat)
 case atStart=>exact⟨0,_,Aaf _,rfl,rfl,rfl,fun j hj=>by omega,World.ownsRow_nil _ _ _ _,Below.refl _ _⟩
 case round =>
  obtain⟨k,nv,hk,rfl,rfl,rfl,ao,aj,aq⟩:=hrel;have aI:=hid ao;have ak:=hid aj;have aF:=hid aq;have ai:Hid (Below w.heap.size w wr):=(be.out _ _).trans (aq.mono (by omega));have au:Hid (SlAt (fun b=>w.heap.size+2<=b) wr 1 akO nv (abL gs k)):=ahC aj;obtain⟨na,nc,rfl,a7⟩:=au.out.val;obtain⟨aB,aC⟩:=aao aq;have ar:w.heap.size+1<wr.heap.size:=by have:=aq.size;simp at this;omega
  have bN:w.heap.size<wr.heap.size:=by omega
  have R0:Hid (wr.cell? ⟨w.heap.size+1,0,none⟩=some (.int .i64 0)):=by show _=_;rw [aB _ _ (by omega)];simp
  have R1:Hid (wr.cell? ⟨w.heap.size+1,1,none⟩=some (.int .i64 0)):=by show _=_;rw [aB _ _ (by omega)];simp
  have aV:=aeZ hk ao;clear ao aj aq
  by_cases hlt:k<gs.length
  . obtain⟨b,off,cs,rfl,-,hx,-,aA⟩:=Hg.out.get hlt
    obtain⟨xa,xc,rfl,-,bd,bJ⟩:=hx.opens;obtain⟨c0,c1,c2⟩:=(aA.later ai.out).get3;unfold I64 at bJ;have bD:acp gs k=abM (abL gs k) (aaY gs k) gs[k]:=by unfold acp;rw [Aaa hlt]
    have aw:=hid bD;have aN:Hid (∀c:Int,abM (abL gs k) (aaY gs k) gs[k]=c->c≠0->aak ⟨gs,fs⟩=(c,(k:Int))):=fun c hc bY=>by
     have h:=afS aI.out hlt (by rw [aw.out,hc];exact bY);unfold aak;dsimp only;rw [if_neg aD.out,h,if_pos hlt,aw.out,hc]
    obtain⟨names,ae⟩:∃names,names=abL gs k:=⟨_,rfl⟩
    obtain⟨words,an⟩:∃words,words=aaY gs k:=⟨_,rfl⟩
    rw [<-ae,<-an] at aN;rw [<-ae] at au ak a7;rw [<-an] at aV;rw [<-ae];rw [<-an];have ag:=hid ae;have az:=hid an;clear aA hx bD ae an;obtain⟨g,bt⟩:∃g,g=gs[k]:=⟨_,rfl⟩
    rw [<-bt] at aN c0 c1 c2 bJ bd;have bm:=hid bt;clear bt
    by_cases h1:abB g.name=true
    case neg =>
     have bT:abB g.name=false:=by simpa using h1
     have Hr:Hid (aak ⟨gs,fs⟩=(12,(k:Int))):=aN.out _ (by simp [abM,bT]) (by omega);clear h1 aV;go_wp2_with (first | (go_at_call 21;((with_reducible refine (aaQ _ _ _).mono ?_);rintro e w2 ⟨rfl,af⟩;obtain⟨aO,aP⟩:=aao af)) | (go_at_call 38;((with_reducible refine (abl _ _).mono ?_);rintro e w' ⟨rfl,rfl⟩)) | (go_at_call 39;((with_reducible refine (aaz (S:=fun b=>w.heap.size+2<=b) _ names _ _ ?_).mono ?_);refine au.out.later abm ?_;exact bE;rintro e w' ⟨rfl,rfl⟩)) | (go_at_call 20;((with_reducible refine (aah _ _ _ _).mono ?_);rintro e w' ⟨rfl,rfl⟩)));have hq:Below wr.heap.size wr w2:=by exact bE1 af
     have q:=aaU (u := .int .i64 (aak ⟨gs,fs⟩).1) (v := .int .i64 (aak ⟨gs,fs⟩).2) (aab R0.out hq) (aab R1.out hq);rw [Hr.out] at q ⊢;refine bodyPost_ret (ab2 rfl rfl q.1 q.2) rfl ⟨rfl,?_⟩;have h:=ai.out;exact bE2 af h
    by_cases h2:acO names g.name=true
    . have Hr:Hid (aak ⟨gs,fs⟩=(7,(k:Int))):=aN.out _ (by simp [abM,h1,h2]) (by omega)
      clear aV;go_wp2_with (first | (go_at_call 21;((with_reducible refine (aaQ _ _ _).mono ?_);rintro e w2 ⟨rfl,af⟩;obtain⟨aO,aP⟩:=aao af)) | (go_at_call 38;((with_reducible refine (abl _ _).mono ?_);rintro e w' ⟨rfl,rfl⟩)) | (go_at_call 39;((with_reducible refine (aaz (S:=fun b=>w.heap.size+2<=b) _ names _ _ ?_).mono ?_);refine au.out.later abm ?_;exact bE;rintro e w' ⟨rfl,rfl⟩)) | (go_at_call 20;((with_reducible refine (aah _ _ _ _).mono ?_);rintro e w' ⟨rfl,rfl⟩)));have hq:Below wr.heap.size wr w2:=by exact bE1 af
      have q:=aaU (u := .int .i64 (aak ⟨gs,fs⟩).1) (v := .int .i64 (aak ⟨gs,fs⟩).2) (aab R0.out hq) (aab R1.out hq);rw [Hr.out] at q ⊢;refine bodyPost_ret (ab2 rfl rfl q.1 q.2) rfl ⟨rfl,?_⟩;have h:=ai.out;exact bE2 af h
    have bf:acO names g.name=false:=by simpa using h2
    clear h2
    by_cases h3:1<=g.size∧g.size<=200
    case neg =>
     have Hr:Hid (aak ⟨gs,fs⟩=(3,(k:Int))):=aN.out _ (by simp only [abM,h1,bf,h3];simp) (by omega);clear aV;go_wp2_with (first | (go_at_call 21;((with_reducible refine (aaQ _ _ _).mono ?_);rintro e w2 ⟨rfl,af⟩;obtain⟨aO,aP⟩:=aao af)) | (go_at_call 38;((with_reducible refine (abl _ _).mono ?_);rintro e w' ⟨rfl,rfl⟩)) | (go_at_call 39;((with_reducible refine (aaz (S:=fun b=>w.heap.size+2<=b) _ names _ _ ?_).mono ?_);refine au.out.later abm ?_;exact bE;rintro e w' ⟨rfl,rfl⟩)) | (go_at_call 20;((with_reducible refine (aah _ _ _ _).mono ?_);rintro e w' ⟨rfl,rfl⟩)));have hq:Below wr.heap.size wr w2:=by exact bE1 af
     have q:=aaU (u := .int .i64 (aak ⟨gs,fs⟩).1) (v := .int .i64 (aak ⟨gs,fs⟩).2) (aab R0.out hq) (aab R1.out hq);rw [Hr.out] at q ⊢;refine bodyPost_ret (ab2 rfl rfl q.1 q.2) rfl ⟨rfl,?_⟩;have h:=ai.out;exact bE2 af h
    by_cases h4:g.size<(g.init.length:Int)
    . have Hr:Hid (aak ⟨gs,fs⟩=(9,(k:Int))):=aN.out _ (by simp only [abM,h1,bf,h3,h4];simp) (by omega)
      clear aV;go_wp2_with (first | (go_at_call 21;((with_reducible refine (aaQ _ _ _).mono ?_);rintro e w2 ⟨rfl,af⟩;obtain⟨aO,aP⟩:=aao af)) | (go_at_call 38;((with_reducible refine (abl _ _).mono ?_);rintro e w' ⟨rfl,rfl⟩)) | (go_at_call 39;((with_reducible refine (aaz (S:=fun b=>w.heap.size+2<=b) _ names _ _ ?_).mono ?_);refine au.out.later abm ?_;exact bE;rintro e w' ⟨rfl,rfl⟩)) | (go_at_call 20;((with_reducible refine (aah _ _ _ _).mono ?_);rintro e w' ⟨rfl,rfl⟩)));have hq:Below wr.heap.size wr w2:=by exact bE1 af
      have q:=aaU (u := .int .i64 (aak ⟨gs,fs⟩).1) (v := .int .i64 (aak ⟨gs,fs⟩).2) (aab R0.out hq) (aab R1.out hq);rw [Hr.out] at q ⊢;refine bodyPost_ret (ab2 rfl rfl q.1 q.2) rfl ⟨rfl,?_⟩;have h:=ai.out;exact bE2 af h
    by_cases h5:200<words+g.size
    . have Hr:Hid (aak ⟨gs,fs⟩=(10,(k:Int))):=aN.out _ (by simp only [abM,h1,bf,h3,h4,h5];simp) (by omega)
      go_wp2_with (first | (go_at_call 21;((with_reducible refine (aaQ _ _ _).mono ?_);rintro e w2 ⟨rfl,af⟩;obtain⟨aO,aP⟩:=aao af)) | (go_at_call 38;((with_reducible refine (abl _ _).mono ?_);rintro e w' ⟨rfl,rfl⟩)) | (go_at_call 39;((with_reducible refine (aaz (S:=fun b=>w.heap.size+2<=b) _ names _ _ ?_).mono ?_);refine au.out.later abm ?_;exact bE;rintro e w' ⟨rfl,rfl⟩)) | (go_at_call 20;((with_reducible refine (aah _ _ _ _).mono ?_);rintro e w' ⟨rfl,rfl⟩)));have hq:Below wr.heap.size wr w2:=by exact bE1 af
      have q:=aaU (u := .int .i64 (aak ⟨gs,fs⟩).1) (v := .int .i64 (aak ⟨gs,fs⟩).2) (aab R0.out hq) (aab R1.out hq);rw [Hr.out] at q ⊢;refine bodyPost_ret (ab2 rfl rfl q.1 q.2) rfl ⟨rfl,?_⟩;have h:=ai.out;exact bE2 af h
    have bl:Hid (acp gs k=0):=by
     show acp gs k=0;rw [aw.out,<-bm.out,<-ag.out,<-az.out];simp only [abM,h1,bf,h3,h4,h5];simp
    have a8:names.length<=10:=by rw [ag.out];simp [abL];omega
    have aX:=hid a8;clear a8;go_wp2_with (first | (at_builtin;refine wpList_append_own _ rfl _ _ 108 rfl (w.heap.size+2) 9 i0 (.string ByteArray.empty) 1 16 Tryd.underlying108 hi bK bL bM rfl (by decide) _ _ _ rfl ((ak.out.alloc _).alloc _) ⟨wr.heap.size+1,0,none⟩ 1 1 [.string g.name] rfl rfl ?_ ?_ ?_ ?_ ?_ ?_) | (go_at_call 21;((with_reducible refine (aaQ _ _ _).mono ?_);rintro e w2 ⟨rfl,af⟩;obtain⟨aO,aP⟩:=aao af)) | (go_at_call 38;((with_reducible refine (abl _ _).mono ?_);rintro e w' ⟨rfl,rfl⟩)) | (go_at_call 39;((with_reducible refine (aaz (S:=fun b=>w.heap.size+2<=b) _ names _ _ ?_).mono ?_);refine au.out.later abm ?_;exact bE;rintro e w' ⟨rfl,rfl⟩)) | (go_at_call 20;((with_reducible refine (aah _ _ _ _).mono ?_);rintro e w' ⟨rfl,rfl⟩)))
    . have h:=cell_one_new (wr.alloc (.cells #[.string g.name,.int .i64 g.size,.slice xa g.init.length xc] 82)) (.string g.name) 9
      simpa using h
    . intro u hu;simp at hu;subst hu;rfl
    . have:=aX.out;simp;unfold maxLen;omega
    . have:=aX.out;simp;omega
    . simp;omega
    . intro v' w2 aj al aR
      have aZ:=hid aj;have aK:Hid (Below (w.heap.size+2) ((w.alloc (.cells #[.slice (some ⟨b,off,none⟩) gs.length gc,.slice fa fs.length fc] 25)).alloc (.cells #[.int .i64 0,.int .i64 0] 28)) w2):=by
       refine ((aF.out.alloc (by omega) _).alloc (by simp;omega) _).grown al (by simp;omega) (fun q hq=>?_);exact ((ak.out.lt q hq).1)
      have bu:=aK.out.size;have bX:=al.size;have e1:w2.cell? ⟨wr.heap.size,1,none⟩=some (.int .i64 g.size):=al.cell (by simp) (fun h=>absurd (ak.out.lt _ h.symm).2 (Nat.lt_irrefl _));have bS:Hid (Below w.heap.size w w2):=(be.out _ _).trans (aK.out.mono (by omega));clear aj al aR bu bX;go_wp2_with fail;go_roundw
      case rel =>
       refine⟨k+1,_,by omega,by go_num,rfl,?_,aa6 aI.out bl.out,?_,aK.out⟩
       . rw [abX hlt,<-az.out,<-bm.out]
       . rw [ag0 hlt,<-ag.out,<-bm.out]
         simpa using aZ.out
      case measure=>simp [intOf];omega
  . obtain rfl:k=gs.length:=by omega
    have bp:Hid (acd (acp gs) gs.length=gs.length):=adD aI.out;have aY:Hid (wr.ownsRow (w.heap.size+2) 9 1 (.slice na (abL gs gs.length).length nc) (abK gs fs 0).length ((abK gs fs 0).map Value.string)):=by
     have:abK gs fs 0=abL gs gs.length:=by simp [abK]
     rw [this];exact ak.out
    go_wp2_with fail;obtain⟨wl,rfl⟩:∃wl:World,wl=wr:=⟨_,rfl⟩
    have bQ:=hid aF.out;clear aB aC R0 R1 au a7 aV ak;go_loopw [3,82] (fun v3 i wr=>∃(k:Nat) (nv:Value),k<=fs.length∧i = .int .i64 k∧nv=v3∧(∀j,j<k->abp gs fs j=0)∧wr.ownsRow (w.heap.size+2) 9 1 nv (abK gs fs k).length ((abK gs fs k).map Value.string)∧Below (w.heap.size+2) ((w.alloc (.cells #[.slice ga gs.length gc,.slice fa fs.length fc] 25)).alloc (.cells #[.int .i64 0,.int .i64 0] 28)) wr) (fun _ i _=>fs.length - (intOf i).toNat)
    case atStart=>exact⟨0,_,Aaf _,rfl,rfl,fun j hj=>by omega,aY.out,bQ.out⟩
    case round =>
     obtain⟨k,nv,hk,rfl,rfl,ao,aj,aq⟩:=hrel;have av:=hid ao;have ak:=hid aj;have aF:=hid aq;have ai:Hid (Below w.heap.size w wr):=(be.out _ _).trans (aq.mono (by omega));have au:Hid (SlAt (fun b=>w.heap.size+2<=b) wr 1 akO nv (abK gs fs k)):=ahC aj;obtain⟨na,nc,rfl,a7⟩:=au.out.val;obtain⟨aB,aC⟩:=aao aq;have ar:w.heap.size+1<wr.heap.size:=by have:=aq.size;simp at this;omega
     have bN:w.heap.size<wr.heap.size:=by omega
     have R0:Hid (wr.cell? ⟨w.heap.size+1,0,none⟩=some (.int .i64 0)):=by show _=_;rw [aB _ _ (by omega)];simp
     have R1:Hid (wr.cell? ⟨w.heap.size+1,1,none⟩=some (.int .i64 0)):=by show _=_;rw [aB _ _ (by omega)];simp
     have F0:Hid (wr.frozen? ⟨w.heap.size+1,0,none⟩=false):=by show _=_;rw [aC _ _ (by omega)];simp
     have F1:Hid (wr.frozen? ⟨w.heap.size+1,1,none⟩=false):=by show _=_;rw [aC _ _ (by omega)];simp
     clear ao aj aq
     by_cases hlt:k<fs.length
     . obtain⟨b,off,cs,rfl,-,hx,-,aA⟩:=Hf.out.get hlt
       obtain⟨xa,xc,rfl,a6,bd,ax,aE⟩:=hx.opens;obtain⟨c0,c1,c2,c3⟩:=(aA.later ai.out).get4;have aJ:=hid a6;have aL:=hid ax;have aM:=hid aE;have bo:Hid (aa1 fs[k].blocks<=1048576):=(bB.out k _ (Aaa hlt)).1;have aw:Hid (abp gs fs k=adi (abK gs fs k) fs[k]):=by show abp gs fs k=_;unfold abp;rw [Aaa hlt]
       obtain⟨names,ae⟩:∃names,names=abK gs fs k:=⟨_,rfl⟩
       obtain⟨f,aQ⟩:∃f,f=fs[k]:=⟨_,rfl⟩
       rw [<-ae] at au ak a7 aw ⊢;rw [<-aQ] at c0 c1 c2 c3 bd aJ aL aM bo aw;have ag:=hid ae;have bw:=hid aQ;clear aA hx a6 ax aE ae aQ
       by_cases hz:adi names f=0
       case neg =>
        have bZ:=abN hz;have Hr:Hid (aak ⟨gs,fs⟩=(adi names f,(k:Int))):=by
         have h:=afS av.out hlt (by rw [aw.out];exact hz);show aak ⟨gs,fs⟩=_;unfold aak;dsimp only;rw [if_neg aD.out,bp.out,if_neg (Nat.lt_irrefl _),h,if_pos hlt,aw.out]
        clear hz;go_wp2_with (first | (go_at_call 21;((with_reducible refine (aaQ _ _ _).mono ?_);rintro e w2 ⟨rfl,af⟩;have hq:Below wr.heap.size wr w2:=(bE2 af ad);have g0:=aab R0.out hq;have g1:=aab R1.out hq;have f0:=(hq.frozen (p:=⟨w.heap.size+1,0,none⟩) ar).trans F0.out;have f1:=(hq.frozen (p:=⟨w.heap.size+1,1,none⟩) ar).trans F1.out)) | (go_at_call 40;((with_reducible refine (ahu (S:=S) (S':=fun b=>w.heap.size+2<=b) _ _ f _ _ _ names _ ?_ ?_ bo.out aL.out aM.out).mono ?_);refine aJ.out.later aam ?_;have h:=ai.out;exact bE1 h;refine au.out.later abm ?_;exact bE;rintro e w5 ⟨rfl,ad⟩;have aW:wr.heap.size+1<w5.heap.size:=(by have:=ad.size;simp at this;omega);obtain⟨aT,aU⟩:=aao ad;have aG:=hid (adC ak.out (bE1 ad:Below wr.heap.size wr w5)))));have q:=aaU (u := .int .i64 (aak ⟨gs,fs⟩).1) (v := .int .i64 (aak ⟨gs,fs⟩).2) (aab R0.out hq) (aab R1.out hq);rw [Hr.out] at q ⊢;refine bodyPost_ret (ab2 rfl rfl q.1 q.2) rfl ⟨rfl,?_⟩;have h:=ai.out;exact bE3 af ad h
       have bl:Hid (abp gs fs k=0):=aw.out.trans hz;have a8:names.length<=20:=by rw [ag.out];simp [abK,abL];omega
       have aX:=hid a8;clear a8;go_wp2_with (first | (at_builtin;refine wpList_append_own _ rfl _ _ 108 rfl (w.heap.size+2) 9 i0 (.string ByteArray.empty) 1 16 Tryd.underlying108 hi bK bL bM rfl (by decide) _ _ _ rfl (aG.out.alloc _) ⟨w5.heap.size,0,none⟩ 1 1 [.string f.name] rfl rfl (cell_one_new _ _ _) ?_ ?_ ?_ ?_ ?_) | (go_at_call 40;((with_reducible refine (ahu (S:=S) (S':=fun b=>w.heap.size+2<=b) _ _ f _ _ _ names _ ?_ ?_ bo.out aL.out aM.out).mono ?_);refine aJ.out.later aam ?_;have h:=ai.out;exact bE1 h;refine au.out.later abm ?_;exact bE;rintro e w5 ⟨rfl,ad⟩;have aW:wr.heap.size+1<w5.heap.size:=(by have:=ad.size;simp at this;omega);obtain⟨aT,aU⟩:=aao ad;have aG:=hid (adC ak.out (bE1 ad:Below wr.heap.size wr w5)))))
       . intro u hu;simp at hu;subst hu;rfl
       . have:=aX.out;simp;unfold maxLen;omega
       . have:=aX.out;simp;omega
       . have:=aF.out.size;simp at this;simp;omega
       . intro v' w6 aj al aR
         have a1:=hid aj;have bj:Hid (Below (w.heap.size+2) ((w.alloc (.cells #[.slice ga gs.length gc,.slice (some ⟨b,off,none⟩) fs.length fc] 25)).alloc (.cells #[.int .i64 0,.int .i64 0] 28)) w6):=by
          have hq:Below wr.heap.size wr w5:=by exact bE1 ad
          refine (((aF.out.trans (hq.mono (by omega))).alloc (by omega) _)).grown al (by simp;omega) (fun q hq=>?_);exact ((ak.out.lt q hq).1)
         clear aj al aR;go_wp2_with fail;go_roundw
         case rel =>
          refine⟨k+1,_,by omega,by go_num,rfl,aa6 av.out bl.out,?_,bj.out⟩;rw [agW hlt,<-ag.out,<-bw.out];simpa using a1.out
         case measure=>simp [intOf];omega
     . obtain rfl:k=fs.length:=by omega
       have bA:Hid (acd (abp gs fs) fs.length=fs.length):=adD av.out;have bz:Hid (∀(j:Nat) (x:aal),fs[j]?=some x->0<=x.regs∧x.regs<=100):=fun j x hx=>by
        have hj:=(Aae.1 hx).1;have:=av.out j hj;unfold abp at this;rw [hx] at this;have h:=acZ this;omega
       go_wp2_with fail;obtain⟨bP,rfl⟩:∃bP:World,bP=wr:=⟨_,rfl⟩
       have bh:=hid aF.out;clear aB aC R0 R1 F0 F1 au a7 ak;go_loopw [107] (fun i wr=>∃k:Nat,k<=fs.length∧i = .int .i64 k∧(∀j,j<k->aa7 fs j=0)∧Below (w.heap.size+2) ((w.alloc (.cells #[.slice ga gs.length gc,.slice fa fs.length fc] 25)).alloc (.cells #[.int .i64 0,.int .i64 0] 28)) wr) (fun i _=>fs.length - (intOf i).toNat)
       case atStart=>exact⟨0,Aaf _,rfl,fun j hj=>by omega,bh.out⟩
       case round =>
        obtain⟨k,hk,rfl,ao,aq⟩:=hrel;have ay:=hid ao;have aF:=hid aq;have ai:Hid (Below w.heap.size w wr):=(be.out _ _).trans (aq.mono (by omega));obtain⟨aB,aC⟩:=aao aq;have ar:w.heap.size+1<wr.heap.size:=by have:=aq.size;simp at this;omega
        have bN:w.heap.size<wr.heap.size:=by omega
        have R0:Hid (wr.cell? ⟨w.heap.size+1,0,none⟩=some (.int .i64 0)):=by show _=_;rw [aB _ _ (by omega)];simp
        have R1:Hid (wr.cell? ⟨w.heap.size+1,1,none⟩=some (.int .i64 0)):=by show _=_;rw [aB _ _ (by omega)];simp
        have F0:Hid (wr.frozen? ⟨w.heap.size+1,0,none⟩=false):=by show _=_;rw [aC _ _ (by omega)];simp
        have F1:Hid (wr.frozen? ⟨w.heap.size+1,1,none⟩=false):=by show _=_;rw [aC _ _ (by omega)];simp
        clear ao aq
        by_cases hlt:k<fs.length
        . obtain⟨b,off,cs,rfl,-,hx,-,aA⟩:=Hf.out.get hlt
          obtain⟨xa,xc,rfl,a6,bd,ax,aE⟩:=hx.opens;obtain⟨c0,c1,c2,c3⟩:=(aA.later ai.out).get4;have aJ:=hid a6;have bg:Hid (fs[k].blocks.length<=1048576):=(bB.out k _ (Aaa hlt)).2;have bq:Hid (0<=fs[k].regs):=(bz.out k _ (Aaa hlt)).1;have br:Hid (fs[k].regs<=100):=(bz.out k _ (Aaa hlt)).2;have aw:Hid (aa7 fs k=ab6 fs fs[k]):=by show aa7 fs k=_;unfold aa7;rw [Aaa hlt]
          obtain⟨f,aQ⟩:∃f,f=fs[k]:=⟨_,rfl⟩
          rw [<-aQ] at c0 c1 c2 c3 bd aJ bg bq br aw;have bw:=hid aQ;have aS:=hid aH;clear aA hx a6 ax aE aQ
          by_cases hz:ab6 fs f=0
          . go_wp2_with (go_at_call 41;go_must ((with_reducible refine (ahq (S:=S) (S':=S) _ _ _ fs _ _ f _ _ _ _ _ _ bq.out br.out ?_ ?_ (Aaj aS.out (by omega)) bg.out ?_).mono ?_);refine Hf.out.later aan ?_;have h:=ai.out;exact bE1 h;refine aJ.out.later aam ?_;have h:=ai.out;exact bE1 h;refine ab5.below Hw.out ?_;have h:=ai.out;exact bE1 h;rintro e w5 ⟨rfl,ad⟩;have aW:wr.heap.size+1<w5.heap.size:=(by have:=ad.size;simp at this;omega);obtain⟨aT,aU⟩:=aao ad))
            go_roundw
            case rel=>exact⟨k+1,by omega,by go_num,aa6 ay.out (aw.out.trans hz),by have h:=aF.out;exact bE2 ad h⟩
            case measure=>simp [intOf];omega
          . have bZ:=abN hz
            have Hr:Hid (aak ⟨gs,fs⟩=(ab6 fs f,(k:Int))):=by
             have h:=afS ay.out hlt (by rw [aw.out];exact hz);show aak ⟨gs,fs⟩=_;unfold aak;dsimp only;rw [if_neg aD.out,bp.out,if_neg (Nat.lt_irrefl _),bA.out,if_neg (Nat.lt_irrefl _),h,if_pos hlt,aw.out]
            clear hz;go_wp2_with (first | (go_at_call 21;((with_reducible refine (aaQ _ _ _).mono ?_);rintro e w2 ⟨rfl,af⟩;have hq:Below wr.heap.size wr w2:=(bE2 af ad);have g0:=aab R0.out hq;have g1:=aab R1.out hq;have f0:=(hq.frozen (p:=⟨w.heap.size+1,0,none⟩) ar).trans F0.out;have f1:=(hq.frozen (p:=⟨w.heap.size+1,1,none⟩) ar).trans F1.out)) | (go_at_call 41;go_must ((with_reducible refine (ahq (S:=S) (S':=S) _ _ _ fs _ _ f _ _ _ _ _ _ bq.out br.out ?_ ?_ (Aaj aS.out (by omega)) bg.out ?_).mono ?_);refine Hf.out.later aan ?_;have h:=ai.out;exact bE1 h;refine aJ.out.later aam ?_;have h:=ai.out;exact bE1 h;refine ab5.below Hw.out ?_;have h:=ai.out;exact bE1 h;rintro e w5 ⟨rfl,ad⟩;have aW:wr.heap.size+1<w5.heap.size:=(by have:=ad.size;simp at this;omega);obtain⟨aT,aU⟩:=aao ad)));have q:=aaU (u := .int .i64 (aak ⟨gs,fs⟩).1) (v := .int .i64 (aak ⟨gs,fs⟩).2) (aab R0.out hq) (aab R1.out hq);rw [Hr.out] at q ⊢;refine bodyPost_ret (ab2 rfl rfl q.1 q.2) rfl ⟨rfl,?_⟩;have h:=ai.out;exact bE3 af ad h
        . obtain rfl:k=fs.length:=by omega
          have bR:Hid (acd (aa7 fs) fs.length=fs.length):=adD ay.out;have bC:aak ⟨gs,fs⟩=agx fs:=by
           unfold aak;dsimp only;rw [if_neg aD.out,bp.out,if_neg (Nat.lt_irrefl _),bA.out,if_neg (Nat.lt_irrefl _),bR.out,if_neg (Nat.lt_irrefl _)]
          have bk:=hid bC;have aS:=hid aH;clear bC
          by_cases hm:aaF fs<0
          . have Hr:Hid (aak ⟨gs,fs⟩=(6,0)):=by show aak ⟨gs,fs⟩=_;rw [bk.out];unfold agx;rw [if_pos hm]
            go_wp2_with (first | (go_at_call 21;((with_reducible refine (aaQ _ _ _).mono ?_);rintro e w2 ⟨rfl,af⟩;have hq:Below wr.heap.size wr w2:=(bE2 af ad);have g0:=aab R0.out hq;have g1:=aab R1.out hq;have f0:=(hq.frozen (p:=⟨w.heap.size+1,0,none⟩) ar).trans F0.out;have f1:=(hq.frozen (p:=⟨w.heap.size+1,1,none⟩) ar).trans F1.out)) | (go_at_call 24;((with_reducible refine (acq (S:=S) _ _ fs _ ?_ (Aaj aS.out (by omega))).mono ?_);refine Hf.out.later aan ?_;have h:=ai.out;exact bE1 h;rintro e w5 ⟨rfl,ad⟩;have aW:w.heap.size+1<w5.heap.size:=(by have:=ad.size;omega);have bO:w.heap.size<w5.heap.size:=(by omega);obtain⟨aT,aU⟩:=aao ad;have g0:=aab R0.out ad;have g1:=aab R1.out ad;have f0:=(ad.frozen (p:=⟨w.heap.size+1,0,none⟩) ar).trans F0.out;have f1:=(ad.frozen (p:=⟨w.heap.size+1,1,none⟩) ar).trans F1.out)));have q:=aaU (u := .int .i64 (aak ⟨gs,fs⟩).1) (v := .int .i64 (aak ⟨gs,fs⟩).2) (aab R0.out hq) (aab R1.out hq);rw [Hr.out] at q ⊢;refine bodyPost_ret (ab2 rfl rfl q.1 q.2) rfl ⟨rfl,?_⟩;have h:=ai.out;exact bE3 af ad h
          . obtain⟨m,bG,bH⟩:=ah5 hm
            obtain⟨b,off,cs,rfl,-,hx,-,aA⟩:=Hf.out.get bG;obtain⟨xa,xc,rfl,-,-,ax,-⟩:=hx.opens;obtain⟨c0,c1,c2,c3⟩:=(aA.later ai.out).get4;have b0:=aac c1;have bx:Hid ((fs.getD (aaF fs).toNat ⟨ByteArray.empty,0,0,[]⟩).params=fs[m].params):=by
             show _=_;rw [bH,Aag,Aab,Aaa bG];rfl
            have Hm:=hid hm;unfold I64 at ax;clear aA hx hm
            by_cases hpz:0<fs[m].params
            . have Hr:Hid (aak ⟨gs,fs⟩=(5,(m:Int))):=by show aak ⟨gs,fs⟩=_;rw [bk.out];unfold agx;rw [if_neg Hm.out,bx.out,if_pos hpz,bH]
              go_wp2_with (first | (go_at_call 21;((with_reducible refine (aaQ _ _ _).mono ?_);rintro e w2 ⟨rfl,af⟩;have hq:Below wr.heap.size wr w2:=(bE2 af ad);have g0:=aab R0.out hq;have g1:=aab R1.out hq;have f0:=(hq.frozen (p:=⟨w.heap.size+1,0,none⟩) ar).trans F0.out;have f1:=(hq.frozen (p:=⟨w.heap.size+1,1,none⟩) ar).trans F1.out)) | (go_at_call 24;((with_reducible refine (acq (S:=S) _ _ fs _ ?_ (Aaj aS.out (by omega))).mono ?_);refine Hf.out.later aan ?_;have h:=ai.out;exact bE1 h;rintro e w5 ⟨rfl,ad⟩;have aW:w.heap.size+1<w5.heap.size:=(by have:=ad.size;omega);have bO:w.heap.size<w5.heap.size:=(by omega);obtain⟨aT,aU⟩:=aao ad;have g0:=aab R0.out ad;have g1:=aab R1.out ad;have f0:=(ad.frozen (p:=⟨w.heap.size+1,0,none⟩) ar).trans F0.out;have f1:=(ad.frozen (p:=⟨w.heap.size+1,1,none⟩) ar).trans F1.out)));have q:=aaU (u := .int .i64 (aak ⟨gs,fs⟩).1) (v := .int .i64 (aak ⟨gs,fs⟩).2) (aab R0.out hq) (aab R1.out hq);rw [Hr.out] at q ⊢;refine bodyPost_ret (ab2 rfl rfl q.1 q.2) rfl ⟨rfl,?_⟩;have h:=ai.out;exact bE3 af ad h
            . have Hr:Hid (aak ⟨gs,fs⟩=(0,0)):=by show aak ⟨gs,fs⟩=_;rw [bk.out];unfold agx;rw [if_neg Hm.out,bx.out,if_neg hpz]
              go_wp2_with (go_at_call 24;((with_reducible refine (acq (S:=S) _ _ fs _ ?_ (Aaj aS.out (by omega))).mono ?_);refine Hf.out.later aan ?_;have h:=ai.out;exact bE1 h;rintro e w5 ⟨rfl,ad⟩;have aW:w.heap.size+1<w5.heap.size:=(by have:=ad.size;omega);have bO:w.heap.size<w5.heap.size:=(by omega);obtain⟨aT,aU⟩:=aao ad;have g0:=aab R0.out ad;have g1:=aab R1.out ad;have f0:=(ad.frozen (p:=⟨w.heap.size+1,0,none⟩) ar).trans F0.out;have f1:=(ad.frozen (p:=⟨w.heap.size+1,1,none⟩) ar).trans F1.out));have q:=aaU (u := .int .i64 (aak ⟨gs,fs⟩).1) (v := .int .i64 (aak ⟨gs,fs⟩).2) (aab R0.out ad) (aab R1.out ad);rw [Hr.out] at q ⊢;refine bodyPost_ret (ab2 rfl rfl q.1 q.2) rfl ⟨rfl,?_⟩;have h:=ai.out;exact bE2 ad h
end Go.Proofs.YtgekbfgplclmeaaDoor
