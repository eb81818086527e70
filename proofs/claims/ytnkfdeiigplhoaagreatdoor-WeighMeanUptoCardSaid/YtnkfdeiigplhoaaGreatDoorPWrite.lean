import Derived.Test.YtnkfdeiigplhoaaGreatDoorPLay
/- The contract of code.Check. The contract of weigh.Lay. turnerysame.Fault, turnerysame.Ints, turneryref6.weighIn. ssa.checker.write: a register is written, for the first time or not. -/
set_option maxHeartbeats 4000000
set_option maxRecDepth 100000
namespace Go.Proofs.YtnkfdeiigplhoaaGreatDoor
section
open Go.RowKit
theorem aoF:(Tryz.prog.info? 9).map (fun i=>(i.zero,i.size,i.bytes))=some (some (.string ByteArray.empty),1,16):=by kernel_rfl
theorem adr {S : Nat -> Prop} (ga : Option Addr) (gc : Nat) (fa : Option Addr) (fc : Nat) (gs : List aas) (fs : List aao) (w : World)
 (hg:SlAt S w 3 aaE (.slice ga gs.length gc) gs) (hf:SlAt S w 4 aaZ (.slice fa fs.length fc) fs) (hw:abX w)
 (b1:gs.length<=1048576) (bZ:fs.length<=1048576) (bL:∀(k:Nat) (f:aao),fs[k]?=some f->aaT f.blocks<=1048576∧f.blocks.length<=1048576) :
 Calls Tryz.prog 23 #[.agg #[.slice ga gs.length gc,.slice fa fs.length fc]] w fun e w' =>
  e = .returned (.agg #[.int .i64 (aal ⟨gs,fs⟩).1,.int .i64 (aal ⟨gs,fs⟩).2])∧Below w.heap.size w w':=by
 have Hg:=hid hg;have Hf:=hid hf;have Hw:=hid hw;have bC:=hid bL;obtain⟨_,_,b0,cb⟩:=hg.val;obtain⟨_,_,aC,aP⟩:=hf.val;cases b0;cases aC;clear hg hf hw bL;obtain⟨i0,hi,bO,bP,bQ⟩:=info_parts aoF
 by_cases hlen:10<gs.length∨10<fs.length
 . have Hr:Hid (aal ⟨gs,fs⟩=(2,0)):=by show aal ⟨gs,fs⟩=_;unfold aal;rw [if_pos hlen]
   by_cases hgl':10<gs.length
   all_goals
    go_enter Tryz.func23,Tryz.ntmps23;go_wp2_with (go_at_call 24;((with_reducible refine (aaY _ _ _).mono ?_);rintro e w2 ⟨rfl,af⟩;obtain⟨aO,aP⟩:=aau af));refine bodyPost_ret (v:=_) ?_ rfl ⟨rfl,?_⟩
    . rw [Hr.out]
      simp [results,Tryz.results23,go_sem,aO]
    . exact bE1 af
 have bI:gs.length<=10:=by omega
 have aH:fs.length<=10:=by omega
 have aD:=hid hlen;clear hlen b1 bZ;have bf:Hid (∀a b:Obj,Below w.heap.size w ((w.alloc a).alloc b)):=fun a b=>by exact bE
 go_enter Tryz.func23,Tryz.ntmps23;go_wp2_with fail;go_loopw [3,4,31] (fun v3 wd i wr=>∃(k:Nat) (nv:Value),k<=gs.length∧i = .int .i64 k∧nv=v3∧wd = .int .i64 (abe gs k)∧(∀j,j<k->acN gs j=0)∧wr.ownsRow (w.heap.size+2) 9 1 nv (acj gs k).length ((acj gs k).map Value.string)∧Below (w.heap.size+2) ((w.alloc (.cells #[.slice ga gs.length gc,.slice fa fs.length fc] 25)).alloc (.cells #[.int .i64 0,.int .i64 0] 31)) wr) (fun _ _ i _=>gs.length - (intOf i).toNat)
 case atStart=>exact⟨0,_,Aah _,rfl,rfl,rfl,fun j hj=>by omega,World.ownsRow_nil _ _ _ _,Below.refl _ _⟩
 case round =>
  obtain⟨k,nv,hk,rfl,rfl,rfl,ao,aj,aq⟩:=hrel;have aI:=hid ao;have ak:=hid aj;have aF:=hid aq;have ai:Hid (Below w.heap.size w wr):=(bf.out _ _).trans (aq.mono (by omega));have au:Hid (SlAt (fun b=>w.heap.size+2<=b) wr 1 aof nv (acj gs k)):=ajU aj;obtain⟨na,nc,rfl,a8⟩:=au.out.val;obtain⟨aB,aC⟩:=aau aq;have ar:w.heap.size+1<wr.heap.size:=by have:=aq.size;simp at this;omega
  have bR:w.heap.size<wr.heap.size:=by omega
  have R0:Hid (wr.cell? ⟨w.heap.size+1,0,none⟩=some (.int .i64 0)):=by show _=_;rw [aB _ _ (by omega)];simp
  have R1:Hid (wr.cell? ⟨w.heap.size+1,1,none⟩=some (.int .i64 0)):=by show _=_;rw [aB _ _ (by omega)];simp
  have aV:=agx hk ao;clear ao aj aq
  by_cases hlt:k<gs.length
  . obtain⟨b,off,cs,rfl,-,hx,-,ax⟩:=Hg.out.get hlt
    obtain⟨xa,xc,rfl,-,be,bM⟩:=hx.opens;obtain⟨c0,c1,c2⟩:=(ax.later ai.out).get3;unfold I64 at bM;have bH:acN gs k=ack (acj gs k) (abe gs k) gs[k]:=by unfold acN;rw [Aaa hlt]
    have aw:=hid bH;have aN:Hid (∀c:Int,ack (acj gs k) (abe gs k) gs[k]=c->c≠0->aal ⟨gs,fs⟩=(c,(k:Int))):=fun c hc b4=>by
     have h:=ahz aI.out hlt (by rw [aw.out,hc];exact b4);unfold aal;dsimp only;rw [if_neg aD.out,h,if_pos hlt,aw.out,hc]
    obtain⟨names,ae⟩:∃names,names=acj gs k:=⟨_,rfl⟩
    obtain⟨words,an⟩:∃words,words=abe gs k:=⟨_,rfl⟩
    rw [<-ae,<-an] at aN;rw [<-ae] at au ak a8;rw [<-an] at aV;rw [<-ae];rw [<-an];have ag:=hid ae;have aA:=hid an;clear ax hx bH ae an;obtain⟨g,bu⟩:∃g,g=gs[k]:=⟨_,rfl⟩
    rw [<-bu] at aN c0 c1 c2 bM be;have bo:=hid bu;clear bu
    by_cases h1:ab1 g.name=true
    case neg =>
     have bX:ab1 g.name=false:=by simpa using h1
     have Hr:Hid (aal ⟨gs,fs⟩=(12,(k:Int))):=aN.out _ (by simp [ack,bX]) (by omega);clear h1 aV;go_wp2_with (first | (go_at_call 24;((with_reducible refine (aaY _ _ _).mono ?_);rintro e w2 ⟨rfl,af⟩;obtain⟨aO,aP⟩:=aau af)) | (go_at_call 47;((with_reducible refine (abI _ _).mono ?_);rintro e w' ⟨rfl,rfl⟩)) | (go_at_call 48;((with_reducible refine (aaH (S:=fun b=>w.heap.size+2<=b) _ names _ _ ?_).mono ?_);refine au.out.later abJ ?_;exact bE;rintro e w' ⟨rfl,rfl⟩)) | (go_at_call 25;((with_reducible refine (aaq _ _ _ _).mono ?_);rintro e w' ⟨rfl,rfl⟩)));have hq:Below wr.heap.size wr w2:=by exact bE1 af
     have q:=abj (u := .int .i64 (aal ⟨gs,fs⟩).1) (v := .int .i64 (aal ⟨gs,fs⟩).2) (aab R0.out hq) (aab R1.out hq);rw [Hr.out] at q ⊢;refine bodyPost_ret (acH rfl rfl q.1 q.2) rfl ⟨rfl,?_⟩;have h:=ai.out;exact bE2 af h
    by_cases h2:adu names g.name=true
    . have Hr:Hid (aal ⟨gs,fs⟩=(7,(k:Int))):=aN.out _ (by simp [ack,h1,h2]) (by omega)
      clear aV;go_wp2_with (first | (go_at_call 24;((with_reducible refine (aaY _ _ _).mono ?_);rintro e w2 ⟨rfl,af⟩;obtain⟨aO,aP⟩:=aau af)) | (go_at_call 47;((with_reducible refine (abI _ _).mono ?_);rintro e w' ⟨rfl,rfl⟩)) | (go_at_call 48;((with_reducible refine (aaH (S:=fun b=>w.heap.size+2<=b) _ names _ _ ?_).mono ?_);refine au.out.later abJ ?_;exact bE;rintro e w' ⟨rfl,rfl⟩)) | (go_at_call 25;((with_reducible refine (aaq _ _ _ _).mono ?_);rintro e w' ⟨rfl,rfl⟩)));have hq:Below wr.heap.size wr w2:=by exact bE1 af
      have q:=abj (u := .int .i64 (aal ⟨gs,fs⟩).1) (v := .int .i64 (aal ⟨gs,fs⟩).2) (aab R0.out hq) (aab R1.out hq);rw [Hr.out] at q ⊢;refine bodyPost_ret (acH rfl rfl q.1 q.2) rfl ⟨rfl,?_⟩;have h:=ai.out;exact bE2 af h
    have bg:adu names g.name=false:=by simpa using h2
    clear h2
    by_cases h3:1<=g.size∧g.size<=200
    case neg =>
     have Hr:Hid (aal ⟨gs,fs⟩=(3,(k:Int))):=aN.out _ (by simp only [ack,h1,bg,h3];simp) (by omega);clear aV;go_wp2_with (first | (go_at_call 24;((with_reducible refine (aaY _ _ _).mono ?_);rintro e w2 ⟨rfl,af⟩;obtain⟨aO,aP⟩:=aau af)) | (go_at_call 47;((with_reducible refine (abI _ _).mono ?_);rintro e w' ⟨rfl,rfl⟩)) | (go_at_call 48;((with_reducible refine (aaH (S:=fun b=>w.heap.size+2<=b) _ names _ _ ?_).mono ?_);refine au.out.later abJ ?_;exact bE;rintro e w' ⟨rfl,rfl⟩)) | (go_at_call 25;((with_reducible refine (aaq _ _ _ _).mono ?_);rintro e w' ⟨rfl,rfl⟩)));have hq:Below wr.heap.size wr w2:=by exact bE1 af
     have q:=abj (u := .int .i64 (aal ⟨gs,fs⟩).1) (v := .int .i64 (aal ⟨gs,fs⟩).2) (aab R0.out hq) (aab R1.out hq);rw [Hr.out] at q ⊢;refine bodyPost_ret (acH rfl rfl q.1 q.2) rfl ⟨rfl,?_⟩;have h:=ai.out;exact bE2 af h
    by_cases h4:g.size<(g.init.length:Int)
    . have Hr:Hid (aal ⟨gs,fs⟩=(9,(k:Int))):=aN.out _ (by simp only [ack,h1,bg,h3,h4];simp) (by omega)
      clear aV;go_wp2_with (first | (go_at_call 24;((with_reducible refine (aaY _ _ _).mono ?_);rintro e w2 ⟨rfl,af⟩;obtain⟨aO,aP⟩:=aau af)) | (go_at_call 47;((with_reducible refine (abI _ _).mono ?_);rintro e w' ⟨rfl,rfl⟩)) | (go_at_call 48;((with_reducible refine (aaH (S:=fun b=>w.heap.size+2<=b) _ names _ _ ?_).mono ?_);refine au.out.later abJ ?_;exact bE;rintro e w' ⟨rfl,rfl⟩)) | (go_at_call 25;((with_reducible refine (aaq _ _ _ _).mono ?_);rintro e w' ⟨rfl,rfl⟩)));have hq:Below wr.heap.size wr w2:=by exact bE1 af
      have q:=abj (u := .int .i64 (aal ⟨gs,fs⟩).1) (v := .int .i64 (aal ⟨gs,fs⟩).2) (aab R0.out hq) (aab R1.out hq);rw [Hr.out] at q ⊢;refine bodyPost_ret (acH rfl rfl q.1 q.2) rfl ⟨rfl,?_⟩;have h:=ai.out;exact bE2 af h
    by_cases h5:200<words+g.size
    . have Hr:Hid (aal ⟨gs,fs⟩=(10,(k:Int))):=aN.out _ (by simp only [ack,h1,bg,h3,h4,h5];simp) (by omega)
      go_wp2_with (first | (go_at_call 24;((with_reducible refine (aaY _ _ _).mono ?_);rintro e w2 ⟨rfl,af⟩;obtain⟨aO,aP⟩:=aau af)) | (go_at_call 47;((with_reducible refine (abI _ _).mono ?_);rintro e w' ⟨rfl,rfl⟩)) | (go_at_call 48;((with_reducible refine (aaH (S:=fun b=>w.heap.size+2<=b) _ names _ _ ?_).mono ?_);refine au.out.later abJ ?_;exact bE;rintro e w' ⟨rfl,rfl⟩)) | (go_at_call 25;((with_reducible refine (aaq _ _ _ _).mono ?_);rintro e w' ⟨rfl,rfl⟩)));have hq:Below wr.heap.size wr w2:=by exact bE1 af
      have q:=abj (u := .int .i64 (aal ⟨gs,fs⟩).1) (v := .int .i64 (aal ⟨gs,fs⟩).2) (aab R0.out hq) (aab R1.out hq);rw [Hr.out] at q ⊢;refine bodyPost_ret (acH rfl rfl q.1 q.2) rfl ⟨rfl,?_⟩;have h:=ai.out;exact bE2 af h
    have bm:Hid (acN gs k=0):=by
     show acN gs k=0;rw [aw.out,<-bo.out,<-ag.out,<-aA.out];simp only [ack,h1,bg,h3,h4,h5];simp
    have bd:names.length<=10:=by rw [ag.out];simp [acj];omega
    have aX:=hid bd;clear bd;go_wp2_with (first | (at_builtin;refine wpList_append_own _ rfl _ _ 98 rfl (w.heap.size+2) 9 i0 (.string ByteArray.empty) 1 16 Tryz.underlying98 hi bO bP bQ rfl (by decide) _ _ _ rfl ((ak.out.alloc _).alloc _) ⟨wr.heap.size+1,0,none⟩ 1 1 [.string g.name] rfl rfl ?_ ?_ ?_ ?_ ?_ ?_) | (go_at_call 24;((with_reducible refine (aaY _ _ _).mono ?_);rintro e w2 ⟨rfl,af⟩;obtain⟨aO,aP⟩:=aau af)) | (go_at_call 47;((with_reducible refine (abI _ _).mono ?_);rintro e w' ⟨rfl,rfl⟩)) | (go_at_call 48;((with_reducible refine (aaH (S:=fun b=>w.heap.size+2<=b) _ names _ _ ?_).mono ?_);refine au.out.later abJ ?_;exact bE;rintro e w' ⟨rfl,rfl⟩)) | (go_at_call 25;((with_reducible refine (aaq _ _ _ _).mono ?_);rintro e w' ⟨rfl,rfl⟩)))
    . have h:=cell_one_new (wr.alloc (.cells #[.string g.name,.int .i64 g.size,.slice xa g.init.length xc] 68)) (.string g.name) 9
      simpa using h
    . intro u hu;simp at hu;subst hu;rfl
    . have:=aX.out;simp;unfold maxLen;omega
    . have:=aX.out;simp;omega
    . simp;omega
    . intro v' w2 aj al aR
      have aZ:=hid aj;have aK:Hid (Below (w.heap.size+2) ((w.alloc (.cells #[.slice (some ⟨b,off,none⟩) gs.length gc,.slice fa fs.length fc] 25)).alloc (.cells #[.int .i64 0,.int .i64 0] 31)) w2):=by
       refine ((aF.out.alloc (by omega) _).alloc (by simp;omega) _).grown al (by simp;omega) (fun q hq=>?_);exact ((ak.out.lt q hq).1)
      have bw:=aK.out.size;have b2:=al.size;have e1:w2.cell? ⟨wr.heap.size,1,none⟩=some (.int .i64 g.size):=al.cell (by simp) (fun h=>absurd (ak.out.lt _ h.symm).2 (Abg _));have bW:Hid (Below w.heap.size w w2):=(bf.out _ _).trans (aK.out.mono (by omega));clear aj al aR bw b2;go_wp2_with fail;go_roundw
      case rel =>
       refine⟨k+1,_,by omega,by go_num,rfl,?_,abL aI.out bm.out,?_,aK.out⟩
       . rw [acE hlt,<-aA.out,<-bo.out]
       . rw [ai6 hlt,<-ag.out,<-bo.out]
         simpa using aZ.out
      case measure=>simp [intOf];omega
  . obtain rfl:k=gs.length:=by omega
    have bq:Hid (acR (acN gs) gs.length=gs.length):=aby aI.out;have aY:Hid (wr.ownsRow (w.heap.size+2) 9 1 (.slice na (acj gs gs.length).length nc) (ab9 gs fs 0).length ((ab9 gs fs 0).map Value.string)):=by
     have:ab9 gs fs 0=acj gs gs.length:=by simp [ab9]
     rw [this];exact ak.out
    go_wp2_with fail;obtain⟨wl,rfl⟩:∃wl:World,wl=wr:=⟨_,rfl⟩
    have bU:=hid aF.out;clear aB aC R0 R1 au a8 aV ak;go_loopw [3,82] (fun v3 i wr=>∃(k:Nat) (nv:Value),k<=fs.length∧i = .int .i64 k∧nv=v3∧(∀j,j<k->abr gs fs j=0)∧wr.ownsRow (w.heap.size+2) 9 1 nv (ab9 gs fs k).length ((ab9 gs fs k).map Value.string)∧Below (w.heap.size+2) ((w.alloc (.cells #[.slice ga gs.length gc,.slice fa fs.length fc] 25)).alloc (.cells #[.int .i64 0,.int .i64 0] 31)) wr) (fun _ i _=>fs.length - (intOf i).toNat)
    case atStart=>exact⟨0,_,Aah _,rfl,rfl,fun j hj=>by omega,aY.out,bU.out⟩
    case round =>
     obtain⟨k,nv,hk,rfl,rfl,ao,aj,aq⟩:=hrel;have av:=hid ao;have ak:=hid aj;have aF:=hid aq;have ai:Hid (Below w.heap.size w wr):=(bf.out _ _).trans (aq.mono (by omega));have au:Hid (SlAt (fun b=>w.heap.size+2<=b) wr 1 aof nv (ab9 gs fs k)):=ajU aj;obtain⟨na,nc,rfl,a8⟩:=au.out.val;obtain⟨aB,aC⟩:=aau aq;have ar:w.heap.size+1<wr.heap.size:=by have:=aq.size;simp at this;omega
     have bR:w.heap.size<wr.heap.size:=by omega
     have R0:Hid (wr.cell? ⟨w.heap.size+1,0,none⟩=some (.int .i64 0)):=by show _=_;rw [aB _ _ (by omega)];simp
     have R1:Hid (wr.cell? ⟨w.heap.size+1,1,none⟩=some (.int .i64 0)):=by show _=_;rw [aB _ _ (by omega)];simp
     have F0:Hid (wr.frozen? ⟨w.heap.size+1,0,none⟩=false):=by show _=_;rw [aC _ _ (by omega)];simp
     have F1:Hid (wr.frozen? ⟨w.heap.size+1,1,none⟩=false):=by show _=_;rw [aC _ _ (by omega)];simp
     clear ao aj aq
     by_cases hlt:k<fs.length
     . obtain⟨b,off,cs,rfl,-,hx,-,ax⟩:=Hf.out.get hlt
       obtain⟨xa,xc,rfl,a6,be,ay,aE⟩:=hx.opens;obtain⟨c0,c1,c2,c3⟩:=(ax.later ai.out).get4;have aJ:=hid a6;have aL:=hid ay;have aM:=hid aE;have bp:Hid (aaT fs[k].blocks<=1048576):=(bC.out k _ (Aaa hlt)).1;have aw:Hid (abr gs fs k=ac1 (ab9 gs fs k) fs[k]):=by show abr gs fs k=_;unfold abr;rw [Aaa hlt]
       obtain⟨names,ae⟩:∃names,names=ab9 gs fs k:=⟨_,rfl⟩
       obtain⟨f,aQ⟩:∃f,f=fs[k]:=⟨_,rfl⟩
       rw [<-ae] at au ak a8 aw ⊢;rw [<-aQ] at c0 c1 c2 c3 be aJ aL aM bp aw;have ag:=hid ae;have bx:=hid aQ;clear ax hx a6 ay aE ae aQ
       by_cases hz:ac1 names f=0
       case neg =>
        have b6:=ad1 hz;have Hr:Hid (aal ⟨gs,fs⟩=(ac1 names f,(k:Int))):=by
         have h:=ahz av.out hlt (by rw [aw.out];exact hz);show aal ⟨gs,fs⟩=_;unfold aal;dsimp only;rw [if_neg aD.out,bq.out,if_neg (Abg _),h,if_pos hlt,aw.out]
        clear hz;go_wp2_with (first | (go_at_call 24;((with_reducible refine (aaY _ _ _).mono ?_);rintro e w2 ⟨rfl,af⟩;have hq:Below wr.heap.size wr w2:=(bE2 af ad);have g0:=aab R0.out hq;have g1:=aab R1.out hq;have f0:=(hq.frozen (p:=⟨w.heap.size+1,0,none⟩) ar).trans F0.out;have f1:=(hq.frozen (p:=⟨w.heap.size+1,1,none⟩) ar).trans F1.out)) | (go_at_call 49;((with_reducible refine (ajI (S:=S) (S':=fun b=>w.heap.size+2<=b) _ _ f _ _ _ names _ ?_ ?_ bp.out aL.out aM.out).mono ?_);refine aJ.out.later aam ?_;have h:=ai.out;exact bE1 h;refine au.out.later abJ ?_;exact bE;rintro e w5 ⟨rfl,ad⟩;have aW:wr.heap.size+1<w5.heap.size:=(by have:=ad.size;simp at this;omega);obtain⟨aT,aU⟩:=aau ad;have aG:=hid (aeF ak.out (bE1 ad:Below wr.heap.size wr w5)))));have q:=abj (u := .int .i64 (aal ⟨gs,fs⟩).1) (v := .int .i64 (aal ⟨gs,fs⟩).2) (aab R0.out hq) (aab R1.out hq);rw [Hr.out] at q ⊢;refine bodyPost_ret (acH rfl rfl q.1 q.2) rfl ⟨rfl,?_⟩;have h:=ai.out;exact bE3 af ad h
       have bm:Hid (abr gs fs k=0):=aw.out.trans hz;have bd:names.length<=20:=by rw [ag.out];simp [ab9,acj];omega
       have aX:=hid bd;clear bd;go_wp2_with (first | (at_builtin;refine wpList_append_own _ rfl _ _ 98 rfl (w.heap.size+2) 9 i0 (.string ByteArray.empty) 1 16 Tryz.underlying98 hi bO bP bQ rfl (by decide) _ _ _ rfl (aG.out.alloc _) ⟨w5.heap.size,0,none⟩ 1 1 [.string f.name] rfl rfl (cell_one_new _ _ _) ?_ ?_ ?_ ?_ ?_) | (go_at_call 49;((with_reducible refine (ajI (S:=S) (S':=fun b=>w.heap.size+2<=b) _ _ f _ _ _ names _ ?_ ?_ bp.out aL.out aM.out).mono ?_);refine aJ.out.later aam ?_;have h:=ai.out;exact bE1 h;refine au.out.later abJ ?_;exact bE;rintro e w5 ⟨rfl,ad⟩;have aW:wr.heap.size+1<w5.heap.size:=(by have:=ad.size;simp at this;omega);obtain⟨aT,aU⟩:=aau ad;have aG:=hid (aeF ak.out (bE1 ad:Below wr.heap.size wr w5)))))
       . intro u hu;simp at hu;subst hu;rfl
       . have:=aX.out;simp;unfold maxLen;omega
       . have:=aX.out;simp;omega
       . have:=aF.out.size;simp at this;simp;omega
       . intro v' w6 aj al aR
         have a1:=hid aj;have bk:Hid (Below (w.heap.size+2) ((w.alloc (.cells #[.slice ga gs.length gc,.slice (some ⟨b,off,none⟩) fs.length fc] 25)).alloc (.cells #[.int .i64 0,.int .i64 0] 31)) w6):=by
          have hq:Below wr.heap.size wr w5:=by exact bE1 ad
          refine (((aF.out.trans (hq.mono (by omega))).alloc (by omega) _)).grown al (by simp;omega) (fun q hq=>?_);exact ((ak.out.lt q hq).1)
         clear aj al aR;go_wp2_with fail;go_roundw
         case rel =>
          refine⟨k+1,_,by omega,by go_num,rfl,abL av.out bm.out,?_,bk.out⟩;rw [ai0 hlt,<-ag.out,<-bx.out];simpa using a1.out
         case measure=>simp [intOf];omega
     . obtain rfl:k=fs.length:=by omega
       have bB:Hid (acR (abr gs fs) fs.length=fs.length):=aby av.out;have bA:Hid (∀(j:Nat) (x:aao),fs[j]?=some x->0<=x.regs∧x.regs<=100):=fun j x hx=>by
        have hj:=(Aae.1 hx).1;have:=av.out j hj;unfold abr at this;rw [hx] at this;have h:=abH this;omega
       go_wp2_with fail;obtain⟨bT,rfl⟩:∃bT:World,bT=wr:=⟨_,rfl⟩
       have bj:=hid aF.out;clear aB aC R0 R1 F0 F1 au a8 ak;go_loopw [107] (fun i wr=>∃k:Nat,k<=fs.length∧i = .int .i64 k∧(∀j,j<k->aa2 fs j=0)∧Below (w.heap.size+2) ((w.alloc (.cells #[.slice ga gs.length gc,.slice fa fs.length fc] 25)).alloc (.cells #[.int .i64 0,.int .i64 0] 31)) wr) (fun i _=>fs.length - (intOf i).toNat)
       case atStart=>exact⟨0,Aah _,rfl,fun j hj=>by omega,bj.out⟩
       case round =>
        obtain⟨k,hk,rfl,ao,aq⟩:=hrel;have az:=hid ao;have aF:=hid aq;have ai:Hid (Below w.heap.size w wr):=(bf.out _ _).trans (aq.mono (by omega));obtain⟨aB,aC⟩:=aau aq;have ar:w.heap.size+1<wr.heap.size:=by have:=aq.size;simp at this;omega
        have bR:w.heap.size<wr.heap.size:=by omega
        have R0:Hid (wr.cell? ⟨w.heap.size+1,0,none⟩=some (.int .i64 0)):=by show _=_;rw [aB _ _ (by omega)];simp
        have R1:Hid (wr.cell? ⟨w.heap.size+1,1,none⟩=some (.int .i64 0)):=by show _=_;rw [aB _ _ (by omega)];simp
        have F0:Hid (wr.frozen? ⟨w.heap.size+1,0,none⟩=false):=by show _=_;rw [aC _ _ (by omega)];simp
        have F1:Hid (wr.frozen? ⟨w.heap.size+1,1,none⟩=false):=by show _=_;rw [aC _ _ (by omega)];simp
        clear ao aq
        by_cases hlt:k<fs.length
        . obtain⟨b,off,cs,rfl,-,hx,-,ax⟩:=Hf.out.get hlt
          obtain⟨xa,xc,rfl,a6,be,ay,aE⟩:=hx.opens;obtain⟨c0,c1,c2,c3⟩:=(ax.later ai.out).get4;have aJ:=hid a6;have bh:Hid (fs[k].blocks.length<=1048576):=(bC.out k _ (Aaa hlt)).2;have br:Hid (0<=fs[k].regs):=(bA.out k _ (Aaa hlt)).1;have bt:Hid (fs[k].regs<=100):=(bA.out k _ (Aaa hlt)).2;have aw:Hid (aa2 fs k=abP fs fs[k]):=by show aa2 fs k=_;unfold aa2;rw [Aaa hlt]
          obtain⟨f,aQ⟩:∃f,f=fs[k]:=⟨_,rfl⟩
          rw [<-aQ] at c0 c1 c2 c3 be aJ bh br bt aw;have bx:=hid aQ;have aS:=hid aH;clear ax hx a6 ay aE aQ
          by_cases hz:abP fs f=0
          . go_wp2_with (go_at_call 50;go_must ((with_reducible refine (ajC (S:=S) (S':=S) _ _ _ fs _ _ f _ _ _ _ _ _ br.out bt.out ?_ ?_ (Aag aS.out (by omega)) bh.out ?_).mono ?_);refine Hf.out.later aak ?_;have h:=ai.out;exact bE1 h;refine aJ.out.later aam ?_;have h:=ai.out;exact bE1 h;refine abX.below Hw.out ?_;have h:=ai.out;exact bE1 h;rintro e w5 ⟨rfl,ad⟩;have aW:wr.heap.size+1<w5.heap.size:=(by have:=ad.size;simp at this;omega);obtain⟨aT,aU⟩:=aau ad))
            go_roundw
            case rel=>exact⟨k+1,by omega,by go_num,abL az.out (aw.out.trans hz),by have h:=aF.out;exact bE2 ad h⟩
            case measure=>simp [intOf];omega
          . have b6:=ad1 hz
            have Hr:Hid (aal ⟨gs,fs⟩=(abP fs f,(k:Int))):=by
             have h:=ahz az.out hlt (by rw [aw.out];exact hz);show aal ⟨gs,fs⟩=_;unfold aal;dsimp only;rw [if_neg aD.out,bq.out,if_neg (Abg _),bB.out,if_neg (Abg _),h,if_pos hlt,aw.out]
            clear hz;go_wp2_with (first | (go_at_call 24;((with_reducible refine (aaY _ _ _).mono ?_);rintro e w2 ⟨rfl,af⟩;have hq:Below wr.heap.size wr w2:=(bE2 af ad);have g0:=aab R0.out hq;have g1:=aab R1.out hq;have f0:=(hq.frozen (p:=⟨w.heap.size+1,0,none⟩) ar).trans F0.out;have f1:=(hq.frozen (p:=⟨w.heap.size+1,1,none⟩) ar).trans F1.out)) | (go_at_call 50;go_must ((with_reducible refine (ajC (S:=S) (S':=S) _ _ _ fs _ _ f _ _ _ _ _ _ br.out bt.out ?_ ?_ (Aag aS.out (by omega)) bh.out ?_).mono ?_);refine Hf.out.later aak ?_;have h:=ai.out;exact bE1 h;refine aJ.out.later aam ?_;have h:=ai.out;exact bE1 h;refine abX.below Hw.out ?_;have h:=ai.out;exact bE1 h;rintro e w5 ⟨rfl,ad⟩;have aW:wr.heap.size+1<w5.heap.size:=(by have:=ad.size;simp at this;omega);obtain⟨aT,aU⟩:=aau ad)));have q:=abj (u := .int .i64 (aal ⟨gs,fs⟩).1) (v := .int .i64 (aal ⟨gs,fs⟩).2) (aab R0.out hq) (aab R1.out hq);rw [Hr.out] at q ⊢;refine bodyPost_ret (acH rfl rfl q.1 q.2) rfl ⟨rfl,?_⟩;have h:=ai.out;exact bE3 af ad h
        . obtain rfl:k=fs.length:=by omega
          have bV:Hid (acR (aa2 fs) fs.length=fs.length):=aby az.out;have bF:aal ⟨gs,fs⟩=afp fs:=by
           unfold aal;dsimp only;rw [if_neg aD.out,bq.out,if_neg (Abg _),bB.out,if_neg (Abg _),bV.out,if_neg (Abg _)]
          have bl:=hid bF;have aS:=hid aH;clear bF
          by_cases hm:aaK fs<0
          . have Hr:Hid (aal ⟨gs,fs⟩=(6,0)):=by show aal ⟨gs,fs⟩=_;rw [bl.out];unfold afp;rw [if_pos hm]
            go_wp2_with (first | (go_at_call 24;((with_reducible refine (aaY _ _ _).mono ?_);rintro e w2 ⟨rfl,af⟩;have hq:Below wr.heap.size wr w2:=(bE2 af ad);have g0:=aab R0.out hq;have g1:=aab R1.out hq;have f0:=(hq.frozen (p:=⟨w.heap.size+1,0,none⟩) ar).trans F0.out;have f1:=(hq.frozen (p:=⟨w.heap.size+1,1,none⟩) ar).trans F1.out)) | (go_at_call 28;((with_reducible refine (ac3 (S:=S) _ _ fs _ ?_ (Aag aS.out (by omega))).mono ?_);refine Hf.out.later aak ?_;have h:=ai.out;exact bE1 h;rintro e w5 ⟨rfl,ad⟩;have aW:w.heap.size+1<w5.heap.size:=(by have:=ad.size;omega);have bS:w.heap.size<w5.heap.size:=(by omega);obtain⟨aT,aU⟩:=aau ad;have g0:=aab R0.out ad;have g1:=aab R1.out ad;have f0:=(ad.frozen (p:=⟨w.heap.size+1,0,none⟩) ar).trans F0.out;have f1:=(ad.frozen (p:=⟨w.heap.size+1,1,none⟩) ar).trans F1.out)));have q:=abj (u := .int .i64 (aal ⟨gs,fs⟩).1) (v := .int .i64 (aal ⟨gs,fs⟩).2) (aab R0.out hq) (aab R1.out hq);rw [Hr.out] at q ⊢;refine bodyPost_ret (acH rfl rfl q.1 q.2) rfl ⟨rfl,?_⟩;have h:=ai.out;exact bE3 af ad h
          . obtain⟨m,bJ,bK⟩:=agW hm
            obtain⟨b,off,cs,rfl,-,hx,-,ax⟩:=Hf.out.get bJ;obtain⟨xa,xc,rfl,-,-,ay,-⟩:=hx.opens;obtain⟨c0,c1,c2,c3⟩:=(ax.later ai.out).get4;have b9:=aac c1;have bz:Hid ((fs.getD (aaK fs).toNat ⟨ByteArray.empty,0,0,[]⟩).params=fs[m].params):=by
             show _=_;rw [bK,Aaj,Aac,Aaa bJ];rfl
            have Hm:=hid hm;unfold I64 at ay;clear ax hx hm
            by_cases hpz:0<fs[m].params
            . have Hr:Hid (aal ⟨gs,fs⟩=(5,(m:Int))):=by show aal ⟨gs,fs⟩=_;rw [bl.out];unfold afp;rw [if_neg Hm.out,bz.out,if_pos hpz,bK]
              go_wp2_with (first | (go_at_call 24;((with_reducible refine (aaY _ _ _).mono ?_);rintro e w2 ⟨rfl,af⟩;have hq:Below wr.heap.size wr w2:=(bE2 af ad);have g0:=aab R0.out hq;have g1:=aab R1.out hq;have f0:=(hq.frozen (p:=⟨w.heap.size+1,0,none⟩) ar).trans F0.out;have f1:=(hq.frozen (p:=⟨w.heap.size+1,1,none⟩) ar).trans F1.out)) | (go_at_call 28;((with_reducible refine (ac3 (S:=S) _ _ fs _ ?_ (Aag aS.out (by omega))).mono ?_);refine Hf.out.later aak ?_;have h:=ai.out;exact bE1 h;rintro e w5 ⟨rfl,ad⟩;have aW:w.heap.size+1<w5.heap.size:=(by have:=ad.size;omega);have bS:w.heap.size<w5.heap.size:=(by omega);obtain⟨aT,aU⟩:=aau ad;have g0:=aab R0.out ad;have g1:=aab R1.out ad;have f0:=(ad.frozen (p:=⟨w.heap.size+1,0,none⟩) ar).trans F0.out;have f1:=(ad.frozen (p:=⟨w.heap.size+1,1,none⟩) ar).trans F1.out)));have q:=abj (u := .int .i64 (aal ⟨gs,fs⟩).1) (v := .int .i64 (aal ⟨gs,fs⟩).2) (aab R0.out hq) (aab R1.out hq);rw [Hr.out] at q ⊢;refine bodyPost_ret (acH rfl rfl q.1 q.2) rfl ⟨rfl,?_⟩;have h:=ai.out;exact bE3 af ad h
            . have Hr:Hid (aal ⟨gs,fs⟩=(0,0)):=by show aal ⟨gs,fs⟩=_;rw [bl.out];unfold afp;rw [if_neg Hm.out,bz.out,if_neg hpz]
              go_wp2_with (go_at_call 28;((with_reducible refine (ac3 (S:=S) _ _ fs _ ?_ (Aag aS.out (by omega))).mono ?_);refine Hf.out.later aak ?_;have h:=ai.out;exact bE1 h;rintro e w5 ⟨rfl,ad⟩;have aW:w.heap.size+1<w5.heap.size:=(by have:=ad.size;omega);have bS:w.heap.size<w5.heap.size:=(by omega);obtain⟨aT,aU⟩:=aau ad;have g0:=aab R0.out ad;have g1:=aab R1.out ad;have f0:=(ad.frozen (p:=⟨w.heap.size+1,0,none⟩) ar).trans F0.out;have f1:=(ad.frozen (p:=⟨w.heap.size+1,1,none⟩) ar).trans F1.out));have q:=abj (u := .int .i64 (aal ⟨gs,fs⟩).1) (v := .int .i64 (aal ⟨gs,fs⟩).2) (aab R0.out ad) (aab R1.out ad);rw [Hr.out] at q ⊢;refine bodyPost_ret (acH rfl rfl q.1 q.2) rfl ⟨rfl,?_⟩;have h:=ai.out;exact bE2 ad h
end
section
open Go.RowKit
theorem abZ {u:aaC}(h:(aal u).1=0):u.globals.length<=10∧u.funcs.length<=10∧(∀k,acN u.globals k=0)∧(∀k,abr u.globals u.funcs k=0)∧(∀k,aa2 u.funcs k=0):=by
 unfold aal at h
 by_cases h1:10<u.globals.length∨10<u.funcs.length
 . rw [if_pos h1] at h;simp at h
 rw [if_neg h1] at h
 by_cases h2:acR (acN u.globals) u.globals.length<u.globals.length
 . rw [if_pos h2] at h;exact absurd h (ac7 h2)
 rw [if_neg h2] at h
 by_cases h3:acR (abr u.globals u.funcs) u.funcs.length<u.funcs.length
 . rw [if_pos h3] at h;exact absurd h (ac7 h3)
 rw [if_neg h3] at h
 by_cases h4:acR (aa2 u.funcs) u.funcs.length<u.funcs.length
 . rw [if_pos h4] at h;exact absurd h (ac7 h4)
 refine⟨by omega,by omega,fun k=>?_,fun k=>?_,fun k=>?_⟩
 . by_cases hk:k<u.globals.length
   . exact afH h2 k hk
   . unfold acN;rw [Aa8 (by omega)]
 . by_cases hk:k<u.funcs.length
   . exact afH h3 k hk
   . unfold abr;rw [Aa8 (by omega)]
 . by_cases hk:k<u.funcs.length
   . exact afH h4 k hk
   . unfold aa2;rw [Aa8 (by omega)]
theorem aiQ {u:aaC}(h:(aal u).1=0){k:Nat}{f:aao}(hf:u.funcs[k]?=some f) :
 1<=f.blocks.length∧f.blocks.length<=40∧(∀(i:Nat) (x:aad),f.blocks[i]?=some x->adT f.blocks.length f.regs x.fin=0):=by
 obtain⟨-,-,-,h2,h3⟩:=abZ h;have g2:=h2 k;have g3:=h3 k;unfold abr at g2;unfold aa2 at g3;rw [hf] at g2 g3;obtain⟨-,-,-,-,-,-,e1,e2,-⟩:=abH g2;refine⟨e1,e2,fun i x hx=>?_⟩;dsimp only at g3;unfold abP at g3
 by_cases h4:abw (adk f.regs f.blocks) f.blocks.length=0
 . have h5:=acM h4 i (Aae.1 hx).1
   unfold adk at h5;rw [hx] at h5;exact h5
 . rw [if_pos h4] at g3;exact absurd g3 h4
theorem aiB {S:Nat->Prop}{w:World}{p:Addr}(v:Value)(h:∀b,S b->b≠p.block):aav S w (w.setCell p v):=fun b o x hb hc=>by
 rw [World.cell?_of_block (w:=w) (a:=⟨b,o,none⟩) (Below.heap_setCell _ _ _ _ (h b hb))];exact hc
theorem ano {S S' : Nat -> Prop} (nm : ByteArray) (p r : Int) (ba : Option Addr) (bc : Nat) (bs : List aad) (ca : Option Addr) (cc : Nat) (C : List Int) (n : Nat) (w : World) (hb : SlAt S w 6 aaJ (.slice ba bs.length bc) bs) (hC : SlAt S' w 1 aaO (.slice ca C.length cc) C)
 (b3:0<n) (hn:n<=1048576) (bY:bs.length=n) (bG:C.length=n) (b5:∀(k:Nat) (x:aad),bs[k]?=some x->∀t∈x.fin.to,0<=t∧t<(bs.length:Int)) :
 Calls Tryz.prog 34 #[.agg #[.string nm,.int .i64 p,.int .i64 r,.slice ba n bc],.slice ca n cc] w fun e w' =>
  ∃v,e = .returned v∧SlAt (fun b=>w.heap.size<=b) w' 1 aaO v ((afq bs (aaB C)).map fun b:Nat=>(b:Int))∧Below w.heap.size w w':=by
 subst bY;have h:=aoI nm p r ba bc bs ca cc C w hb hC b3 hn bG b5;rw [bG] at h;exact h
end
section
open Go.RowKit
theorem abb {S:Nat->Prop}{w:World}{a:Option Addr}{n c:Nat}{l:List Int}(h:SlAt S w 1 aaO (.slice a n c) l){t:Nat}(ht:t<l.length):∃b off,a=some ⟨b,off,none⟩∧w.cell? ⟨b,off+t,none⟩=some (.int .i64 l[t]):=by
 obtain⟨b,off,cs,ha,-,⟨rfl,-⟩,-,ax⟩:=h.get ht;have d:=ax.get1;rw [Aan] at d;exact⟨b,off,ha,d⟩
theorem ank {S S':Nat->Prop}(a:Option Addr)(c:Nat)(l:List Int)(a':Option Addr)(c':Nat)(l':List Int)(w:World)(h:SlAt S w 1 aaO (.slice a l.length c) l)(h':SlAt S' w 1 aaO (.slice a' l'.length c') l')(hn:l.length<=1048576)(cf:l'.length<=1048576) :
 Calls Tryz.prog 63 #[.slice a l.length c,.slice a' l'.length c'] w fun e w'=>e = .returned (.bool (decide (l=l')))∧Below w.heap.size w w':=by
 have H:=hid h;have H':=hid h';clear h h';go_enter Tryz.func63,Tryz.ntmps63
 by_cases hl:l.length=l'.length
 . go_wp2_with fail
   go_loopw [5] (fun i wr=>∃(k q:Nat),k<=l.length∧i = .int .i64 k∧l.take k=l'.take k∧w.drewN q=wr) (fun i _=>l.length - (intOf i).toNat)
   case atStart=>exact⟨0,0,Aah _,rfl,rfl,rfl⟩
   case round =>
    obtain⟨k,q,hk,rfl,bN,rfl⟩:=hrel;have bD:=hid bN;clear bN
    by_cases hkl:k<l.length
    . have a7:k<l'.length:=by omega
      obtain⟨b,off,rfl,c0⟩:=abb H.out hkl;obtain⟨b',b7,rfl,d0⟩:=abb H'.out a7;have b8:b<w.heap.size:=aac c0;have af:b'<w.heap.size:=aac d0
      by_cases he:l[k]=l'[k]
      . go_wp2_with fail
        go_quiet (fail);go_wp2_with fail;go_roundw
        case rel=>exact⟨k+1,_,by omega,by go_num,by rw [Aat hkl,Aat a7,bD.out,he],rfl⟩
        case measure=>simp [intOf];omega
      . go_wp2_with fail
        go_quiet (fail);go_wp2_with fail;have hr:decide (l=l')=false:=decide_eq_false (fun e=>he (by subst e;rfl));rw [hr];go_ret;exact⟨rfl,bE⟩
    . obtain rfl:k=l.length:=by omega
      go_wp2_with fail;have hr:decide (l=l')=true:=decide_eq_true (by have h:=bD.out;rw [Aay,hl,Aay] at h;exact h);rw [hr];go_ret;exact⟨rfl,bE⟩
 . go_wp2_with fail
   have hr:decide (l=l')=false:=decide_eq_false (fun e=>hl (by rw [e]));rw [hr];go_ret;exact⟨rfl,Below.refl _ _⟩
end
section
open Go.RowKit
end
end Go.Proofs.YtnkfdeiigplhoaaGreatDoor
