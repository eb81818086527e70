import Derived.Test.YtnkfdeiigplhoaaGreatDoorPRunN
/- The walker does an instruction. The walker takes one step. run.walker under way of being built: its memory, the blocks ahead, the counts. -/
set_option maxHeartbeats 4000000
set_option maxRecDepth 100000
namespace Go.Proofs.YtnkfdeiigplhoaaGreatDoor
section
open Go.RowKit Go.Sort
section
variable {u : aaC} {G F A : Value} {S : Nat -> Prop} {W0 : World} {base WB : Nat} {W : World} {V : WPth -> Value} {iv : Value} {s : RnS} {t : RnF} {r : List RnF} {f : aao} {x : aad}
theorem agb {W:World}{base sz n:Nat}{e:TypeId}{v:Value}{xs:List Value}(h:W.ownsRow base e sz v n xs):∃a c,v = .slice a n c∧n<=maxLen:=by
 rcases h.2 with⟨h1,h2⟩ | ⟨g,cap,cur,e1,-,-,h2,h3,-⟩
 . exact⟨none,0,by rw [h1,h2],by rw [h2];unfold maxLen;omega⟩
 . exact⟨_,_,e1,by omega⟩
theorem aaQ.memRow(h:aaQ u G F A S W0 base WB W V iv s):∃ma mc,V .mem = .slice ma s.mem.length mc∧(s.mem.length:Int)<=9223372036854775807:=by
 obtain⟨a,c,e,hl⟩:=agb (h.rows.own .mem trivial);have e2:(walkC G F A iv V s .mem).length=s.mem.length:=abi _;rw [e2] at e hl;unfold maxLen at hl;exact⟨a,c,e,by omega⟩
theorem aaQ.outRow(h:aaQ u G F A S W0 base WB W V iv s):∃ma mc,V .out = .slice ma s.out.length mc:=by
 obtain⟨a,c,e,hl⟩:=agb (h.rows.own .out trivial);have e2:(walkC G F A iv V s .out).length=s.out.length:=abi _;rw [e2] at e;exact⟨a,c,e⟩
variable {y:ad8}{S':Nat->Prop}{aa:Option Addr}{ac:Nat}
theorem adW.ins_load(h:adW u G F A S W0 base WB W V iv s t r f x)(hy:y∈x.list)(hop:y.op=18)(ha:SlAt S' W 2 ady (.slice aa y.args.length ac) y.args) :
 Calls Tryz.prog 55 #[.pointer (some ⟨WB,0,none⟩),.agg #[.int .i64 18,.int .i64 y.dst,.bool y.a.reg,.int .i64 y.a.n,.bool y.b.reg,.int .i64 y.b.n,.int .i64 y.fn,.slice aa y.args.length ac]] W fun e w' =>
  e = .returned (.bool (s.ins u y).2)∧∃V' iv',aaQ u G F A S W0 base WB w' V' iv' (s.ins u y).1:=by
 have ad:s.top=t:=by unfold RnS.top;rw [h.fr];rfl
 have ho:=h.fo.ins _ x h.fw.blk y hy;obtain⟨n1,n2⟩:I64 y.a.n∧I64 y.b.n:=by
  have h2:=(h.num.vals f (Aam h.fw.fn) x (Aam h.fw.blk)).2.1 y hy;exact⟨h2.1,h2.2.1⟩
 obtain⟨al,ar⟩:∃n,n=y.args.length:=⟨_,rfl⟩
 rw [<-ar] at ha ⊢;obtain⟨W1,aj⟩:∃W1,W1=W.alloc (.cells #[.int .i64 18,.int .i64 y.dst,.bool y.a.reg,.int .i64 y.a.n,.bool y.b.reg,.int .i64 y.b.n,.int .i64 y.fn,.slice aa al ac] 62):=⟨_,rfl⟩
 have ai:Below W.heap.size W W1:=by rw [aj];exact bE
 have aK:W1.heap[W.heap.size]?=some (.cells #[.int .i64 18,.int .i64 y.dst,.bool y.a.reg,.int .i64 y.a.n,.bool y.b.reg,.int .i64 y.b.n,.int .i64 y.fn,.slice aa al ac] 62 (0,0)):=by rw [aj];exact heap_alloc_new _ _
 obtain⟨x0,x1,x2,x3,x4,x5,x6,x7⟩:=(aah (cs:=[_,_,_,_,_,_,_,_]) aK).get8;rw [Aab] at x1 x2 x3 x4 x5 x6 x7;obtain⟨XB,au⟩:∃XB,XB=W.heap.size:=⟨_,rfl⟩
 rw [<-au] at x0 x1 x2 x3 x4 x5 x6 x7;have zX:=aac x0;have HW:Hid (W1=W.alloc (.cells #[.int .i64 18,.int .i64 y.dst,.bool y.a.reg,.int .i64 y.a.n,.bool y.b.reg,.int .i64 y.b.n,.int .i64 y.fn,.slice aa al ac] 62)∧XB=W.heap.size):=⟨aj,au⟩
 have H1:=hid (h.later ai);have Ha:=hid (ha.later aaw ai);obtain⟨VA,af⟩:∃z,z=aaS t.regs y.a:=⟨_,rfl⟩
 obtain⟨VB,ag⟩:∃z,z=aaS t.regs y.b:=⟨_,rfl⟩
 have bq:Hid (VA=aaS t.regs y.a∧I64 VA):=⟨af,by rw [af];exact aaP h.fw.num n1⟩
 have br:Hid (VB=aaS t.regs y.b∧I64 VB):=⟨ag,by rw [ag];exact aaP h.fw.num n2⟩
 have aF:Hid (∀m d os,CallsIn Fence.wide m Tryz.prog 85 #[.pointer (some ⟨WB,0,none⟩),.agg #[.bool y.a.reg,.int .i64 y.a.n]] (grow (redrawn W1 d) os) fun e ay=>e = .returned (.int .i64 VA)∧∃p:Regrown,ay=grow (redrawn W1 p.d) p.os):=fun m d os=>by
  have h:=(H1.out.later (below_regrown W1 d os)).val ho.a;rw [<-af] at h;exact CallsIn.regrown_of (callsIn_wide (n:=m).2 h)
 have aG:Hid (∀(q:Regrown) m d os,CallsIn Fence.wide m Tryz.prog 85 #[.pointer (some ⟨WB,0,none⟩),.agg #[.bool y.b.reg,.int .i64 y.b.n]] (grow (redrawn W1 d) os) fun e ay=>e = .returned (.int .i64 VB)∧∃p:Regrown,ay=grow (redrawn W1 p.d) p.os):=fun _ m d os=>by
  have h:=(H1.out.later (below_regrown W1 d os)).val ho.b;rw [<-ag] at h;exact CallsIn.regrown_of (callsIn_wide (n:=m).2 h)
 have r2:=cell_regrown x2;have r3:=cell_regrown x3;have r4:=cell_regrown x4;have r5:=cell_regrown x5;have HX:Hid (∀W5,Below W1.heap.size W1 W5->W5.cell? ⟨XB,0,none⟩=some (.int .i64 18)∧W5.cell? ⟨XB,1,none⟩=some (.int .i64 y.dst)∧W5.cell? ⟨XB,6,none⟩=some (.int .i64 y.fn)∧W5.cell? ⟨XB,7,none⟩=some (.slice aa al ac)):=fun W5 hb=>⟨aab x0 hb,aab x1 hb,aab x6 hb,aab x7 hb⟩
 have aL:=hid h.fr;have ae:=hid h.deep;have Ho:=hid ho;have Hy:=hid hy;have bI:=hid hop;have bf:=hid ar;have az:Hid (y.dst<(t.regs.length:Int)):=by
  have h1:=ho.dst.2;have h2:=h.fw.regs;have h3:=h.fo.pr;show y.dst<(t.regs.length:Int);omega
 have HS:Hid (s.ins u y=if 0<=VA∧VA<=(s.mem.length:Int) - 1 then (s.set y.dst (s.mem.getD VA.toNat 0),true) else (s.stop 3,false)):=by
  show _=_;unfold RnS.ins;rw [hop,ad,<-af,<-ag];rfl
 clear h ad ho n1 n2 ai aK aj au af ag ha ar hy hop;go_enter Tryz.func55,Tryz.ntmps55;go_upto_region 1 with (fail)
 rw [<-HW.out.1,<-HW.out.2];clear HW;refine aaD (by kernel_rfl) (by kernel_rfl) ?_
 repeat (gi_big_quiet_step (fail))
 refine wpQuietIn_step (fun _ _ _ _=>trivial) (fun K hK=>?_);go_simp;refine⟨_,fun _=>aF.out _ _ _,hK _ ?_⟩;clear hK K
 repeat (gi_big_quiet_step (fail))
 refine wpQuietIn_step (fun _ _ _ _=>trivial) (fun K hK=>?_);go_simp;refine⟨_,fun q=>aG.out q _ _ _,hK _ ?_⟩;clear hK K
 repeat (gi_big_quiet_step (fail))
 refine wpQuietIn_nil ?_;intro W7 aV;obtain⟨rg,aJ⟩:=aV;have aw:Below W1.heap.size W1 W7:=by rw [aJ];exact below_regrown _ _ _
 have H7:=hid (H1.out.later aw);have aQ:=hid aw;clear aJ aw r2 r3 r4 r5 x0 x1 x2 x3 x4 x5 x6 x7 zX aF aG;obtain⟨c0,c1,c6,c7⟩:=HX.out W7 aQ.out;have zX:=aac c0;obtain⟨ma,mc,hm,cP⟩:=H7.out.at_.memRow;obtain⟨-,zW,aC,aZ⟩:=H7.out.at_.boxAt;have b3:=aC 3 _ rfl;rw [Aab,hm] at b3;obtain⟨ml,aN⟩:∃n,n=s.mem.length:=⟨_,rfl⟩
 rw [<-aN] at b3 cP;have aW:=hid aN;have eF:IntKind.i64.wrap ((ml:Int) - 1)=(ml:Int) - 1:=by rw [IntKind.wrap_i64];omega
 have Hm:=hid hm;clear aC aZ aN hm
 by_cases hin:0<=VA∧VA<=(ml:Int) - 1
 . obtain⟨k,rfl⟩:∃k:Nat,VA=(k:Int):=Aas hin.1
   have bS:k<s.mem.length:=by have:=aW.out;omega
   have el:(k:Int)<(ml:Int):=by omega
   have ej:(0:Int)<=(k:Int):=by omega
   have ek:(k:Int)<=(ml:Int) - 1:=by omega
   have ak:=HS.out.trans (if_pos (by rw [<-aW.out];exact hin));obtain⟨mv,bl⟩:∃z,s.mem[k]?=some z:=⟨_,Aaa bS⟩
   obtain⟨MB,eL,bV,-,-,-,cI,ec⟩:=H7.out.at_.numAt (p := .mem) trivial rfl (l:=s.mem) rfl bl;rw [Hm.out,<-aW.out] at bV;cases bV;have zM:=aac cI;have bC:=hid ak;have da:=hid bl;clear ak bS hin bl;have cy:Hid (s.ins u y=({ s with frs:={ t with regs:=afk t.regs y.dst mv } :: r },true)):=by
    show _=_;rw [bC.out,Aaj,Aac,da.out,Abd];unfold RnS.set RnS.setTop RnS.top;rw [aL.out];rfl
   clear bC;go_upto_region 13 with (first | (go_at_call 25;refine (aaq (k:Int) 0 ((ml:Int) - 1) _).mono ?_;rintro e w' ⟨rfl,rfl⟩))
   clear HS;go_still_tail 10,(by kernel_rfl);change wpList _ _ _ _ _ W7.drew;have HQ:=hid (adQ (H7.out.later (Below.refl _ _).drew).at_ aL.out ae.out y.dst mv az.out);go_wp2_with (first | (go_at_call 86;refine HQ.out.mono ?_;rintro e aS ⟨rfl,hw⟩;have HF:=hid hw;clear hw));go_ret;rw [cy.out];exact⟨rfl,_,_,HF.out⟩
 . have ak:=hid (HS.out.trans (if_neg (by rw [<-aW.out];exact hin)))
   have hd:decide (0<=VA∧VA<=(ml:Int) - 1)=false:=decide_eq_false hin;have HQ:=hid (acr H7.out.at_ 3);go_wp2_with (first | (go_at_call 25;refine (aaq VA 0 ((ml:Int) - 1) _).mono ?_;rintro e w' ⟨rfl,rfl⟩;rw [hd]) | (go_at_call 30;refine HQ.out.mono ?_;rintro e aS ⟨rfl,hw⟩;have HF:=hid hw;clear hw));go_ret;rw [ak.out];exact⟨rfl,_,_,HF.out⟩
theorem adW.ins_store(h:adW u G F A S W0 base WB W V iv s t r f x)(hy:y∈x.list)(hop:y.op=19)(ha:SlAt S' W 2 ady (.slice aa y.args.length ac) y.args) :
 Calls Tryz.prog 55 #[.pointer (some ⟨WB,0,none⟩),.agg #[.int .i64 19,.int .i64 y.dst,.bool y.a.reg,.int .i64 y.a.n,.bool y.b.reg,.int .i64 y.b.n,.int .i64 y.fn,.slice aa y.args.length ac]] W fun e w' =>
  e = .returned (.bool (s.ins u y).2)∧∃V' iv',aaQ u G F A S W0 base WB w' V' iv' (s.ins u y).1:=by
 have ad:s.top=t:=by unfold RnS.top;rw [h.fr];rfl
 have ho:=h.fo.ins _ x h.fw.blk y hy;obtain⟨n1,n2⟩:I64 y.a.n∧I64 y.b.n:=by
  have h2:=(h.num.vals f (Aam h.fw.fn) x (Aam h.fw.blk)).2.1 y hy;exact⟨h2.1,h2.2.1⟩
 obtain⟨al,ar⟩:∃n,n=y.args.length:=⟨_,rfl⟩
 rw [<-ar] at ha ⊢;obtain⟨W1,aj⟩:∃W1,W1=W.alloc (.cells #[.int .i64 19,.int .i64 y.dst,.bool y.a.reg,.int .i64 y.a.n,.bool y.b.reg,.int .i64 y.b.n,.int .i64 y.fn,.slice aa al ac] 62):=⟨_,rfl⟩
 have ai:Below W.heap.size W W1:=by rw [aj];exact bE
 have aK:W1.heap[W.heap.size]?=some (.cells #[.int .i64 19,.int .i64 y.dst,.bool y.a.reg,.int .i64 y.a.n,.bool y.b.reg,.int .i64 y.b.n,.int .i64 y.fn,.slice aa al ac] 62 (0,0)):=by rw [aj];exact heap_alloc_new _ _
 obtain⟨x0,x1,x2,x3,x4,x5,x6,x7⟩:=(aah (cs:=[_,_,_,_,_,_,_,_]) aK).get8;rw [Aab] at x1 x2 x3 x4 x5 x6 x7;obtain⟨XB,au⟩:∃XB,XB=W.heap.size:=⟨_,rfl⟩
 rw [<-au] at x0 x1 x2 x3 x4 x5 x6 x7;have zX:=aac x0;have HW:Hid (W1=W.alloc (.cells #[.int .i64 19,.int .i64 y.dst,.bool y.a.reg,.int .i64 y.a.n,.bool y.b.reg,.int .i64 y.b.n,.int .i64 y.fn,.slice aa al ac] 62)∧XB=W.heap.size):=⟨aj,au⟩
 have H1:=hid (h.later ai);have Ha:=hid (ha.later aaw ai);obtain⟨VA,af⟩:∃z,z=aaS t.regs y.a:=⟨_,rfl⟩
 obtain⟨VB,ag⟩:∃z,z=aaS t.regs y.b:=⟨_,rfl⟩
 have bq:Hid (VA=aaS t.regs y.a∧I64 VA):=⟨af,by rw [af];exact aaP h.fw.num n1⟩
 have br:Hid (VB=aaS t.regs y.b∧I64 VB):=⟨ag,by rw [ag];exact aaP h.fw.num n2⟩
 have aF:Hid (∀m d os,CallsIn Fence.wide m Tryz.prog 85 #[.pointer (some ⟨WB,0,none⟩),.agg #[.bool y.a.reg,.int .i64 y.a.n]] (grow (redrawn W1 d) os) fun e ay=>e = .returned (.int .i64 VA)∧∃p:Regrown,ay=grow (redrawn W1 p.d) p.os):=fun m d os=>by
  have h:=(H1.out.later (below_regrown W1 d os)).val ho.a;rw [<-af] at h;exact CallsIn.regrown_of (callsIn_wide (n:=m).2 h)
 have aG:Hid (∀(q:Regrown) m d os,CallsIn Fence.wide m Tryz.prog 85 #[.pointer (some ⟨WB,0,none⟩),.agg #[.bool y.b.reg,.int .i64 y.b.n]] (grow (redrawn W1 d) os) fun e ay=>e = .returned (.int .i64 VB)∧∃p:Regrown,ay=grow (redrawn W1 p.d) p.os):=fun _ m d os=>by
  have h:=(H1.out.later (below_regrown W1 d os)).val ho.b;rw [<-ag] at h;exact CallsIn.regrown_of (callsIn_wide (n:=m).2 h)
 have r2:=cell_regrown x2;have r3:=cell_regrown x3;have r4:=cell_regrown x4;have r5:=cell_regrown x5;have HX:Hid (∀W5,Below W1.heap.size W1 W5->W5.cell? ⟨XB,0,none⟩=some (.int .i64 19)∧W5.cell? ⟨XB,1,none⟩=some (.int .i64 y.dst)∧W5.cell? ⟨XB,6,none⟩=some (.int .i64 y.fn)∧W5.cell? ⟨XB,7,none⟩=some (.slice aa al ac)):=fun W5 hb=>⟨aab x0 hb,aab x1 hb,aab x6 hb,aab x7 hb⟩
 have aL:=hid h.fr;have ae:=hid h.deep;have Ho:=hid ho;have Hy:=hid hy;have bI:=hid hop;have bf:=hid ar;have az:Hid (y.dst<(t.regs.length:Int)):=by
  have h1:=ho.dst.2;have h2:=h.fw.regs;have h3:=h.fo.pr;show y.dst<(t.regs.length:Int);omega
 have HS:Hid (s.ins u y=if 0<=VA∧VA<=(s.mem.length:Int) - 1 then ({ s with mem:=s.mem.set VA.toNat VB },true) else (s.stop 3,false)):=by
  show _=_;unfold RnS.ins;rw [hop,ad,<-af,<-ag];rfl
 clear h ad ho n1 n2 ai aK aj au af ag ha ar hy hop;go_enter Tryz.func55,Tryz.ntmps55;go_upto_region 1 with (fail)
 rw [<-HW.out.1,<-HW.out.2];clear HW;refine aaD (by kernel_rfl) (by kernel_rfl) ?_
 repeat (gi_big_quiet_step (fail))
 refine wpQuietIn_step (fun _ _ _ _=>trivial) (fun K hK=>?_);go_simp;refine⟨_,fun _=>aF.out _ _ _,hK _ ?_⟩;clear hK K
 repeat (gi_big_quiet_step (fail))
 refine wpQuietIn_step (fun _ _ _ _=>trivial) (fun K hK=>?_);go_simp;refine⟨_,fun q=>aG.out q _ _ _,hK _ ?_⟩;clear hK K
 repeat (gi_big_quiet_step (fail))
 refine wpQuietIn_nil ?_;intro W7 aV;obtain⟨rg,aJ⟩:=aV;have aw:Below W1.heap.size W1 W7:=by rw [aJ];exact below_regrown _ _ _
 have H7:=hid (H1.out.later aw);have aQ:=hid aw;clear aJ aw r2 r3 r4 r5 x0 x1 x2 x3 x4 x5 x6 x7 zX aF aG;obtain⟨c0,c1,c6,c7⟩:=HX.out W7 aQ.out;have zX:=aac c0;obtain⟨ma,mc,hm,cP⟩:=H7.out.at_.memRow;obtain⟨-,zW,aC,aZ⟩:=H7.out.at_.boxAt;have b3:=aC 3 _ rfl;rw [Aab,hm] at b3;obtain⟨ml,aN⟩:∃n,n=s.mem.length:=⟨_,rfl⟩
 rw [<-aN] at b3 cP;have aW:=hid aN;have eF:IntKind.i64.wrap ((ml:Int) - 1)=(ml:Int) - 1:=by rw [IntKind.wrap_i64];omega
 have Hm:=hid hm;clear aC aZ aN hm
 by_cases hin:0<=VA∧VA<=(ml:Int) - 1
 . obtain⟨k,rfl⟩:∃k:Nat,VA=(k:Int):=Aas hin.1
   have bS:k<s.mem.length:=by have:=aW.out;omega
   have el:(k:Int)<(ml:Int):=by omega
   have ej:(0:Int)<=(k:Int):=by omega
   have ek:(k:Int)<=(ml:Int) - 1:=by omega
   have ak:=HS.out.trans (if_pos (by rw [<-aW.out];exact hin));obtain⟨mv,bl⟩:∃z,s.mem[k]?=some z:=⟨_,Aaa bS⟩
   obtain⟨MB,eL,bV,-,-,-,cI,ec⟩:=H7.out.at_.numAt (p := .mem) trivial rfl (l:=s.mem) rfl bl;rw [Hm.out,<-aW.out] at bV;cases bV;have zM:=aac cI;have bC:=hid ak;have da:=hid bl;clear ak bS hin bl;have cy:Hid (s.ins u y=({ s with mem:=s.mem.set k VB },true)):=by
    show _=_;rw [bC.out,Aaj]
   have HF:=hid (H7.out.at_.putMem (g:=MB) (c:=mc) (d:=k) (by rw [Hm.out]) (by have:=aW.out;omega) VB);clear bC;go_wp2_with (first | (go_at_call 25;refine (aaq (k:Int) 0 ((ml:Int) - 1) _).mono ?_;rintro e w' ⟨rfl,rfl⟩));go_ret;rw [cy.out];exact⟨rfl,_,_,HF.out⟩
 . have ak:=hid (HS.out.trans (if_neg (by rw [<-aW.out];exact hin)))
   have hd:decide (0<=VA∧VA<=(ml:Int) - 1)=false:=decide_eq_false hin;have HQ:=hid (acr H7.out.at_ 3);go_wp2_with (first | (go_at_call 25;refine (aaq VA 0 ((ml:Int) - 1) _).mono ?_;rintro e w' ⟨rfl,rfl⟩;rw [hd]) | (go_at_call 30;refine HQ.out.mono ?_;rintro e aS ⟨rfl,hw⟩;have HF:=hid hw;clear hw));go_ret;rw [ak.out];exact⟨rfl,_,_,HF.out⟩
theorem adW.ins_two(h:adW u G F A S W0 base WB W V iv s t r f x)(hy:y∈x.list){o:Int}(p1:1<=o)(p2:o<=17)(hop:y.op=o)(ha:SlAt S' W 2 ady (.slice aa y.args.length ac) y.args) :
 Calls Tryz.prog 55 #[.pointer (some ⟨WB,0,none⟩),.agg #[.int .i64 o,.int .i64 y.dst,.bool y.a.reg,.int .i64 y.a.n,.bool y.b.reg,.int .i64 y.b.n,.int .i64 y.fn,.slice aa y.args.length ac]] W fun e w' =>
  e = .returned (.bool (s.ins u y).2)∧∃V' iv',aaQ u G F A S W0 base WB w' V' iv' (s.ins u y).1:=by
 have ad:s.top=t:=by unfold RnS.top;rw [h.fr];rfl
 have ho:=h.fo.ins _ x h.fw.blk y hy;obtain⟨n1,n2⟩:I64 y.a.n∧I64 y.b.n:=by
  have h2:=(h.num.vals f (Aam h.fw.fn) x (Aam h.fw.blk)).2.1 y hy;exact⟨h2.1,h2.2.1⟩
 obtain⟨al,ar⟩:∃n,n=y.args.length:=⟨_,rfl⟩
 rw [<-ar] at ha ⊢;obtain⟨W1,aj⟩:∃W1,W1=W.alloc (.cells #[.int .i64 o,.int .i64 y.dst,.bool y.a.reg,.int .i64 y.a.n,.bool y.b.reg,.int .i64 y.b.n,.int .i64 y.fn,.slice aa al ac] 62):=⟨_,rfl⟩
 have ai:Below W.heap.size W W1:=by rw [aj];exact bE
 have aK:W1.heap[W.heap.size]?=some (.cells #[.int .i64 o,.int .i64 y.dst,.bool y.a.reg,.int .i64 y.a.n,.bool y.b.reg,.int .i64 y.b.n,.int .i64 y.fn,.slice aa al ac] 62 (0,0)):=by rw [aj];exact heap_alloc_new _ _
 obtain⟨x0,x1,x2,x3,x4,x5,x6,x7⟩:=(aah (cs:=[_,_,_,_,_,_,_,_]) aK).get8;rw [Aab] at x1 x2 x3 x4 x5 x6 x7;obtain⟨XB,au⟩:∃XB,XB=W.heap.size:=⟨_,rfl⟩
 rw [<-au] at x0 x1 x2 x3 x4 x5 x6 x7;have zX:=aac x0;have HW:Hid (W1=W.alloc (.cells #[.int .i64 o,.int .i64 y.dst,.bool y.a.reg,.int .i64 y.a.n,.bool y.b.reg,.int .i64 y.b.n,.int .i64 y.fn,.slice aa al ac] 62)∧XB=W.heap.size):=⟨aj,au⟩
 have H1:=hid (h.later ai);have Ha:=hid (ha.later aaw ai);obtain⟨VA,af⟩:∃z,z=aaS t.regs y.a:=⟨_,rfl⟩
 obtain⟨VB,ag⟩:∃z,z=aaS t.regs y.b:=⟨_,rfl⟩
 have bq:Hid (VA=aaS t.regs y.a∧I64 VA):=⟨af,by rw [af];exact aaP h.fw.num n1⟩
 have br:Hid (VB=aaS t.regs y.b∧I64 VB):=⟨ag,by rw [ag];exact aaP h.fw.num n2⟩
 have aF:Hid (∀m d os,CallsIn Fence.wide m Tryz.prog 85 #[.pointer (some ⟨WB,0,none⟩),.agg #[.bool y.a.reg,.int .i64 y.a.n]] (grow (redrawn W1 d) os) fun e ay=>e = .returned (.int .i64 VA)∧∃p:Regrown,ay=grow (redrawn W1 p.d) p.os):=fun m d os=>by
  have h:=(H1.out.later (below_regrown W1 d os)).val ho.a;rw [<-af] at h;exact CallsIn.regrown_of (callsIn_wide (n:=m).2 h)
 have aG:Hid (∀(q:Regrown) m d os,CallsIn Fence.wide m Tryz.prog 85 #[.pointer (some ⟨WB,0,none⟩),.agg #[.bool y.b.reg,.int .i64 y.b.n]] (grow (redrawn W1 d) os) fun e ay=>e = .returned (.int .i64 VB)∧∃p:Regrown,ay=grow (redrawn W1 p.d) p.os):=fun _ m d os=>by
  have h:=(H1.out.later (below_regrown W1 d os)).val ho.b;rw [<-ag] at h;exact CallsIn.regrown_of (callsIn_wide (n:=m).2 h)
 have r2:=cell_regrown x2;have r3:=cell_regrown x3;have r4:=cell_regrown x4;have r5:=cell_regrown x5;have HX:Hid (∀W5,Below W1.heap.size W1 W5->W5.cell? ⟨XB,0,none⟩=some (.int .i64 o)∧W5.cell? ⟨XB,1,none⟩=some (.int .i64 y.dst)∧W5.cell? ⟨XB,6,none⟩=some (.int .i64 y.fn)∧W5.cell? ⟨XB,7,none⟩=some (.slice aa al ac)):=fun W5 hb=>⟨aab x0 hb,aab x1 hb,aab x6 hb,aab x7 hb⟩
 have aL:=hid h.fr;have ae:=hid h.deep;have Ho:=hid ho;have Hy:=hid hy;have bI:=hid hop;have bf:=hid ar;have az:Hid (y.dst<(t.regs.length:Int)):=by
  have h1:=ho.dst.2;have h2:=h.fw.regs;have h3:=h.fo.pr;show y.dst<(t.regs.length:Int);omega
 have HS:Hid (s.ins u y=match ak4 o VA VB with | some n=>(s.set y.dst n,true) | none=>(s.stop 2,false)):=by
  show _=_;unfold RnS.ins;rw [hop,ad,<-af,<-ag,if_neg (by omega),if_neg (by omega),if_neg (by omega),if_neg (by omega)];rfl
 clear h ad ho n1 n2 ai aK aj au af ag ha ar hy hop;go_enter Tryz.func55,Tryz.ntmps55;go_upto_region 1 with (fail)
 rw [<-HW.out.1,<-HW.out.2];clear HW;refine aaD (by kernel_rfl) (by kernel_rfl) ?_
 repeat (gi_big_quiet_step (fail))
 refine wpQuietIn_step (fun _ _ _ _=>trivial) (fun K hK=>?_);go_simp;refine⟨_,fun _=>aF.out _ _ _,hK _ ?_⟩;clear hK K
 repeat (gi_big_quiet_step (fail))
 refine wpQuietIn_step (fun _ _ _ _=>trivial) (fun K hK=>?_);go_simp;refine⟨_,fun q=>aG.out q _ _ _,hK _ ?_⟩;clear hK K
 repeat (gi_big_quiet_step (fail))
 refine wpQuietIn_nil ?_;intro W7 aV;obtain⟨rg,aJ⟩:=aV;have aw:Below W1.heap.size W1 W7:=by rw [aJ];exact below_regrown _ _ _
 have H7:=hid (H1.out.later aw);have aQ:=hid aw;clear aJ aw r2 r3 r4 r5 x0 x1 x2 x3 x4 x5 x6 x7 zX aF aG;obtain⟨c0,c1,c6,c7⟩:=HX.out W7 aQ.out;have zX:=aac c0;have hT:=amD o (akm VA) (akm VB) W7 p1 p2;rw [aoq bq.out.2,aoq br.out.2] at hT;cases e:abf o (akm VA) (akm VB) with
 | none =>
   rw [e] at hT;have HT:=hid hT;have ak:Hid (s.ins u y=(s.stop 2,false)):=by
    show _=_;rw [HS.out];unfold ak4;rw [e];rfl
   have HQ:=hid (acr H7.out.at_ 2);clear hT e HS;go_wp2_with (first | (go_at_call 87;refine HT.out.mono ?_;rintro e w' ⟨rfl,rfl⟩;dsimp only [afm]) | (go_at_call 30;refine HQ.out.mono ?_;rintro e aS ⟨rfl,hw⟩;have HF:=hid hw;clear hw));go_ret;rw [ak.out];exact⟨rfl,_,_,HF.out⟩
 | some z =>
   rw [e] at hT;have HT:=hid hT;have ak:Hid (s.ins u y=({ s with frs:={ t with regs:=afk t.regs y.dst (bi z) } :: r },true)):=by
    show _=_;rw [HS.out];unfold ak4;rw [e];show (s.set y.dst (bi z),true)=_;unfold RnS.set RnS.setTop RnS.top;rw [aL.out];rfl
   have HQ:=hid (adQ H7.out.at_ aL.out ae.out y.dst (bi z) az.out);clear hT e HS;go_wp2_with (first | (go_at_call 87;refine HT.out.mono ?_;rintro e w' ⟨rfl,rfl⟩;dsimp only [afm]) | (go_at_call 86;refine HQ.out.mono ?_;rintro e aS ⟨rfl,hw⟩;have HF:=hid hw;clear hw));go_ret;rw [ak.out];exact⟨rfl,_,_,HF.out⟩
theorem adW.ins_read(h:adW u G F A S W0 base WB W V iv s t r f x)(hy:y∈x.list)(hop:y.op=21)(ha:SlAt S' W 2 ady (.slice aa y.args.length ac) y.args) :
 Calls Tryz.prog 55 #[.pointer (some ⟨WB,0,none⟩),.agg #[.int .i64 21,.int .i64 y.dst,.bool y.a.reg,.int .i64 y.a.n,.bool y.b.reg,.int .i64 y.b.n,.int .i64 y.fn,.slice aa y.args.length ac]] W fun e w' =>
  e = .returned (.bool (s.ins u y).2)∧∃V' iv',aaQ u G F A S W0 base WB w' V' iv' (s.ins u y).1:=by
 have ad:s.top=t:=by unfold RnS.top;rw [h.fr];rfl
 have ho:=h.fo.ins _ x h.fw.blk y hy;obtain⟨n1,n2⟩:I64 y.a.n∧I64 y.b.n:=by
  have h2:=(h.num.vals f (Aam h.fw.fn) x (Aam h.fw.blk)).2.1 y hy;exact⟨h2.1,h2.2.1⟩
 obtain⟨al,ar⟩:∃n,n=y.args.length:=⟨_,rfl⟩
 rw [<-ar] at ha ⊢;obtain⟨W1,aj⟩:∃W1,W1=W.alloc (.cells #[.int .i64 21,.int .i64 y.dst,.bool y.a.reg,.int .i64 y.a.n,.bool y.b.reg,.int .i64 y.b.n,.int .i64 y.fn,.slice aa al ac] 62):=⟨_,rfl⟩
 have ai:Below W.heap.size W W1:=by rw [aj];exact bE
 have aK:W1.heap[W.heap.size]?=some (.cells #[.int .i64 21,.int .i64 y.dst,.bool y.a.reg,.int .i64 y.a.n,.bool y.b.reg,.int .i64 y.b.n,.int .i64 y.fn,.slice aa al ac] 62 (0,0)):=by rw [aj];exact heap_alloc_new _ _
 obtain⟨x0,x1,x2,x3,x4,x5,x6,x7⟩:=(aah (cs:=[_,_,_,_,_,_,_,_]) aK).get8;rw [Aab] at x1 x2 x3 x4 x5 x6 x7;obtain⟨XB,au⟩:∃XB,XB=W.heap.size:=⟨_,rfl⟩
 rw [<-au] at x0 x1 x2 x3 x4 x5 x6 x7;have zX:=aac x0;have HW:Hid (W1=W.alloc (.cells #[.int .i64 21,.int .i64 y.dst,.bool y.a.reg,.int .i64 y.a.n,.bool y.b.reg,.int .i64 y.b.n,.int .i64 y.fn,.slice aa al ac] 62)∧XB=W.heap.size):=⟨aj,au⟩
 have H1:=hid (h.later ai);have Ha:=hid (ha.later aaw ai);obtain⟨VA,af⟩:∃z,z=aaS t.regs y.a:=⟨_,rfl⟩
 obtain⟨VB,ag⟩:∃z,z=aaS t.regs y.b:=⟨_,rfl⟩
 have bq:Hid (VA=aaS t.regs y.a∧I64 VA):=⟨af,by rw [af];exact aaP h.fw.num n1⟩
 have br:Hid (VB=aaS t.regs y.b∧I64 VB):=⟨ag,by rw [ag];exact aaP h.fw.num n2⟩
 have aF:Hid (∀m d os,CallsIn Fence.wide m Tryz.prog 85 #[.pointer (some ⟨WB,0,none⟩),.agg #[.bool y.a.reg,.int .i64 y.a.n]] (grow (redrawn W1 d) os) fun e ay=>e = .returned (.int .i64 VA)∧∃p:Regrown,ay=grow (redrawn W1 p.d) p.os):=fun m d os=>by
  have h:=(H1.out.later (below_regrown W1 d os)).val ho.a;rw [<-af] at h;exact CallsIn.regrown_of (callsIn_wide (n:=m).2 h)
 have aG:Hid (∀(q:Regrown) m d os,CallsIn Fence.wide m Tryz.prog 85 #[.pointer (some ⟨WB,0,none⟩),.agg #[.bool y.b.reg,.int .i64 y.b.n]] (grow (redrawn W1 d) os) fun e ay=>e = .returned (.int .i64 VB)∧∃p:Regrown,ay=grow (redrawn W1 p.d) p.os):=fun _ m d os=>by
  have h:=(H1.out.later (below_regrown W1 d os)).val ho.b;rw [<-ag] at h;exact CallsIn.regrown_of (callsIn_wide (n:=m).2 h)
 have r2:=cell_regrown x2;have r3:=cell_regrown x3;have r4:=cell_regrown x4;have r5:=cell_regrown x5;have HX:Hid (∀W5,Below W1.heap.size W1 W5->W5.cell? ⟨XB,0,none⟩=some (.int .i64 21)∧W5.cell? ⟨XB,1,none⟩=some (.int .i64 y.dst)∧W5.cell? ⟨XB,6,none⟩=some (.int .i64 y.fn)∧W5.cell? ⟨XB,7,none⟩=some (.slice aa al ac)):=fun W5 hb=>⟨aab x0 hb,aab x1 hb,aab x6 hb,aab x7 hb⟩
 have aL:=hid h.fr;have ae:=hid h.deep;have Ho:=hid ho;have Hy:=hid hy;have bI:=hid hop;have bf:=hid ar;have az:Hid (y.dst<(t.regs.length:Int)):=by
  have h1:=ho.dst.2;have h2:=h.fw.regs;have h3:=h.fo.pr;show y.dst<(t.regs.length:Int);omega
 have HS:Hid (s.ins u y=({ s with inp:=s.inp.tail }.set y.dst (s.inp.headD (-1)),true)):=by
  show _=_;unfold RnS.ins;rw [hop];rfl
 clear h ad ho n1 n2 ai aK aj au af ag ha ar hy hop;go_enter Tryz.func55,Tryz.ntmps55;go_upto_region 1 with (fail)
 rw [<-HW.out.1,<-HW.out.2];clear HW;refine aaD (by kernel_rfl) (by kernel_rfl) ?_
 repeat (gi_big_quiet_step (fail))
 refine wpQuietIn_step (fun _ _ _ _=>trivial) (fun K hK=>?_);go_simp;refine⟨_,fun _=>aF.out _ _ _,hK _ ?_⟩;clear hK K
 repeat (gi_big_quiet_step (fail))
 refine wpQuietIn_step (fun _ _ _ _=>trivial) (fun K hK=>?_);go_simp;refine⟨_,fun q=>aG.out q _ _ _,hK _ ?_⟩;clear hK K
 repeat (gi_big_quiet_step (fail))
 refine wpQuietIn_nil ?_;intro W7 aV;obtain⟨rg,aJ⟩:=aV;have aw:Below W1.heap.size W1 W7:=by rw [aJ];exact below_regrown _ _ _
 have H7:=hid (H1.out.later aw);have aQ:=hid aw;clear aJ aw r2 r3 r4 r5 x0 x1 x2 x3 x4 x5 x6 x7 zX aF aG;obtain⟨c0,c1,c6,c7⟩:=HX.out W7 aQ.out;have zX:=aac c0;have aE:=H7.out.at_.rd.inp;obtain⟨-,zW,aC,aZ⟩:=H7.out.at_.boxAt;have b4:=aC 4 _ rfl;rw [Aab] at b4;have f4:=aZ 4 (by omega);clear aC aZ;cases hil:s.inp with
 | nil =>
   rw [hil] at aE;obtain⟨ia,ic,rfl,-⟩:=aE.val;have ak:Hid (s.ins u y=({ s with frs:={ t with regs:=afk t.regs y.dst (-1) } :: r },true)):=by
    show _=_;have e1:s.inp.tail=s.inp:=by rw [hil];rfl
    have e2:s.inp.headD (-1) = -1:=by rw [hil];rfl
    rw [HS.out,e1,e2];show (s.set y.dst (-1),true)=_;unfold RnS.set RnS.setTop RnS.top;rw [aL.out];rfl
   have HQ:=hid (adQ H7.out.at_ aL.out ae.out y.dst (-1) az.out);have et:([]:List Int).length=0:=rfl;rw [et] at b4;clear aE hil HS;go_wp2_with (first | (go_at_call 86;refine HQ.out.mono ?_;rintro e aS ⟨rfl,hw⟩;have HF:=hid hw;clear hw));go_ret;rw [ak.out];exact⟨rfl,_,_,HF.out⟩
 | cons v l =>
   rw [hil] at aE;obtain⟨ia,ic,rfl,-⟩:=aE.val;obtain⟨ds,ei⟩:(v :: l).length<=ic∧ic<=9223372036854775807:=by
    obtain⟨ao,c,e,h1,h2,-⟩:=aE;cases e;exact⟨h1,h2⟩
   obtain⟨-,eU,ib,io,rfl,⟨cs,⟨rfl,-⟩,bA⟩,bY⟩:=akW aE;have v0:=bA 0 _ rfl;rw [Aa2] at v0;have zI:=aac v0;have ak:Hid (s.ins u y=({ s with inp:=l,frs:={ t with regs:=afk t.regs y.dst v } :: r },true)):=by
    show _=_;rw [HS.out,hil];unfold RnS.set RnS.setTop RnS.top;show (({ s with inp:=l,frs:={ ((s.frs).headD RnF.none) with regs:=afk ((s.frs).headD RnF.none).regs y.dst v } :: s.frs.tail }:RnS),true)=_;rw [aL.out];rfl
   have du:(v :: l).length=l.length+1:=rfl;rw [du] at b4 ds;obtain⟨ln,cj⟩:∃n,n=l.length:=⟨_,rfl⟩
   have db:=hid bY;have c9:=hid cj;rw [<-cj] at b4 ds;have eX:(ln:Int)+1<=9223372036854775807:=by omega
   have cx:Hid (Calls Tryz.prog 86 #[.pointer (some ⟨WB,0,none⟩),.int .i64 y.dst,.int .i64 v] (W7.setCell ⟨WB,4,none⟩ (.slice (some ⟨ib,io+1,none⟩) ln (ic - 1))) fun e w'=>e = .returned (.tuple #[])∧∃iv',aaQ u G F A S W0 base WB w' V iv' { s with inp:=l,frs:={ t with regs:=afk t.regs y.dst v } :: r }) :=
    (adQ (H7.out.at_.putInp (iv' := .slice (some ⟨ib,io+1,none⟩) ln (ic - 1)) (l:=l) (by rw [c9.out];exact db.out _ fun _=>rfl)) aL.out ae.out y.dst v az.out).mono fun e w' h=>⟨h.1,_,h.2⟩
   clear hil HS bA bY du
   by_cases hc2:ic=1
   . have eo:l=[]:=Ab4 (by omega)
     clear cj aE;subst eo hc2;obtain rfl:ln=0:=c9.out;rw [Aab] at b4;have HQ:Hid (Calls Tryz.prog 86 #[.pointer (some ⟨WB,0,none⟩),.int .i64 y.dst,.int .i64 v] (W7.setCell ⟨WB,4,none⟩ (.slice (some ⟨ib,io,none⟩) 0 0)) fun e w'=>e = .returned (.tuple #[])∧∃iv',aaQ u G F A S W0 base WB w' V iv' { s with inp:=[],frs:={ t with regs:=afk t.regs y.dst v } :: r }) :=
      (adQ (H7.out.at_.putInp (iv' := .slice (some ⟨ib,io,none⟩) 0 0) (l:=[]) (db.out _ fun h=>absurd rfl h)) aL.out ae.out y.dst v az.out).mono fun e w' h=>⟨h.1,_,h.2⟩
     go_wp2_with (first | (go_at_call 86;refine HQ.out.mono ?_;rintro e aS ⟨rfl,hw⟩;have HF:=hid hw;clear hw));go_ret;rw [ak.out];obtain⟨iv',h⟩:=HF.out;exact⟨rfl,_,_,h⟩
   . have eV:1<ic:=by omega
     clear cj aE;go_wp2_with (first | (go_at_call 86;refine cx.out.mono ?_;rintro e aS ⟨rfl,hw⟩;have HF:=hid hw;clear hw));go_ret;rw [ak.out];obtain⟨iv',h⟩:=HF.out;exact⟨rfl,_,_,h⟩
theorem adW.ins_print(h:adW u G F A S W0 base WB W V iv s t r f x)(hy:y∈x.list)(hop:y.op=22)(ha:SlAt S' W 2 ady (.slice aa y.args.length ac) y.args) :
 Calls Tryz.prog 55 #[.pointer (some ⟨WB,0,none⟩),.agg #[.int .i64 22,.int .i64 y.dst,.bool y.a.reg,.int .i64 y.a.n,.bool y.b.reg,.int .i64 y.b.n,.int .i64 y.fn,.slice aa y.args.length ac]] W fun e w' =>
  e = .returned (.bool (s.ins u y).2)∧∃V' iv',aaQ u G F A S W0 base WB w' V' iv' (s.ins u y).1:=by
 have ad:s.top=t:=by unfold RnS.top;rw [h.fr];rfl
 have ho:=h.fo.ins _ x h.fw.blk y hy;obtain⟨n1,n2⟩:I64 y.a.n∧I64 y.b.n:=by
  have h2:=(h.num.vals f (Aam h.fw.fn) x (Aam h.fw.blk)).2.1 y hy;exact⟨h2.1,h2.2.1⟩
 obtain⟨al,ar⟩:∃n,n=y.args.length:=⟨_,rfl⟩
 rw [<-ar] at ha ⊢;obtain⟨W1,aj⟩:∃W1,W1=W.alloc (.cells #[.int .i64 22,.int .i64 y.dst,.bool y.a.reg,.int .i64 y.a.n,.bool y.b.reg,.int .i64 y.b.n,.int .i64 y.fn,.slice aa al ac] 62):=⟨_,rfl⟩
 have ai:Below W.heap.size W W1:=by rw [aj];exact bE
 have aK:W1.heap[W.heap.size]?=some (.cells #[.int .i64 22,.int .i64 y.dst,.bool y.a.reg,.int .i64 y.a.n,.bool y.b.reg,.int .i64 y.b.n,.int .i64 y.fn,.slice aa al ac] 62 (0,0)):=by rw [aj];exact heap_alloc_new _ _
 obtain⟨x0,x1,x2,x3,x4,x5,x6,x7⟩:=(aah (cs:=[_,_,_,_,_,_,_,_]) aK).get8;rw [Aab] at x1 x2 x3 x4 x5 x6 x7;obtain⟨XB,au⟩:∃XB,XB=W.heap.size:=⟨_,rfl⟩
 rw [<-au] at x0 x1 x2 x3 x4 x5 x6 x7;have zX:=aac x0;have HW:Hid (W1=W.alloc (.cells #[.int .i64 22,.int .i64 y.dst,.bool y.a.reg,.int .i64 y.a.n,.bool y.b.reg,.int .i64 y.b.n,.int .i64 y.fn,.slice aa al ac] 62)∧XB=W.heap.size):=⟨aj,au⟩
 have H1:=hid (h.later ai);have Ha:=hid (ha.later aaw ai);obtain⟨VA,af⟩:∃z,z=aaS t.regs y.a:=⟨_,rfl⟩
 obtain⟨VB,ag⟩:∃z,z=aaS t.regs y.b:=⟨_,rfl⟩
 have bq:Hid (VA=aaS t.regs y.a∧I64 VA):=⟨af,by rw [af];exact aaP h.fw.num n1⟩
 have br:Hid (VB=aaS t.regs y.b∧I64 VB):=⟨ag,by rw [ag];exact aaP h.fw.num n2⟩
 have aF:Hid (∀m d os,CallsIn Fence.wide m Tryz.prog 85 #[.pointer (some ⟨WB,0,none⟩),.agg #[.bool y.a.reg,.int .i64 y.a.n]] (grow (redrawn W1 d) os) fun e ay=>e = .returned (.int .i64 VA)∧∃p:Regrown,ay=grow (redrawn W1 p.d) p.os):=fun m d os=>by
  have h:=(H1.out.later (below_regrown W1 d os)).val ho.a;rw [<-af] at h;exact CallsIn.regrown_of (callsIn_wide (n:=m).2 h)
 have aG:Hid (∀(q:Regrown) m d os,CallsIn Fence.wide m Tryz.prog 85 #[.pointer (some ⟨WB,0,none⟩),.agg #[.bool y.b.reg,.int .i64 y.b.n]] (grow (redrawn W1 d) os) fun e ay=>e = .returned (.int .i64 VB)∧∃p:Regrown,ay=grow (redrawn W1 p.d) p.os):=fun _ m d os=>by
  have h:=(H1.out.later (below_regrown W1 d os)).val ho.b;rw [<-ag] at h;exact CallsIn.regrown_of (callsIn_wide (n:=m).2 h)
 have r2:=cell_regrown x2;have r3:=cell_regrown x3;have r4:=cell_regrown x4;have r5:=cell_regrown x5;have HX:Hid (∀W5,Below W1.heap.size W1 W5->W5.cell? ⟨XB,0,none⟩=some (.int .i64 22)∧W5.cell? ⟨XB,1,none⟩=some (.int .i64 y.dst)∧W5.cell? ⟨XB,6,none⟩=some (.int .i64 y.fn)∧W5.cell? ⟨XB,7,none⟩=some (.slice aa al ac)):=fun W5 hb=>⟨aab x0 hb,aab x1 hb,aab x6 hb,aab x7 hb⟩
 have aL:=hid h.fr;have ae:=hid h.deep;have Ho:=hid ho;have Hy:=hid hy;have bI:=hid hop;have bf:=hid ar;have az:Hid (y.dst<(t.regs.length:Int)):=by
  have h1:=ho.dst.2;have h2:=h.fw.regs;have h3:=h.fo.pr;show y.dst<(t.regs.length:Int);omega
 have HS:Hid (s.ins u y=if s.out.length=200 then (s.stop 5,false) else ({ s with out:=s.out++[VA] },true)):=by
  show _=_;unfold RnS.ins;rw [hop,ad,<-af];rfl
 obtain⟨i0,cM,eH,eI,eJ⟩:=info_parts acA;clear h ad ho n1 n2 ai aK aj au af ag ha ar hy hop;go_enter Tryz.func55,Tryz.ntmps55;go_upto_region 1 with (fail)
 rw [<-HW.out.1,<-HW.out.2];clear HW;refine aaD (by kernel_rfl) (by kernel_rfl) ?_
 repeat (gi_big_quiet_step (fail))
 refine wpQuietIn_step (fun _ _ _ _=>trivial) (fun K hK=>?_);go_simp;refine⟨_,fun _=>aF.out _ _ _,hK _ ?_⟩;clear hK K
 repeat (gi_big_quiet_step (fail))
 refine wpQuietIn_step (fun _ _ _ _=>trivial) (fun K hK=>?_);go_simp;refine⟨_,fun q=>aG.out q _ _ _,hK _ ?_⟩;clear hK K
 repeat (gi_big_quiet_step (fail))
 refine wpQuietIn_nil ?_;intro W7 aV;obtain⟨rg,aJ⟩:=aV;have aw:Below W1.heap.size W1 W7:=by rw [aJ];exact below_regrown _ _ _
 have H7:=hid (H1.out.later aw);have aQ:=hid aw;clear aJ aw r2 r3 r4 r5 x0 x1 x2 x3 x4 x5 x6 x7 zX aF aG;obtain⟨c0,c1,c6,c7⟩:=HX.out W7 aQ.out;have zX:=aac c0;obtain⟨oa,oc,hm⟩:=H7.out.at_.outRow;obtain⟨-,zW,aC,aZ⟩:=H7.out.at_.boxAt;have b7:=aC 7 _ rfl;rw [Aab,hm] at b7;have f7:=aZ 7 (by omega);obtain⟨ol,be⟩:∃n,n=s.out.length:=⟨_,rfl⟩
 rw [<-be] at b7;have bH:Hid (ol=s.out.length∧ol<=200):=⟨be,by rw [be];exact H7.out.w.out.1⟩
 have Hm:=hid hm;clear aC aZ hm
 by_cases h200:ol=200
 . have ak:=hid (HS.out.trans (if_pos (by rw [<-be];exact h200)))
   have HQ:=hid (acr H7.out.at_ 5);subst h200;clear be HS;go_wp2_with (first | (go_at_call 30;refine HQ.out.mono ?_;rintro e aS ⟨rfl,hw⟩;have HF:=hid hw;clear hw));go_ret;rw [ak.out];exact⟨rfl,_,_,HF.out⟩
 . have ak:=hid (HS.out.trans (if_neg (by rw [<-be];exact h200)))
   have aR:decide ((ol:Int)=200)=false:=decide_eq_false (by omega);have ev:¬((ol:Int)=200):=by omega
   have ax:W7.ownsRow base 3 1 (.slice oa ol oc) ol (s.out.map (Value.int .i64)):=by
    have h:=H7.out.at_.rows.own .out trivial;have e:walkC G F A iv V s .out=aaF s.out:=rfl;rw [e,abi,abm,Hm.out,<-be] at h;exact h
   have bg:=hid ax;have dM:Hid (base<=W7.heap.size):=Aag H7.out.at_.hb H7.out.at_.low.size;clear be HS ax h200;go_upto_region 33 with (fail)
   obtain⟨W8,bL⟩:∃W8,W8=W7.alloc (.cells #[.int .i64 VA] 3):=⟨_,rfl⟩
   have bN:Below W7.heap.size W7 W8:=by rw [bL];exact bE
   have H8:=hid (H7.out.later bN);have eO:=hid bN;have dS:W8.cell? ⟨W7.heap.size,0,none⟩=some (.int .i64 VA):=by rw [bL];simp
   have cD:=aab b7 bN;have bW:Hid (W8.ownsRow base 3 1 (.slice oa ol oc) ol (s.out.map (Value.int .i64))):=by
    have h:=H8.out.at_.rows.own .out trivial;have e:walkC G F A iv V s .out=aaF s.out:=rfl;rw [e,abi,abm,Hm.out,<-bH.out.1] at h;exact h
   have dd:W8.heap.size=W7.heap.size+1:=by rw [bL];simp
   have HB:=hid bL;have dH:=hid dd;have f78:W8.frozen? ⟨WB,7,none⟩=false:=by rw [World.frozen?_of_block (w:=W7) (bN.block WB zW)];exact f7
   have z8:=aac cD;have cC:Hid (∀w':World,W8.grownBy w' (V .out).ownBlock->w'.cell? ⟨WB,7,none⟩=some (.slice oa ol oc)∧w'.frozen? ⟨WB,7,none⟩=false):=fun w' hg=>by
    have ea:(V .out).ownBlock≠some WB:=fun e=>H8.out.at_.rows.apart .out .box trivial trivial (by intro e;cases e) WB e (by rw [H8.out.at_.box];rfl);have aU:=hg.block WB z8 fun e=>ea e.symm;exact⟨by rw [World.cell?_of_block (w:=W8) aU];exact cD,by rw [World.frozen?_of_block (w:=W8) aU];exact f78⟩
   clear bL bN dd f78 z8 cD
   go_wp2_with (first
    | (refine wpList_append_own_at _ rfl (.tmp 149) (.tmp 151) 26 rfl base 3 i0 _ 1 8 Tryz.underlying26 cM eH eI eJ rfl (by decide) (.slice oa ol oc) ol (s.out.map (Value.int .i64)) rfl (by rw [<- HB.out]; exact bW.out) ⟨W7.heap.size, 0, none⟩ 1 1 [.int .i64 VA] rfl rfl ?_ ?_ ?_ ?_ ?_ ?_
       . intro j v hj
         match j, hj with
         | 0, hj => cases hj; rw [Addr.add_lit, <- HB.out]; exact dS
       . intro v hv
         rw [Aaq.1 hv]; rfl
       . unfold maxLen; have := bH.out; omega
       . have := bH.out; omega
       . rw [<- HB.out, dH.out]; have := dM.out; omega
       intro v' w' aD aq bm bw
       rw [<- HB.out] at aq bw
       have e8 : (V .out).ownBlock = (Value.slice oa ol oc).ownBlock := by rw [Hm.out, bH.out.1]
       rw [<- e8] at aq bw
       obtain ⟨va, vc, rfl⟩ := abS aD
       obtain ⟨dQ, eQ⟩ := cC.out w' aq
       have HP := hid (H8.out.at_.pushOut (v' := .slice va (ol + 1) vc) (n := VA) (W' := w') (by rw [Aav, <- bH.out.1]; exact aD) aq (fun k hk => by
        rcases bw with e | e
        . rw [e] at hk; exact .inl hk
        . rw [e] at hk; cases hk; exact .inr (Aad _)))
       have z9 := aac dQ
       clear aD aq bm bw e8 b7 f7))
   go_ret;rw [ak.out];exact⟨rfl,_,_,HP.out⟩
theorem adW.ins_call(h:adW u G F A S W0 base WB W V iv s t r f x)(hy:y∈x.list)(hop:y.op=20)(ha:SlAt S' W 2 ady (.slice aa y.args.length ac) y.args) :
 Calls Tryz.prog 55 #[.pointer (some ⟨WB,0,none⟩),.agg #[.int .i64 20,.int .i64 y.dst,.bool y.a.reg,.int .i64 y.a.n,.bool y.b.reg,.int .i64 y.b.n,.int .i64 y.fn,.slice aa y.args.length ac]] W fun e w' =>
  e = .returned (.bool (s.ins u y).2)∧∃V' iv',aaQ u G F A S W0 base WB w' V' iv' (s.ins u y).1:=by
 have ad:s.top=t:=by unfold RnS.top;rw [h.fr];rfl
 have ho:=h.fo.ins _ x h.fw.blk y hy;obtain⟨n1,n2⟩:I64 y.a.n∧I64 y.b.n:=by
  have h2:=(h.num.vals f (Aam h.fw.fn) x (Aam h.fw.blk)).2.1 y hy;exact⟨h2.1,h2.2.1⟩
 obtain⟨al,ar⟩:∃n,n=y.args.length:=⟨_,rfl⟩
 rw [<-ar] at ha ⊢;obtain⟨W1,aj⟩:∃W1,W1=W.alloc (.cells #[.int .i64 20,.int .i64 y.dst,.bool y.a.reg,.int .i64 y.a.n,.bool y.b.reg,.int .i64 y.b.n,.int .i64 y.fn,.slice aa al ac] 62):=⟨_,rfl⟩
 have ai:Below W.heap.size W W1:=by rw [aj];exact bE
 have aK:W1.heap[W.heap.size]?=some (.cells #[.int .i64 20,.int .i64 y.dst,.bool y.a.reg,.int .i64 y.a.n,.bool y.b.reg,.int .i64 y.b.n,.int .i64 y.fn,.slice aa al ac] 62 (0,0)):=by rw [aj];exact heap_alloc_new _ _
 obtain⟨x0,x1,x2,x3,x4,x5,x6,x7⟩:=(aah (cs:=[_,_,_,_,_,_,_,_]) aK).get8;rw [Aab] at x1 x2 x3 x4 x5 x6 x7;obtain⟨XB,au⟩:∃XB,XB=W.heap.size:=⟨_,rfl⟩
 rw [<-au] at x0 x1 x2 x3 x4 x5 x6 x7;have zX:=aac x0;have HW:Hid (W1=W.alloc (.cells #[.int .i64 20,.int .i64 y.dst,.bool y.a.reg,.int .i64 y.a.n,.bool y.b.reg,.int .i64 y.b.n,.int .i64 y.fn,.slice aa al ac] 62)∧XB=W.heap.size):=⟨aj,au⟩
 have H1:=hid (h.later ai);have Ha:=hid (ha.later aaw ai);obtain⟨VA,af⟩:∃z,z=aaS t.regs y.a:=⟨_,rfl⟩
 obtain⟨VB,ag⟩:∃z,z=aaS t.regs y.b:=⟨_,rfl⟩
 have bq:Hid (VA=aaS t.regs y.a∧I64 VA):=⟨af,by rw [af];exact aaP h.fw.num n1⟩
 have br:Hid (VB=aaS t.regs y.b∧I64 VB):=⟨ag,by rw [ag];exact aaP h.fw.num n2⟩
 have aF:Hid (∀m d os,CallsIn Fence.wide m Tryz.prog 85 #[.pointer (some ⟨WB,0,none⟩),.agg #[.bool y.a.reg,.int .i64 y.a.n]] (grow (redrawn W1 d) os) fun e ay=>e = .returned (.int .i64 VA)∧∃p:Regrown,ay=grow (redrawn W1 p.d) p.os):=fun m d os=>by
  have h:=(H1.out.later (below_regrown W1 d os)).val ho.a;rw [<-af] at h;exact CallsIn.regrown_of (callsIn_wide (n:=m).2 h)
 have aG:Hid (∀(q:Regrown) m d os,CallsIn Fence.wide m Tryz.prog 85 #[.pointer (some ⟨WB,0,none⟩),.agg #[.bool y.b.reg,.int .i64 y.b.n]] (grow (redrawn W1 d) os) fun e ay=>e = .returned (.int .i64 VB)∧∃p:Regrown,ay=grow (redrawn W1 p.d) p.os):=fun _ m d os=>by
  have h:=(H1.out.later (below_regrown W1 d os)).val ho.b;rw [<-ag] at h;exact CallsIn.regrown_of (callsIn_wide (n:=m).2 h)
 have r2:=cell_regrown x2;have r3:=cell_regrown x3;have r4:=cell_regrown x4;have r5:=cell_regrown x5;have HX:Hid (∀W5,Below W1.heap.size W1 W5->W5.cell? ⟨XB,0,none⟩=some (.int .i64 20)∧W5.cell? ⟨XB,1,none⟩=some (.int .i64 y.dst)∧W5.cell? ⟨XB,6,none⟩=some (.int .i64 y.fn)∧W5.cell? ⟨XB,7,none⟩=some (.slice aa al ac)):=fun W5 hb=>⟨aab x0 hb,aab x1 hb,aab x6 hb,aab x7 hb⟩
 have aL:=hid h.fr;have ae:=hid h.deep;have Ho:=hid ho;have Hy:=hid hy;have bI:=hid hop;have bf:=hid ar;have az:Hid (y.dst<(t.regs.length:Int)):=by
  have h1:=ho.dst.2;have h2:=h.fw.regs;have h3:=h.fo.pr;show y.dst<(t.regs.length:Int);omega
 obtain⟨bQ,g0,cg,dr⟩:=(afC h.chk h.fw.fn h.fw.blk hy).1 hop;obtain⟨fn,bP⟩:∃k:Nat,y.fn=(k:Int):=Aas bQ;rw [bP,Aaj] at cg;rw [bP] at HX HW x6;rw [bP];have cL:=aiI h.chk cg;have HS:Hid (s.ins u y=if s.frs.length=30 then (s.stop 4,false) else (s.enter u fn y.dst (y.args.map (aaS t.regs)),true)):=by
  show _=_;unfold RnS.ins;rw [hop,ad,bP,Aaj];rfl
 have c4:=hid cg;have b8:=hid cL;have c5:Hid ((al:Int)=g0.params):=by show _=_;rw [ar];exact dr
 have dZ:al<=6:=by have:=c5.out;have:=cL.pr;omega
 have bF:Hid (∀v∈y.args,VOk f.regs v∧I64 v.n):=fun v hv=>by
  have h2:=(h.num.vals f (Aam h.fw.fn) x (Aam h.fw.blk)).2.1 y hy;exact⟨ho.args v hv,h2.2.2 v hv⟩
 obtain⟨i0,cM,cU,cV,cW⟩:=info_parts acA;clear bQ cg dr cL bP;clear h ad ho n1 n2 ai aK aj au af ag ha ar hy hop;go_enter Tryz.func55,Tryz.ntmps55;go_upto_region 1 with (fail)
 rw [<-HW.out.1,<-HW.out.2];clear HW;refine aaD (by kernel_rfl) (by kernel_rfl) ?_
 repeat (gi_big_quiet_step (fail))
 refine wpQuietIn_step (fun _ _ _ _=>trivial) (fun K hK=>?_);go_simp;refine⟨_,fun _=>aF.out _ _ _,hK _ ?_⟩;clear hK K
 repeat (gi_big_quiet_step (fail))
 refine wpQuietIn_step (fun _ _ _ _=>trivial) (fun K hK=>?_);go_simp;refine⟨_,fun q=>aG.out q _ _ _,hK _ ?_⟩;clear hK K
 repeat (gi_big_quiet_step (fail))
 refine wpQuietIn_nil ?_;intro W7 aV;obtain⟨rg,aJ⟩:=aV;have aw:Below W1.heap.size W1 W7:=by rw [aJ];exact below_regrown _ _ _
 have H7:=hid (H1.out.later aw);have aQ:=hid aw;clear aJ aw r2 r3 r4 r5 x0 x1 x2 x3 x4 x5 x6 x7 zX aF aG;obtain⟨c0,c1,c6,c7⟩:=HX.out W7 aQ.out;have zX:=aac c0;obtain⟨g,fc,hv,cJ,-,-,-,-⟩:=H7.out.at_.topAt aL.out;obtain⟨-,zW,aC,-⟩:=H7.out.at_.boxAt;have b5:=aC 9 _ rfl;obtain⟨n,aR⟩:∃n,n=r.length:=⟨_,rfl⟩
 rw [Aab,hv,<-aR] at b5;have HN:Hid (n=r.length∧n+1<=30∧s.frs.length=n+1):=⟨aR,by rw [aR];exact ae.out,by rw [aL.out,aR];rfl⟩
 clear aC hv cJ aR
 by_cases h30:n+1=30
 . have ak:=hid (HS.out.trans (if_pos (by rw [HN.out.2.2];exact h30)))
   have HQ:=hid (acr H7.out.at_ 4);have cQ:n=29:=by omega
   subst cQ;clear HS h30;go_wp2_with (first | (go_at_call 30;refine HQ.out.mono ?_;rintro e aS ⟨rfl,hw⟩;have HF:=hid hw;clear hw));go_ret;rw [ak.out];exact⟨rfl,_,_,HF.out⟩
 . have ak:=hid (HS.out.trans (if_neg (by rw [HN.out.2.2];exact h30)))
   have eu:¬((n:Int)+1=30):=by omega
   have eY:decide ((n:Int)+1=30)=false:=decide_eq_false eu;obtain⟨NX,ca⟩:∃NX:List Int,NX=y.args.map (aaS t.regs):=⟨_,rfl⟩
   have dI:=hid ca;have bd:Hid (NX.length=al):=by show _=_;rw [ca,Aal];exact bf.out.symm
   rw [<-ca] at ak;clear HS h30 ca;go_wp2_with fail;go_loopw [7,88] (fun s7 s88 wr=>∃k:Nat,k<=al∧s88 = .int .i64 (k:Int)∧aaz W7.heap.size wr s7 (NX.take k)∧Below W7.heap.size W7 wr) (fun _ s88 _=>al - (intOf s88).toNat)
   case atStart=>exact⟨0,Aah _,rfl,aaz.nil _ _,Below.refl _ _⟩
   case round =>
    obtain⟨k,hk,rfl,ax,hb⟩:=hrel;have Hb:=hid hb
    by_cases hkl:k<al
    . have bT:(NX.take k).length=k:=by rw [Aar,bd.out];omega
      obtain⟨va,vc,he⟩:=ax.shape;rw [bT] at he;subst he;have bg:Hid (∀W5,Below wr.heap.size wr W5->W5.ownsRow W7.heap.size 3 1 (.slice va k vc) k ((NX.take k).map (Value.int .i64))):=fun W5 bx=>by
       have h:=(ax.later bx).1;rw [bT] at h;exact h
      have bJ:Hid (∀y∈NX.take k,I64 y):=ax.2;have ch:k<y.args.length:=by rw [<-bf.out];exact hkl
      have dz:SlAt S' wr 2 ady (.slice aa al ac) y.args:=(Ha.out.later aaw aQ.out).later aaw Hb.out;obtain⟨vb,eM,eP,rfl,-,⟨rfl,a6⟩,-,bO⟩:=dz.get ch;obtain⟨q0,q1⟩:=bO.get2;obtain⟨b6,b0⟩:=bF.out _ (Aaf ch);obtain⟨X,hX⟩:∃X,X=aaS t.regs y.args[k]:=⟨_,rfl⟩
      have cz:Hid (NX[k]?=some X):=by
       show _=_;rw [dI.out,Aak,Aaa ch,hX];rfl
      have dL:Hid (I64 X):=by
       show I64 X;rw [hX];exact aaP H7.out.fw.num b0
      have HV:Hid (∀W5,Below wr.heap.size wr W5->Calls Tryz.prog 85 #[.pointer (some ⟨WB,0,none⟩),.agg #[.bool y.args[k].reg,.int .i64 y.args[k].n]] W5 fun e w'=>e = .returned (.int .i64 X)∧Below W5.heap.size W5 w'):=fun W5 bx=>by
       rw [hX];exact ((H7.out.later Hb.out).later bx).val b6
      obtain⟨vr,dE⟩:∃b,b=y.args[k].reg:=⟨_,rfl⟩
      obtain⟨vn,dD⟩:∃n,n=y.args[k].n:=⟨_,rfl⟩
      rw [<-dE] at q0 HV;rw [<-dD] at q1 HV;have zq:=aac q0;clear dz bO a6 b6 b0 hX dE dD ax hb ch;go_upto_region 21 with (fail)
      obtain⟨W4,aT⟩:∃W4,W4=wr.alloc (.cells #[.bool vr,.int .i64 vn] 55):=⟨_,rfl⟩
      have aH:Below wr.heap.size wr W4:=by rw [aT];exact bE
      have cE:W4.heap[wr.heap.size]?=some (.cells #[.bool vr,.int .i64 vn] 55 (0,0)):=by rw [aT];exact heap_alloc_new _ _
      rw [<-aT];obtain⟨PB,de⟩:∃PB,PB=wr.heap.size:=⟨_,rfl⟩
      rw [<-de] at cE ⊢;obtain⟨y0,y1⟩:=(aah (cs:=[_,_]) cE).get2;rw [Aab] at y1;have zy:=aac y0;have cB:=hid aH;clear aT aH cE de q0 q1 zq
      go_upto_region 22 with (first
       | (go_at_call 85; refine (HV.out W4 cB.out).mono ?_; rintro e W5 ⟨rfl, bx⟩; have bt : Hid (Below wr.heap.size wr W5) := cB.out.trans (bx.mono cB.out.size); clear bx)
       | (refine wpList_append_own_at _ rfl (.tmp 92) (.tmp 96) 26 rfl W7.heap.size 3 i0 _ 1 8 Tryz.underlying26 cM cU cV cW rfl (by decide) (.slice va k vc) k ((NX.take k).map (Value.int .i64)) rfl (bg.out _ (by have h := bt.out; exact bE1 h)) ⟨W5.heap.size, 0, none⟩ 1 1 [.int .i64 X] rfl rfl ?_ ?_ ?_ ?_ ?_ ?_
          . intro j v hj
            match j, hj with
            | 0, hj => cases hj; rw [Addr.add_lit]; simp
          . intro v hv
            rw [Aaq.1 hv]; rfl
          . unfold maxLen; omega
          . omega
          . have h1 := Hb.out.size
            have h2 := bt.out.size
            simp
            omega
          intro v' w' aD aq bm bw
          have dJ := hid aD
          have HG : Hid (Below W7.heap.size W7 w') := by
           refine Below.grown ?_ aq ?_ ?_
           . exact Hb.out.trans ((bt.out.alloc bt.out.size _).mono Hb.out.size)
           . exact (Hb.out.trans ((bt.out.alloc bt.out.size _).mono Hb.out.size)).size
           . exact fun q hq => ((bg.out wr (Below.refl _ _)).lt q hq).1
          clear aD aq bm bw))
      have dK:Hid (aaz W7.heap.size w' v' (NX.take (k+1))):=by
       have dt:k<NX.length:=by rw [bd.out];exact hkl
       have di:=cz.out;rw [Aaa dt] at di;have e:NX.take (k+1)=NX.take k++[X]:=by rw [Aat dt,Option.some.inj di]
       refine⟨?_,fun y hy=>?_⟩
       . rw [e,Aai,Aav,Aar,bd.out,Abr (by omega)]
         exact dJ.out
       . rw [e] at hy
         rcases Aaz.1 hy with hy | hy
         . exact bJ.out y hy
         . rw [Aaq.1 hy];exact dL.out
      go_wp2_with fail;go_roundw
      case rel=>exact⟨k+1,by omega,by go_num,dK.out,HG.out⟩
      case measure=>simp [intOf];omega
    . have en:k=al:=by omega
      subst en;have bT:(NX.take k).length=k:=by rw [Aar,bd.out];omega
      obtain⟨va,vc,he⟩:=ax.shape;rw [bT] at he;subst he;have bM:NX.take k=NX:=by rw [<-bd.out,Aay]
      rw [bM] at ax;have dA:SlAt (fun b=>W7.heap.size<=b) wr 1 aaO (.slice va NX.length vc) NX:=by
       have h:=ax.sl;rw [bd.out];exact h.mono aae (fun b hb=>hb.1) (aav.refl _ _)
      have H9:=H7.out.later Hb.out;obtain⟨d0,d1,d6,d7⟩:=HX.out wr (aQ.out.trans (Hb.out.mono aQ.out.size));have zX:=aac d0;obtain⟨cl,hc,ed,dp⟩:=H9.w.cnt.2 fn g0 c4.out;obtain⟨fa,fl,eS,hF⟩:=H9.fF;have HQ:=hid (ag8 H9.at_ c4.out hF ⟨by have:=b8.out.pr;omega,by have:=b8.out.pr;omega⟩ y.dst dA (by have:=c5.out;have:=b8.out.pr;have:=bd.out;omega) hc ⟨by have:=b8.out.len;omega,fun v hv=>by have:=dp v hv;have:=H9.steps;omega⟩ (by have:=HN.out;omega));rw [bd.out] at HQ;clear H9 dA ax bM bT hb hkl hk hc ed dp hF c0 c1 c6 c7;go_wp2_with (first | (go_at_call 27;refine HQ.out.mono ?_;rintro e aS ⟨rfl,V9,hw⟩;have HF:=hid hw;clear hw));go_ret;rw [ak.out];exact⟨rfl,_,_,HF.out⟩
theorem adW.ins(h:adW u G F A S W0 base WB W V iv s t r f x)(hy:y∈x.list)(ha:SlAt S' W 2 ady (.slice aa y.args.length ac) y.args) :
 Calls Tryz.prog 55 #[.pointer (some ⟨WB,0,none⟩),.agg #[.int .i64 y.op,.int .i64 y.dst,.bool y.a.reg,.int .i64 y.a.n,.bool y.b.reg,.int .i64 y.b.n,.int .i64 y.fn,.slice aa y.args.length ac]] W fun e w' =>
  e = .returned (.bool (s.ins u y).2)∧∃V' iv',aaQ u G F A S W0 base WB w' V' iv' (s.ins u y).1:=by
 have ho:=(h.fo.ins _ x h.fw.blk y hy).op
 by_cases h17:y.op<=17
 . exact h.ins_two hy ho.1 h17 rfl ha
 by_cases h18:y.op=18
 . rw [h18];exact h.ins_load hy h18 ha
 by_cases h19:y.op=19
 . rw [h19];exact h.ins_store hy h19 ha
 by_cases bu:y.op=20
 . rw [bu];exact h.ins_call hy bu ha
 by_cases h21:y.op=21
 . rw [h21];exact h.ins_read hy h21 ha
 have dc:y.op=22:=by omega
 rw [dc];exact h.ins_print hy dc ha
end
end
section
open Go.RowKit Go.Sort
section
variable {u : aaC} {G F A : Value} {S : Nat -> Prop} {W0 : World} {base WB : Nat} {W : World} {V : WPth -> Value} {iv : Value} {s : RnS} {t : RnF} {r : List RnF} {f : aao} {x : aad}
theorem adW.step(h:adW u G F A S W0 base WB W V iv s t r f x)(eA:s.steps<=100000) :
 Calls Tryz.prog 31 #[.pointer (some ⟨WB,0,none⟩)] W fun e w' =>
  e = .returned (.bool (s.step u).2)∧∃V' iv',aaQ u G F A S W0 base WB w' V' iv' (s.step u).1:=by
 have ad:s.top=t:=by unfold RnS.top;rw [h.fr];rfl
 obtain⟨fa,fl,fc,rfl⟩:=h.fF;have ef:fl=u.funcs.length:=by
  obtain⟨ao,c,e,-⟩:=h.at_.rd.fs;cases e;rfl
 subst ef;have bY:=(Aae.1 h.fw.fn).1;have dB:=(Aae.1 h.fw.fn).2;have dn:=(Aae.1 h.fw.blk).1;have dm:=(Aae.1 h.fw.blk).2;obtain⟨fb,aX,xa,xc,rfl,bj,cT,-,-⟩:=acF h.at_.rd.fs bY;rw [dB] at bj cT;obtain⟨xb,aP,cX,cY,la,lc,ta,tc,rfl,bk,-,cO,cR,-,-⟩:=afy cT dn;rw [dm] at bk cO cR;obtain⟨-,-,-,f3⟩:=bj.get4;obtain⟨x0,x1,x2,x3,x4,x5⟩:=bk.get6;obtain⟨-,zb,aC,-⟩:=h.at_.boxAt;have c1:=aC 1 _ rfl;have c8:=aC 8 _ rfl;rw [Aab] at c1 c8;obtain⟨g,dR,hv,cJ,-,-,aM,-⟩:=h.at_.topAt h.fr;have t0:=aM 0 _ rfl;have t1:=aM 1 _ rfl;have t2:=aM 2 _ rfl;rw [Aa2] at t0;have HT:=hid (agr h.at_ hv h.deep);obtain⟨n,aR⟩:∃n,n=r.length:=⟨_,rfl⟩
 obtain⟨L,b9⟩:∃L,L=u.funcs.length:=⟨_,rfl⟩
 obtain⟨bn,cf⟩:∃m,m=f.blocks.length:=⟨_,rfl⟩
 obtain⟨fn,aY⟩:∃m,m=t.fn:=⟨_,rfl⟩
 obtain⟨tb,ck⟩:∃m,m=t.blk:=⟨_,rfl⟩
 obtain⟨tp,cm⟩:∃m,m=t.pos:=⟨_,rfl⟩
 obtain⟨st,a7⟩:∃m,m=s.steps:=⟨_,rfl⟩
 obtain⟨ll,bU⟩:∃m,m=x.list.length:=⟨_,rfl⟩
 obtain⟨pl,dx⟩:∃m,m=x.phis.length:=⟨_,rfl⟩
 obtain⟨tl,bp⟩:∃m,m=x.fin.to.length:=⟨_,rfl⟩
 have HX : Hid (∀ V1, Below W.heap.size W V1 -> V1.cell? ⟨WB, 1, none⟩ = some (.slice (some ⟨fb, aX, none⟩) L fc) ∧ V1.cell? ⟨WB, 8, none⟩ = some (.int .i64 (st : Int)) ∧ V1.cell? ⟨g, n * 5, none⟩ = some (.int .i64 (fn : Int)) ∧ V1.cell? ⟨g, n * 5 + 1, none⟩ = some (.int .i64 (tb : Int)) ∧ V1.cell? ⟨g, n * 5 + 2, none⟩ = some (.int .i64 (tp : Int)) ∧
  V1.cell? ⟨fb, aX + fn * 4 + 3, none⟩ = some (.slice (some ⟨xb, aP, none⟩) bn xc) ∧ V1.cell? ⟨xb, aP + tb * 6, none⟩ = some (.slice cX pl cY) ∧ V1.cell? ⟨xb, aP + tb * 6 + 1, none⟩ = some (.slice la ll lc) ∧ V1.cell? ⟨xb, aP + tb * 6 + 2, none⟩ = some (.int .i64 x.fin.kind) ∧ V1.cell? ⟨xb, aP + tb * 6 + 3, none⟩ = some (.bool x.fin.on.reg) ∧ V1.cell? ⟨xb, aP + tb * 6 + 4, none⟩ = some (.int .i64 x.fin.on.n) ∧ V1.cell? ⟨xb, aP + tb * 6 + 5, none⟩ = some (.slice ta tl tc)) := fun V1 hb => by
  rw [aR,b9,cf,aY,ck,cm,a7,bU,dx,bp];exact⟨aab c1 hb,aab c8 hb,aab t0 hb,aab t1 hb,aab t2 hb,aab f3 hb,aab x0 hb,aab x1 hb,aab x2 hb,aab x3 hb,aab x4 hb,aab x5 hb⟩
 have HE:Hid (n=r.length∧L=u.funcs.length∧bn=f.blocks.length∧fn=t.fn∧tb=t.blk∧tp=t.pos∧st=s.steps∧ll=x.list.length∧tl=x.fin.to.length):=⟨aR,b9,cf,aY,ck,cm,a7,bU,bp⟩
 rw [<-aR] at HT;have eg:(fn:Int)<(L:Int):=by rw [aY,b9];omega
 have eC:(tb:Int)<(bn:Int):=by rw [ck,cf];omega
 have eB:(st:Int)<=100000:=by rw [a7];omega
 have eE:(tp:Int)<=(ll:Int):=by rw [cm,bU];have:=h.fw.pos;omega
 have ep:(ll:Int)<=300:=by rw [bU];have:=(h.fo.many x (Aam h.fw.blk)).2;omega
 have H:=hid h;have dO:=hid cO;have dP:=hid cR;have Hv:=hid hv;have bK:=hid ad;clear h ad bY dB dn dm bj cT bk cO cR f3 x0 x1 x2 x3 x4 x5 zb aC c1 c8 hv cJ aM t0 t1 t2 aR b9 cf aY ck cm a7 bU dx bp eA;go_enter Tryz.func31,Tryz.ntmps31;go_upto_region 2 with (go_at_call 53;refine HT.out.mono ?_;rintro e W1 ⟨rfl,ai⟩;have bG:=hid ai;clear ai)
 obtain⟨c1,-,t0,t1,-,f3,x0,x1,x2,x3,x4,x5⟩:=HX.out W1 bG.out;have z1:=aac c1;have z2:=aac t0;have z3:=aac f3;have z4:=aac x0;go_big_region;go_upto_region 3 with (fail)
 obtain⟨W2,cb⟩:∃W2,W2=(W1.alloc (.cells #[.slice cX pl cY,.slice la ll lc,.int .i64 x.fin.kind,.bool x.fin.on.reg,.int .i64 x.fin.on.n,.slice ta tl tc] 59)).drew:=⟨_,rfl⟩
 have dk:Below W1.heap.size W1 W2:=by rw [cb];exact bE
 have bu:W2.heap[W1.heap.size]?=some (.cells #[.slice cX pl cY,.slice la ll lc,.int .i64 x.fin.kind,.bool x.fin.on.reg,.int .i64 x.fin.on.n,.slice ta tl tc] 59 (0,0)):=by rw [cb];exact heap_alloc_new W1 _
 rw [<-cb];have cA:Hid (Below W.heap.size W W2):=bG.out.trans (dk.mono bG.out.size);obtain⟨BB,cF⟩:∃BB,BB=W1.heap.size:=⟨_,rfl⟩
 rw [<-cF] at bu ⊢;have cZ:Hid (W.heap.size<=BB):=by show _<=_;rw [cF];exact bG.out.size
 obtain⟨y0,y1,y2,y3,y4,y5⟩:=(aah (cs:=[_,_,_,_,_,_]) bu).get6;rw [Aab] at y1 y2 y3 y4 y5;clear cb dk bu cF c1 t0 t1 f3 x0 x1 x2 x3 x4 x5 z1 z2 z3 z4 bG;have h2:=H.out.later cA.out;obtain⟨-,c8,-⟩:=HX.out W2 cA.out;have z8:=aac c8;have f8:W2.frozen? ⟨WB,8,none⟩=false:=h2.at_.boxAt.2.2.2 8 (by omega);have eT:WB<W.heap.size:=H.out.at_.boxAt.2.1;have H3:=h2.at_.putSteps (s.steps+1);have bh:aav S W (W2.setCell ⟨WB,8,none⟩ (.int .i64 ((st:Int)+1))):=fun b o v hS hc=>by
  have h1:=aav.below' (S:=S) cA.out b o v hS hc;rw [World.cell?_of_block (w:=W2) (Below.heap_setCell _ _ _ _ (fun e=>(h2.at_.off .box trivial WB (by rw [h2.at_.box];rfl)) (by have e:b=WB:=e;rw [<-e];exact hS)))];exact h1
 have bX:(((s.steps+1:Nat)):Int)=(st:Int)+1:=by rw [HE.out.2.2.2.2.2.2.1];rfl
 rw [bX] at H3;have dT:BB≠WB:=by have:=cZ.out;omega
 have aO:∀o v,W2.cell? ⟨BB,o,none⟩=some v->(W2.setCell ⟨WB,8,none⟩ (.int .i64 ((st:Int)+1))).cell? ⟨BB,o,none⟩=some v:=fun o v hc=>by
  rw [World.cell?_of_block (w:=W2) (Below.heap_setCell _ _ _ _ dT)];exact hc
 have cq:=aO _ _ y0;have cr:=aO _ _ y1;have ct:=aO _ _ y2;have cu:=aO _ _ y3;have cv:=aO _ _ y4;have cw:=aO _ _ y5;obtain⟨W3,cG⟩:∃W3,W3=W2.setCell ⟨WB,8,none⟩ (.int .i64 ((st:Int)+1)):=⟨_,rfl⟩
 rw [<-cG] at H3 bh cq cr ct cu cv cw;have c2:=hid cG;have H3:Hid (adW u G (.slice (some ⟨fb,aX,none⟩) u.funcs.length fc) A S W0 base WB W3 V iv { s with steps:=s.steps+1 } t r f x) :=
  ⟨H3,h2.fr,h2.fw,h2.chk,h2.num,⟨h2.w.frs,h2.w.link,h2.w.deep,h2.w.mem,h2.w.inp,h2.w.out,h2.w.value,h2.w.cnt.more⟩,h2.fF,h2.fA,by have:=HE.out.2.2.2.2.2.2.1;show s.steps+1<=100001;omega⟩
 have dq:g<W.heap.size∧g≠WB:=by
  obtain⟨g',c',e,-,-,h5,-,-⟩:=H.out.at_.topAt H.out.fr;rw [Hv.out] at e;cases e;exact⟨h5,fun e2=>H.out.at_.rows.apart .frs .box trivial trivial (by intro e;cases e) g (by rw [Hv.out];rfl) (by rw [H.out.at_.box,e2];rfl)⟩
 have dN:=hid dq;have bD:=hid bh;clear h2 aO y0 y1 y2 y3 y4 y5 cG bX bh dq;go_upto_region 4 with (fail)
 rw [<-c2.out];clear c2 c8 z8 f8;obtain⟨g',eR,dC,ee,-,-,aM,bR⟩:=H3.out.at_.topAt H3.out.fr;rw [Hv.out] at dC;cases dC;have t2:=aM 2 _ rfl;have cn:=bR 2 (by omega);rw [<-HE.out.1] at t2 cn;rw [<-HE.out.2.2.2.2.2.1] at t2;have zt:=aac t2;have zy:=aac cq;clear aM bR
 by_cases hend:tp=ll
 . have HS:Hid (s.step u=({ s with steps:=s.steps+1 }:RnS).end_ u x.fin):=by
    show _=_;unfold RnS.step;rw [bK.out,H.out.fw.blkR,if_pos (by rw [<-HE.out.2.2.2.2.2.1,<-HE.out.2.2.2.2.2.2.2.1];exact hend)]
   subst hend;go_quiet (fail);obtain⟨W4,aT⟩:∃W4,W4=W3.drewN nq:=⟨_,rfl⟩
   have aH:Below W3.heap.size W3 W4:=by rw [aT];exact bE
   rw [<-aT];have y2:=aab ct aH;have y3:=aab cu aH;have y4:=aab cv aH;have y5:=aab cw aH;have zy:=aac y2;have HQ:=hid ((H3.out.later aH).end_ (S':=S) (ta:=ta) (tc:=tc) ((dP.out.mono aae (fun _ h=>h) bD.out).later aae aH));rw [<-HE.out.2.2.2.2.2.2.2.2] at HQ;clear aT aH t2 cn zt cq cr ct cu cv cw;go_wp2_with (first | (go_at_call 54;refine HQ.out.mono ?_;rintro e aS ⟨rfl,V9,hw⟩;have HF:=hid hw;clear hw));go_ret;rw [HS.out];exact⟨rfl,_,_,HF.out⟩
 . have dv:tp<ll:=by omega
   have bB:tp<x.list.length:=by rw [<-HE.out.2.2.2.2.2.2.2.1];exact dv
   obtain⟨yi,cp⟩:∃y,y=x.list[tp]:=⟨_,rfl⟩
   have HS:Hid (s.step u=({ s with steps:=s.steps+1,frs:={ t with pos:=t.pos+1 } :: r }:RnS).ins u yi):=by
    show _=_;unfold RnS.step;rw [bK.out,H.out.fw.blkR,if_neg (by rw [<-HE.out.2.2.2.2.2.1,<-HE.out.2.2.2.2.2.2.2.1];exact hend),<-HE.out.2.2.2.2.2.1,Aac,Aaa bB,cp];unfold RnS.setTop;show RnS.ins u _ { s with steps:=s.steps+1,frs:=_ :: s.frs.tail }=_;rw [H.out.fr];rfl
   have cK:({ s with steps:=s.steps+1 }:RnS).frs=t :: r:=H.out.fr;have dU:BB≠g:=by have:=cZ.out;have:=dN.out.1;omega
   have er:(tp:Int)<(ll:Int):=by omega
   go_quiet (fail);obtain⟨W4,aT⟩:∃W4,W4=W3.drewN nq:=⟨_,rfl⟩
   have aH:Below W3.heap.size W3 W4:=by rw [aT];exact bE
   rw [<-aT];have H4:=H3.out.later aH
   have H5 := H4.at_.putTop (t' := { t with pos := t.pos + 1 }) cK Hv.out (j := 2) (by omega) (.int .i64 ((tp : Int) + 1)) (by
    show _ = [Value.int .i64 (t.fn : Int), .int .i64 (t.blk : Int), .int .i64 ((tp : Int) + 1), V (.regs r.length), .int .i64 t.dst]
    rw [HE.out.2.2.2.2.2.1]; rfl) rfl
   rw [<-HE.out.1] at H5;have bo:aav S W (W4.setCell ⟨g,n * 5+2,none⟩ (.int .i64 ((tp:Int)+1))):=fun b o v hS hc=>by
    have h0:=bD.out b o v hS hc;have h1:=aav.below' (S:=S) aH b o v hS h0;rw [World.cell?_of_block (w:=W4) (Below.heap_setCell _ _ _ _ (fun e=>(H4.at_.off .frs trivial g (by rw [Hv.out];rfl)) (by have e:b=g:=e;rw [<-e];exact hS)))];exact h1
   have y1:=aab cr aH;have dG:(W4.setCell ⟨g,n * 5+2,none⟩ (.int .i64 ((tp:Int)+1))).cell? ⟨BB,1,none⟩=some (.slice la ll lc):=by
    rw [World.cell?_of_block (w:=W4) (Below.heap_setCell _ _ _ _ dU)];exact y1
   have t24:=aab t2 aH;have eN:=aac t24;have cS:W4.frozen? ⟨g,n * 5+2,none⟩=false:=by rw [World.frozen?_of_block (w:=W3) (aH.block g zt)];exact cn
   have t25:(W4.setCell ⟨g,n * 5+2,none⟩ (.int .i64 ((tp:Int)+1))).cell? ⟨g,n * 5+2,none⟩=some (.int .i64 ((tp:Int)+1)):=by
    rw [aap t24,if_pos rfl]
   obtain⟨W5,cH⟩:∃W5,W5=W4.setCell ⟨g,n * 5+2,none⟩ (.int .i64 ((tp:Int)+1)):=⟨_,rfl⟩
   rw [<-cH] at H5 bo dG t25;obtain⟨lb,eK,cs,rfl,-,⟨av,rfl,cc,-⟩,-,bA⟩:=(dO.out.mono aa6 (fun _ h=>h) bo).get bB;rw [<-cp] at cc bA;obtain⟨aa,ac,rfl,-⟩:=cc.val;obtain⟨e0,e1,e2,e3,e4,e5,e6,e7⟩:=bA.get8;have zl:=aac e0;have ff:=aac dG;have fe:=aac t25;have dF:yi∈x.list:=by rw [cp];exact Aaf bB
   have H5:adW u G (.slice (some ⟨fb,aX,none⟩) u.funcs.length fc) A S W0 base WB W5 V iv { s with steps:=s.steps+1,frs:={ t with pos:=t.pos+1 } :: r } { t with pos:=t.pos+1 } r f x :=
    ⟨H5, rfl, ⟨H4.fw.fn, H4.fw.blk, by show t.pos + 1 <= _; rw [<- HE.out.2.2.2.2.2.1]; exact bB, H4.fw.regs, H4.fw.num, H4.fw.low⟩, H4.chk, H4.num,
      ⟨fun c hc => by
        rcases Aaw.1 hc with rfl | hc
        . exact ⟨f, x, H4.fw.fn, H4.fw.blk, by show t.pos + 1 <= _; rw [<- HE.out.2.2.2.2.2.1]; exact bB, H4.fw.regs, H4.fw.num, H4.fw.low⟩
        . exact H4.w.frs c (by rw [H4.fr]; exact Abb _ hc),
       by have h := H4.w.link; rw [H4.fr] at h; exact h.same rfl, by have h := H4.w.deep; rw [H4.fr] at h; exact h, H4.w.mem, H4.w.inp, H4.w.out, H4.w.value, H4.w.cnt⟩, H4.fF, H4.fA, H4.steps⟩
   have hQ:=fun W6 bz=>(H5.later (W':=W6) bz).ins dF (cc.later aaw bz);have HQ:=hid hQ;obtain⟨an,dj⟩:∃n,n=yi.args.length:=⟨_,rfl⟩
   rw [<-dj] at e7 HQ;have c3:=hid cH;have eD:(0:Int)<=(tp:Int):=by omega
   clear aT aH H4 H5 bo y1 t2 cn zt cq cr ct cu cv cw cH cc bA cp dF hQ dj bB hend dv;go_upto_region 7 with (fail)
   rw [<-c3.out];clear c3 t24 eN cS;have eZ:IntKind.i64.wrap (tp:Int)=(tp:Int):=by rw [IntKind.wrap_i64];omega
   go_still_tail 10,(by kernel_rfl);change wpList _ _ _ _ _ W5.drew;have bz:Below W5.heap.size W5 W5.drew:=(Below.refl _ _).drew;obtain⟨W6,dh⟩:∃W6,W6=W5.drew:=⟨_,rfl⟩
   rw [<-dh] at bz ⊢;have cx:=hid (HQ.out W6 bz);clear HQ bz dh;go_wp2_with (first | (go_at_call 55;refine cx.out.mono ?_;rintro e aS ⟨rfl,V9,e9,hw⟩;have HF:=hid hw;clear hw));go_ret;rw [HS.out];exact⟨rfl,_,_,HF.out⟩
end
end
section
open Go.RowKit
abbrev BPth:=Option WPth
def bTy : BPth -> TypeId
 | none=>27
 | some p=>p.ty
def bSz : BPth -> Nat
 | none=>1
 | some p=>p.sz
def aiJ (K : Nat) : BPth -> Prop
 | none=>True
 | some .box=>True
 | some .mem=>True
 | some .cnts=>True
 | some (.cnt k)=>k<K
 | _=>False
def ajA(G F iv:Value)(V:BPth->Value):List Value:=[G,F,V none,V (some .mem),iv,.int .i64 0,.int .i64 0,.slice none 0 0,.int .i64 0,.slice none 0 0,V (some .cnts)]
def bdC (G F iv : Value) (V : BPth -> Value) (m : List Int) (aB : List Value) (cs : List (List Int)) : BPth -> List (List Value)
 | none=>aB.map fun v=>[v]
 | some .box=>[ajA G F iv V]
 | some .mem=>aaF m
 | some .cnts=>(List.range cs.length).map fun k=>[V (some (.cnt k))]
 | some (.cnt k)=>aaF (cs.getD k [])
 | _=>[]
structure adm (G F iv:Value)(W0:World)(base WB:Nat)(W:World)(V:BPth->Value)(m:List Int)(aB:List Value)(cs:List (List Int)):Prop where
 rows:abg bTy bSz W base (aiJ cs.length) V (bdC G F iv V m aB cs)
 box:V (some .box) = .slice (some ⟨WB,0,none⟩) 1 1
 low:Below base W0 W
 hb:base<=W0.heap.size
section
variable {G F iv : Value} {W0 : World} {base WB : Nat} {W W' : World} {V : BPth -> Value} {m : List Int} {aB : List Value} {cs : List (List Int)}
theorem adm.later(h:adm G F iv W0 base WB W V m aB cs)(hb:Below W.heap.size W W'):adm G F iv W0 base WB W' V m aB cs :=
 ⟨h.rows.later hb,h.box,h.low.trans (hb.mono (Aag h.hb h.low.size)),h.hb⟩
theorem adm.boxAt(h:adm G F iv W0 base WB W V m aB cs):base<=WB∧WB<W.heap.size∧aaj W WB 0 (ajA G F iv V)∧∀j,j<11->W.frozen? ⟨WB,j,none⟩=false:=by
 have ez:aiJ cs.length (some .box):=trivial;have hc:∀j v,(ajA G F iv V)[j]?=some v->base<=WB∧WB<W.heap.size∧W.cell? ⟨WB,j,none⟩=some v∧W.frozen? ⟨WB,j,none⟩=false:=fun j v hj=>by
  obtain⟨g,c,e,-,h1,h2,h3,h4⟩:=h.rows.cell ez (i:=0) (j:=j) (cs:=ajA G F iv V) (u:=v) rfl hj;rw [h.box] at e;cases e;rw [Nat.zero_mul,Aab] at h3 h4;exact⟨h1,h2,h3,h4⟩
 obtain⟨h1,h2,-,-⟩:=hc 0 _ rfl;refine⟨h1,h2,fun j v hj=>?_,fun j hj=>?_⟩
 . rw [Aab];exact (hc j v hj).2.2.1
 . have hl:(ajA G F iv V).length=11:=rfl
   exact (hc j _ (Aaa (by omega))).2.2.2
variable {p:BPth}
theorem adm.far(h:adm G F iv W0 base WB W V m aB cs)(hp:aiJ cs.length p)(a6:p≠some .box):(V p).ownBlock≠some WB :=
 fun e=>h.rows.apart p (some .box) hp trivial a6 WB e (by rw [h.box];rfl)
theorem adm.boxGrown(h:adm G F iv W0 base WB W V m aB cs)(hp:aiJ cs.length p)(a6:p≠some .box)(hg:W.grownBy W' (V p).ownBlock):aaj W' WB 0 (ajA G F iv V)∧∀j,j<11->W'.frozen? ⟨WB,j,none⟩=false:=by
 obtain⟨-,hz,hc,hf⟩:=h.boxAt;have aU:=hg.block WB hz fun e=>h.far hp a6 e.symm;exact⟨fun j v hj=>by rw [World.cell?_of_block (w:=W) aU];exact hc j v hj,fun j hj=>by rw [World.frozen?_of_block (w:=W) aU];exact hf j hj⟩
theorem adm.lowGrown(h:adm G F iv W0 base WB W V m aB cs)(hp:aiJ cs.length p)(hg:W.grownBy W' (V p).ownBlock):Below base W0 W':=by
 obtain⟨g1,g2,g3,g4,g5⟩:=hg;refine h.low.trans ⟨g1,g2,g3,g4,fun k hk=>?_⟩;exact g5 k (Aap hk (Aag h.hb h.low.size)) fun e=>by have:=(h.rows.lt hp k e.symm).1;omega
variable {v':Value}
theorem adm.turnRow(h : adm G F iv W0 base WB W V m aB cs)  (hp : aiJ cs.length p) (a6 : p ≠ some .box)  {xss : List (List Value)} (ho : W'.ownsRow base (bTy p) (bSz p) v' xss.length xss.flatten) (hw : ∀ cs ∈ xss, cs.length = bSz p)
 (hg:W.grownBy W' (V p).ownBlock) (hb:∀k,v'.ownBlock=some k->(V p).ownBlock=some k∨W.heap.size<=k) {j:Nat} (hj:j<11) {m':List Int} {avs':List Value}
 (hC:∀q,aiJ cs.length q->bdC G F iv (abW V p v') m' avs' cs q=abW (abW (bdC G F iv V m aB cs) p xss) (some .box) [(ajA G F iv V).set j v'] q) :
 adm G F iv W0 base WB (W'.setCell ⟨WB,j,none⟩ v') (abW V p v') m' avs' cs:=by
 have hr:=h.rows.turn hp ho hw hg hb;have bZ:abW V p v' (some .box) = .slice (some ⟨WB,0,none⟩) 1 1:=by rw [aai _ _ (Ne.symm a6)];exact h.box
 have eh:(abW (bdC G F iv V m aB cs) p xss (some .box))[0]?=some (ajA G F iv V):=by rw [aai _ _ (Ne.symm a6)];rfl
 have dy:=hr.set (p:=some .box) trivial bZ eh (j:=j) hj v';have h0:0 * bSz (some .box)+j=j:=by rw [Nat.zero_mul,Aab]
 rw [h0] at dy;refine⟨dy.congr (fun q _=>rfl) fun q hq=>?_,bZ,(h.lowGrown hp hg).setCell h.boxAt.1 v',h.hb⟩;rw [hC q hq]
 by_cases e:q=some .box
 . subst e
   rw [aar,aar,aai _ _ (Ne.symm a6)];rfl
 . rw [aai _ _ e,aai _ _ e]
theorem adm.turnMem(h:adm G F iv W0 base WB W V m aB cs){m':List Int}(ho:W'.ownsRow base 3 1 v' m'.length (m'.map (Value.int .i64)))(hg:W.grownBy W' (V (some .mem)).ownBlock)(hb:∀k,v'.ownBlock=some k->(V (some .mem)).ownBlock=some k∨W.heap.size<=k) :
 adm G F iv W0 base WB (W'.setCell ⟨WB,3,none⟩ v') (abW V (some .mem) v') m' aB cs:=by
 refine h.turnRow (p:=some .mem) trivial (by intro e;cases e) (xss:=aaF m') (by rw [abm,abi];exact ho) (aey _) hg hb (by omega) fun q hq=>?_
 match q,hq with
 | none,_=>rw [aai _ _ (by intro e;cases e),aai _ _ (by intro e;cases e)];rfl
 | some .box,_=>rw [aar];rfl
 | some .mem,_=>rw [aai _ _ (by intro e;cases e),aar];rfl
 | some .cnts,_=>rw [aai _ _ (by intro e;cases e),aai _ _ (by intro e;cases e)];rfl
 | some (.cnt k),_=>rw [aai _ _ (by intro e;cases e),aai _ _ (by intro e;cases e)];rfl
theorem acS(l:List Value):(l.map fun v=>[v]).flatten=l:=by
 induction l with
 | nil=>rfl
 | cons x l ih=>rw [Aa9,Abm,ih];rfl
theorem adm.turnAhd(h:adm G F iv W0 base WB W V m aB cs){avs':List Value}(ho:W'.ownsRow base 27 1 v' avs'.length avs')(hg:W.grownBy W' (V none).ownBlock)(hb:∀k,v'.ownBlock=some k->(V none).ownBlock=some k∨W.heap.size<=k) :
 adm G F iv W0 base WB (W'.setCell ⟨WB,2,none⟩ v') (abW V none v') m avs' cs:=by
 refine h.turnRow (p:=none) trivial (by intro e;cases e) (xss:=avs'.map fun v=>[v]) (by rw [acS,Aal];exact ho) (fun c hc=>by obtain⟨v,-,rfl⟩:=Aau.1 hc;rfl) hg hb (by omega) fun q hq=>?_
 match q,hq with
 | none,_=>rw [aai _ _ (by intro e;cases e),aar];rfl
 | some .box,_=>rw [aar];rfl
 | some .mem,_=>rw [aai _ _ (by intro e;cases e),aai _ _ (by intro e;cases e)];rfl
 | some .cnts,_=>rw [aai _ _ (by intro e;cases e),aai _ _ (by intro e;cases e)];rfl
 | some (.cnt k),_=>rw [aai _ _ (by intro e;cases e),aai _ _ (by intro e;cases e)];rfl
theorem ajP {K:Nat}{q:BPth}(hq:aiJ (K+1) q):aiJ K q∨q=some (.cnt K):=by
 match q,hq with
 | none,_=>exact .inl trivial
 | some .box,_=>exact .inl trivial
 | some .mem,_=>exact .inl trivial
 | some .cnts,_=>exact .inl trivial
 | some (.cnt k),hq =>
   have hk:k<K+1:=hq
   by_cases e:k=K
   . exact .inr (by rw [e])
   . exact .inl (show k<K by omega)
theorem adm.pushCnt (h : adm G F iv W0 base WB W V m aB cs) {W1 W2 : World} {rv fv : Value} {l : List Int} (ai : Below W.heap.size W W1) (ew : W1.ownsRow W.heap.size 3 1 rv l.length (l.map (Value.int .i64)))
 (ey:W2.ownsRow base 26 1 fv (cs.length+1) (((List.range cs.length).map fun k=>V (some (.cnt k)))++[rv]))
 (hg:W1.grownBy W2 (V (some .cnts)).ownBlock) (hb:∀k,fv.ownBlock=some k->(V (some .cnts)).ownBlock=some k∨W1.heap.size<=k) :
 adm G F iv W0 base WB (W2.setCell ⟨WB,10,none⟩ fv) (abW (abW V (some (.cnt cs.length)) rv) (some .cnts) fv) m aB (cs++[l]):=by
 have aI:base<=W.heap.size:=Aag h.hb h.low.size;have dV:=h.rows.fresh (some (.cnt cs.length)) (v:=rv) (n:=l.length) (xss:=aaF l) (by rw [abm];exact ew) (abi _) (aey _) ai aI;have dg:abW V (some (.cnt cs.length)) rv (some .cnts)=V (some .cnts):=aai _ _ (by intro e;cases e);obtain⟨xss,a8⟩:∃xss:List (List Value),xss=(((List.range cs.length).map fun k=>V (some (.cnt k)))++[rv]).map fun v=>[v]:=⟨_,rfl⟩
 have eG:xss.length=cs.length+1:=by rw [a8,Aal,Aai,Aal,List.length_range];rfl
 have dW:=dV.turn (p:=some .cnts) (.inl trivial) (v':=fv) (xss:=xss) (by rw [eG,a8,acS];exact ey) (fun c hc=>by rw [a8] at hc;obtain⟨v,-,rfl⟩:=Aau.1 hc;rfl) (by rw [dg];exact hg) (fun k hk=>by rw [dg];exact hb k hk);have bZ:abW (abW V (some (.cnt cs.length)) rv) (some .cnts) fv (some .box) = .slice (some ⟨WB,0,none⟩) 1 1:=by rw [aai _ _ (by intro e;cases e),aai _ _ (by intro e;cases e)];exact h.box
 have eb:(abW (abW (bdC G F iv V m aB cs) (some (.cnt cs.length)) (aaF l)) (some .cnts) xss (some .box))[0]?=some (ajA G F iv V):=by
  rw [aai _ _ (by intro e;cases e),aai _ _ (by intro e;cases e)];rfl
 have df:=dW.set (p:=some .box) (.inl trivial) bZ eb (j:=10) (by show 10<11;omega) fv;have h0:0 * bSz (some .box)+10=10:=by rw [Nat.zero_mul,Aab]
 rw [h0] at df;obtain⟨g1,g2,g3,g4,g5⟩:=hg;have cN:Below base W W2:=(ai.mono aI).trans ⟨g1,g2,g3,g4,fun k hk=>g5 k (by have:=ai.size;omega) fun e=>by have:=(h.rows.lt (p:=some .cnts) trivial k e.symm).1;omega⟩;have hlen:(cs++[l]).length=cs.length+1:=by rw [Aai];rfl
 refine⟨?_,bZ,(h.low.trans cN).setCell h.boxAt.1 fv,h.hb⟩;rw [hlen];refine (df.less (ok':=aiJ (cs.length+1)) fun q hq=>ajP hq).congr (fun q _=>rfl) fun q hq=>?_
 match q,hq with
 | none,_=>rw [aai _ _ (by intro e;cases e),aai _ _ (by intro e;cases e),aai _ _ (by intro e;cases e)];rfl
 | some .box,_ =>
   rw [aar,aai _ _ (by intro e;cases e),aai _ _ (by intro e;cases e)];show [ajA G F iv _]=[(ajA G F iv V).set 10 fv];unfold ajA;rw [aar];simp only [aai _ _ (show (none:BPth)≠some .cnts by intro e;cases e),aai _ _ (show (some WPth.mem:BPth)≠some .cnts by intro e;cases e),aai _ _ (show (none:BPth)≠some (.cnt cs.length) by intro e;cases e),aai _ _ (show (some WPth.mem:BPth)≠some (.cnt cs.length) by intro e;cases e)];rfl
 | some .mem,_=>rw [aai _ _ (by intro e;cases e),aai _ _ (by intro e;cases e),aai _ _ (by intro e;cases e)];rfl
 | some .cnts,_ =>
   rw [aai _ _ (by intro e;cases e),aar,a8];show (List.range (cs++[l]).length).map _=_;rw [hlen,Abo,Aav,Aav,List.map_map]
   congr 1
   . refine Ab0 fun k hk=>?_
     have eW:=List.mem_range.1 hk;rw [aai _ _ (by intro e;cases e),aai _ _ (by intro e;cases e;omega)];rfl
   . show [[_]]=[[rv]]
     rw [aai _ _ (by intro e;cases e),aar]
 | some (.cnt k),hq =>
   rw [aai _ _ (by intro e;cases e),aai _ _ (by intro e;cases e)];show aaF ((cs++[l]).getD k [])=_
   by_cases e:k=cs.length
   . subst e
     rw [aar,Aac,Ab1 (Aad _),Nat.sub_self];rfl
   . have hk:k<cs.length+1:=hq
     rw [aai _ _ (by intro e2;cases e2;exact e rfl),Aac,Abi (by omega),<-Aac];rfl
theorem adm.start {W0 W:World}{base:Nat}(hb:base<=W0.heap.size)(hl:Below base W0 W)(G F iv:Value) :
 ∃V,adm G F iv W0 base W.heap.size (W.alloc (.cells #[G,F,.slice none 0 0,.slice none 0 0,iv,.int .i64 0,.int .i64 0,.slice none 0 0,.int .i64 0,.slice none 0 0,.slice none 0 0] 78)) V [] [] []∧V none = .slice none 0 0∧V (some .mem) = .slice none 0 0∧V (some .cnts) = .slice none 0 0:=by
 obtain⟨V0,dX⟩:∃V0:BPth->Value,V0=fun _ => .slice none 0 0:=⟨_,rfl⟩
 have hn:∀p,V0 p = .slice none 0 0:=fun p=>by rw [dX]
 have h0:abg bTy bSz W base (fun p=>aiJ 0 p∧p≠some .box) V0 (fun _=>[]) :=
  ⟨fun p _=>by rw [hn];exact World.ownsRow_nil W base _ _,fun p _ cs h=>(by cases h),fun p q _ _ _ k hk=>by rw [hn] at hk;cases hk⟩
 have aI:base<=W.heap.size:=Aag hb hl.size;have h1:=h0.box (some .box) (cs:=[G,F,.slice none 0 0,.slice none 0 0,iv,.int .i64 0,.int .i64 0,.slice none 0 0,.int .i64 0,.slice none 0 0,.slice none 0 0]) rfl aI;refine⟨abW V0 (some .box) (.slice (some ⟨W.heap.size,0,none⟩) 1 1),⟨(h1.less fun p hp=>?_).congr (fun _ _=>rfl) fun q hq=>?_,aar _ _ _,hl.trans ((Below.refl W.heap.size W).alloc (Aad _) _ |>.mono aI),hb⟩,by rw [aai _ _ (by intro e;cases e),hn],by rw [aai _ _ (by intro e;cases e),hn],by rw [aai _ _ (by intro e;cases e),hn]⟩
 . by_cases e:p=some .box
   . exact .inr e
   . exact .inl ⟨hp,e⟩
 . match q,hq with
   | none,_=>rw [aai _ _ (by intro e;cases e)];rfl
   | some .box,_ =>
     rw [aar];show [ajA G F iv _]=_;unfold ajA;rw [aai _ _ (by intro e;cases e),aai _ _ (by intro e;cases e),aai _ _ (by intro e;cases e),hn,hn,hn]
   | some .mem,_=>rw [aai _ _ (by intro e;cases e)];rfl
   | some .cnts,_=>rw [aai _ _ (by intro e;cases e)];rfl
theorem adm.wk(h:adm G F iv W0 base WB W V m aB cs){u:aaC}{inp:List Int}{X:Nat->Prop}(hX:∀b,X b->b<W.heap.size∧∀p,aiJ cs.length p->p≠none->(V p).ownBlock≠some b)(hF:SlAt X W 4 aaZ F u.funcs)(hA:SlAt X W 1 anB (V none) (u.funcs.map fun f=>aheadF f.blocks))(hi:SlAt X W 1 aaO iv inp) :
 ∃V',aaQ u G F (V none) X W0 base WB W V' iv ⟨m,inp,[],0,0,0,[],cs⟩:=by
 obtain⟨V',aA⟩:∃V':WPth->Value,V'=fun p=>match p with | .out => .slice none 0 0 | .frs => .slice none 0 0 | .regs _ => .slice none 0 0 | p=>V (some p):=⟨_,rfl⟩
 have aC:V' .box = .slice (some ⟨WB,0,none⟩) 1 1:=by rw [aA];exact h.box
 refine⟨V',⟨⟨fun p hp=>?_,fun p hp=>?_,fun p q hp hq aR k hk=>?_⟩,aC,h.low,⟨hF,hA,hi⟩,fun b hb=>(hX b hb).1,fun p hp k hk dY=>?_,h.hb⟩⟩
 . cases p with
   | box=>have h1:=h.rows.own (some .box) trivial;rw [aA];exact h1
   | mem=>have h1:=h.rows.own (some .mem) trivial;rw [aA];exact h1
   | cnts=>have h1:=h.rows.own (some .cnts) trivial;rw [aA];exact h1
   | cnt k=>have h1:=h.rows.own (some (.cnt k)) hp;rw [aA];exact h1
   | out=>rw [aA];exact World.ownsRow_nil W base _ _
   | frs=>rw [aA];exact World.ownsRow_nil W base _ _
   | regs i=>exact absurd hp (Nat.not_lt_zero _)
 . cases p with
   | box=>have h1:=h.rows.wid (some .box) trivial;rw [aA];exact h1
   | mem=>exact h.rows.wid (some .mem) trivial
   | cnts=>have h1:=h.rows.wid (some .cnts) trivial;rw [aA];exact h1
   | cnt k=>exact h.rows.wid (some (.cnt k)) hp
   | out=>intro c hc;cases hc
   | frs=>intro c hc;cases hc
   | regs i=>exact absurd hp (Nat.not_lt_zero _)
 . have dw:∀p k,okW 0 cs.length p->(V' p).ownBlock=some k->aiJ cs.length (some p)∧(V (some p)).ownBlock=some k:=fun p k hp hk=>by
    cases p with
    | box=>rw [aA] at hk;exact⟨trivial,hk⟩
    | mem=>rw [aA] at hk;exact⟨trivial,hk⟩
    | cnts=>rw [aA] at hk;exact⟨trivial,hk⟩
    | cnt j=>rw [aA] at hk;exact⟨hp,hk⟩
    | out=>rw [aA] at hk;cases hk
    | frs=>rw [aA] at hk;cases hk
    | regs i=>exact absurd hp (Nat.not_lt_zero _)
   intro e;obtain⟨a1,a2⟩:=dw p k hp hk;obtain⟨b1,b2⟩:=dw q k hq e;exact h.rows.apart _ _ a1 b1 (fun e=>aR (Option.some.inj e)) k a2 b2
 . have hx:=(hX k dY).2
   cases p with
   | box=>rw [aA] at hk;exact hx (some .box) trivial (by intro e;cases e) hk
   | mem=>rw [aA] at hk;exact hx (some .mem) trivial (by intro e;cases e) hk
   | cnts=>rw [aA] at hk;exact hx (some .cnts) trivial (by intro e;cases e) hk
   | cnt j=>rw [aA] at hk;exact hx (some (.cnt j)) hp (by intro e;cases e) hk
   | out=>rw [aA] at hk;cases hk
   | frs=>rw [aA] at hk;cases hk
   | regs i=>exact absurd hp (Nat.not_lt_zero _)
end
end
end Go.Proofs.YtnkfdeiigplhoaaGreatDoor
