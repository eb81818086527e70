import Derived.Test.YtgekbfgplclmeaaDoorPRunN
import Derived.Test.YtgekbfgplclmeaaDoorPTwo
/- The walker does an instruction. -/
set_option maxHeartbeats 4000000
set_option maxRecDepth 100000
namespace Go.Proofs.YtgekbfgplclmeaaDoor
open Go.RowKit Go.Sort
section
variable {u : aax} {G F A : Value} {S : Nat -> Prop} {W0 : World} {base WB : Nat} {W : World} {V : WPth -> Value} {iv : Value} {s : RnS} {t : RnF} {r : List RnF} {f : aal} {x : aad}
theorem aeH {W:World}{base sz n:Nat}{e:TypeId}{v:Value}{xs:List Value}(h:W.ownsRow base e sz v n xs):∃a c,v = .slice a n c∧n<=maxLen:=by
 rcases h.2 with⟨h1,h2⟩ | ⟨g,cap,cur,e1,-,-,h2,h3,-⟩
 . exact⟨none,0,by rw [h1,h2],by rw [h2];unfold maxLen;omega⟩
 . exact⟨_,_,e1,by omega⟩
theorem aaG.memRow(h:aaG u G F A S W0 base WB W V iv s):∃ma mc,V .mem = .slice ma s.mem.length mc∧(s.mem.length:Int)<=9223372036854775807:=by
 obtain⟨a,c,e,hl⟩:=aeH (h.rows.own .mem trivial);have e2:(walkC G F A iv V s .mem).length=s.mem.length:=aa0 _;rw [e2] at e hl;unfold maxLen at hl;exact⟨a,c,e,by omega⟩
theorem aaG.outRow(h:aaG u G F A S W0 base WB W V iv s):∃ma mc,V .out = .slice ma s.out.length mc:=by
 obtain⟨a,c,e,hl⟩:=aeH (h.rows.own .out trivial);have e2:(walkC G F A iv V s .out).length=s.out.length:=aa0 _;rw [e2] at e;exact⟨a,c,e⟩
variable {y:abo}{S':Nat->Prop}{aa:Option Addr}{ac:Nat}
theorem ac7.ins_load(h:ac7 u G F A S W0 base WB W V iv s t r f x)(hy:y∈x.list)(hop:y.op=18)(ha:SlAt S' W 2 aeL (.slice aa y.args.length ac) y.args) :
 Calls Tryd.prog 45 #[.pointer (some ⟨WB,0,none⟩),.agg #[.int .i64 18,.int .i64 y.dst,.bool y.a.reg,.int .i64 y.a.n,.bool y.b.reg,.int .i64 y.b.n,.int .i64 y.fn,.slice aa y.args.length ac]] W fun e w' =>
  e = .returned (.bool (s.ins u y).2)∧∃V' iv',aaG u G F A S W0 base WB w' V' iv' (s.ins u y).1:=by
 have af:s.top=t:=by unfold RnS.top;rw [h.fr];rfl
 have ho:=h.fo.ins _ x h.fw.blk y hy;obtain⟨n1,n2⟩:I64 y.a.n∧I64 y.b.n:=by
  have h2:=(h.num.vals f (Aah h.fw.fn) x (Aah h.fw.blk)).2.1 y hy;exact⟨h2.1,h2.2.1⟩
 obtain⟨al,an⟩:∃n,n=y.args.length:=⟨_,rfl⟩
 rw [<-an] at ha ⊢;obtain⟨W1,ai⟩:∃W1,W1=W.alloc (.cells #[.int .i64 18,.int .i64 y.dst,.bool y.a.reg,.int .i64 y.a.n,.bool y.b.reg,.int .i64 y.b.n,.int .i64 y.fn,.slice aa al ac] 63):=⟨_,rfl⟩
 have ar:Below W.heap.size W W1:=by rw [ai];exact bE
 have aD:W1.heap[W.heap.size]?=some (.cells #[.int .i64 18,.int .i64 y.dst,.bool y.a.reg,.int .i64 y.a.n,.bool y.b.reg,.int .i64 y.b.n,.int .i64 y.fn,.slice aa al ac] 63 (0,0)):=by rw [ai];exact heap_alloc_new _ _
 obtain⟨x0,x1,x2,x3,x4,x5,x6,x7⟩:=(aar (cs:=[_,_,_,_,_,_,_,_]) aD).get8;rw [Aac] at x1 x2 x3 x4 x5 x6 x7;obtain⟨XB,aq⟩:∃XB,XB=W.heap.size:=⟨_,rfl⟩
 rw [<-aq] at x0 x1 x2 x3 x4 x5 x6 x7;have zX:=aac x0;have HW:Hid (W1=W.alloc (.cells #[.int .i64 18,.int .i64 y.dst,.bool y.a.reg,.int .i64 y.a.n,.bool y.b.reg,.int .i64 y.b.n,.int .i64 y.fn,.slice aa al ac] 63)∧XB=W.heap.size):=⟨ai,aq⟩
 have H1:=hid (h.later ar);have Ha:=hid (ha.later aap ar);obtain⟨VA,ae⟩:∃z,z=aaX t.regs y.a:=⟨_,rfl⟩
 obtain⟨VB,ag⟩:∃z,z=aaX t.regs y.b:=⟨_,rfl⟩
 have aS:Hid (VA=aaX t.regs y.a∧I64 VA):=⟨ae,by rw [ae];exact aaE h.fw.num n1⟩
 have aT:Hid (VB=aaX t.regs y.b∧I64 VB):=⟨ag,by rw [ag];exact aaE h.fw.num n2⟩
 have aA:Hid (∀m d os,CallsIn Fence.wide m Tryd.prog 69 #[.pointer (some ⟨WB,0,none⟩),.agg #[.bool y.a.reg,.int .i64 y.a.n]] (grow (redrawn W1 d) os) fun e aw=>e = .returned (.int .i64 VA)∧∃p:Regrown,aw=grow (redrawn W1 p.d) p.os):=fun m d os=>by
  have h:=(H1.out.later (below_regrown W1 d os)).val ho.a;rw [<-ae] at h;exact CallsIn.regrown_of (callsIn_wide (n:=m).2 h)
 have aB:Hid (∀(q:Regrown) m d os,CallsIn Fence.wide m Tryd.prog 69 #[.pointer (some ⟨WB,0,none⟩),.agg #[.bool y.b.reg,.int .i64 y.b.n]] (grow (redrawn W1 d) os) fun e aw=>e = .returned (.int .i64 VB)∧∃p:Regrown,aw=grow (redrawn W1 p.d) p.os):=fun _ m d os=>by
  have h:=(H1.out.later (below_regrown W1 d os)).val ho.b;rw [<-ag] at h;exact CallsIn.regrown_of (callsIn_wide (n:=m).2 h)
 have r2:=cell_regrown x2;have r3:=cell_regrown x3;have r4:=cell_regrown x4;have r5:=cell_regrown x5;have HX:Hid (∀W5,Below W1.heap.size W1 W5->W5.cell? ⟨XB,0,none⟩=some (.int .i64 18)∧W5.cell? ⟨XB,1,none⟩=some (.int .i64 y.dst)∧W5.cell? ⟨XB,6,none⟩=some (.int .i64 y.fn)∧W5.cell? ⟨XB,7,none⟩=some (.slice aa al ac)):=fun W5 hb=>⟨aab x0 hb,aab x1 hb,aab x6 hb,aab x7 hb⟩
 have aE:=hid h.fr;have ad:=hid h.deep;have Ho:=hid ho;have Hy:=hid hy;have a6:=hid hop;have aO:=hid an;have ax:Hid (y.dst<(t.regs.length:Int)):=by
  have h1:=ho.dst.2;have h2:=h.fw.regs;have h3:=h.fo.pr;show y.dst<(t.regs.length:Int);omega
 have HS:Hid (s.ins u y=if 0<=VA∧VA<=(s.mem.length:Int) - 1 then (s.set y.dst (s.mem.getD VA.toNat 0),true) else (s.stop 3,false)):=by
  show _=_;unfold RnS.ins;rw [hop,af,<-ae,<-ag];rfl
 clear h af ho n1 n2 ar aD ai aq ae ag ha an hy hop;go_enter Tryd.func45,Tryd.ntmps45;go_upto_region 1 with (fail)
 rw [<-HW.out.1,<-HW.out.2];clear HW;refine aaw (by kernel_rfl) (by kernel_rfl) ?_
 repeat (gi_big_quiet_step (fail))
 refine wpQuietIn_step (fun _ _ _ _=>trivial) (fun K hK=>?_);go_simp;refine⟨_,fun _=>aA.out _ _ _,hK _ ?_⟩;clear hK K
 repeat (gi_big_quiet_step (fail))
 refine wpQuietIn_step (fun _ _ _ _=>trivial) (fun K hK=>?_);go_simp;refine⟨_,fun q=>aB.out q _ _ _,hK _ ?_⟩;clear hK K
 repeat (gi_big_quiet_step (fail))
 refine wpQuietIn_nil ?_;intro W7 aI;obtain⟨rg,aC⟩:=aI;have au:Below W1.heap.size W1 W7:=by rw [aC];exact below_regrown _ _ _
 have H7:=hid (H1.out.later au);have aG:=hid au;clear aC au r2 r3 r4 r5 x0 x1 x2 x3 x4 x5 x6 x7 zX aA aB;obtain⟨c0,c1,c6,c7⟩:=HX.out W7 aG.out;have zX:=aac c0;obtain⟨ma,mc,hm,bK⟩:=H7.out.at_.memRow;obtain⟨-,zW,aH,aL⟩:=H7.out.at_.boxAt;have b3:=aH 3 _ rfl;rw [Aac,hm] at b3;obtain⟨ml,aF⟩:∃n,n=s.mem.length:=⟨_,rfl⟩
 rw [<-aF] at b3 bK;have aJ:=hid aF;have cI:IntKind.i64.wrap ((ml:Int) - 1)=(ml:Int) - 1:=by rw [IntKind.wrap_i64];omega
 have Hm:=hid hm;clear aH aL aF hm
 by_cases hin:0<=VA∧VA<=(ml:Int) - 1
 . obtain⟨k,rfl⟩:∃k:Nat,VA=(k:Int):=Aao hin.1
   have bk:k<s.mem.length:=by have:=aJ.out;omega
   have cB:(k:Int)<(ml:Int):=by omega
   have cz:(0:Int)<=(k:Int):=by omega
   have cA:(k:Int)<=(ml:Int) - 1:=by omega
   have aj:=HS.out.trans (if_pos (by rw [<-aJ.out];exact hin));obtain⟨mv,aQ⟩:∃z,s.mem[k]?=some z:=⟨_,Aaa bk⟩
   obtain⟨MB,cM,bm,-,-,-,bH,cv⟩:=H7.out.at_.numAt (p := .mem) trivial rfl (l:=s.mem) rfl aQ;rw [Hm.out,<-aJ.out] at bm;cases bm;have zM:=aac bH;have aY:=hid aj;have bS:=hid aQ;clear aj bk hin aQ;have bA:Hid (s.ins u y=({ s with frs:={ t with regs:=adG t.regs y.dst mv } :: r },true)):=by
    show _=_;rw [aY.out,Aag,Aab,bS.out,Option.getD_some];unfold RnS.set RnS.setTop RnS.top;rw [aE.out];rfl
   clear aY;go_upto_region 13 with (first | (go_at_call 20;refine (aah (k:Int) 0 ((ml:Int) - 1) _).mono ?_;rintro e w' ⟨rfl,rfl⟩))
   clear HS;go_still_tail 10,(by kernel_rfl);change wpList _ _ _ _ _ W7.drew;have HQ:=hid (ac4 (H7.out.later (Below.refl _ _).drew).at_ aE.out ad.out y.dst mv ax.out);go_wp2_with (first | (go_at_call 70;refine HQ.out.mono ?_;rintro e aK ⟨rfl,hw⟩;have HF:=hid hw;clear hw));go_ret;rw [bA.out];exact⟨rfl,_,_,HF.out⟩
 . have aj:=hid (HS.out.trans (if_neg (by rw [<-aJ.out];exact hin)))
   have hd:decide (0<=VA∧VA<=(ml:Int) - 1)=false:=decide_eq_false hin;have HQ:=hid (abR H7.out.at_ 3);go_wp2_with (first | (go_at_call 20;refine (aah VA 0 ((ml:Int) - 1) _).mono ?_;rintro e w' ⟨rfl,rfl⟩;rw [hd]) | (go_at_call 26;refine HQ.out.mono ?_;rintro e aK ⟨rfl,hw⟩;have HF:=hid hw;clear hw));go_ret;rw [aj.out];exact⟨rfl,_,_,HF.out⟩
theorem ac7.ins_store(h:ac7 u G F A S W0 base WB W V iv s t r f x)(hy:y∈x.list)(hop:y.op=19)(ha:SlAt S' W 2 aeL (.slice aa y.args.length ac) y.args) :
 Calls Tryd.prog 45 #[.pointer (some ⟨WB,0,none⟩),.agg #[.int .i64 19,.int .i64 y.dst,.bool y.a.reg,.int .i64 y.a.n,.bool y.b.reg,.int .i64 y.b.n,.int .i64 y.fn,.slice aa y.args.length ac]] W fun e w' =>
  e = .returned (.bool (s.ins u y).2)∧∃V' iv',aaG u G F A S W0 base WB w' V' iv' (s.ins u y).1:=by
 have af:s.top=t:=by unfold RnS.top;rw [h.fr];rfl
 have ho:=h.fo.ins _ x h.fw.blk y hy;obtain⟨n1,n2⟩:I64 y.a.n∧I64 y.b.n:=by
  have h2:=(h.num.vals f (Aah h.fw.fn) x (Aah h.fw.blk)).2.1 y hy;exact⟨h2.1,h2.2.1⟩
 obtain⟨al,an⟩:∃n,n=y.args.length:=⟨_,rfl⟩
 rw [<-an] at ha ⊢;obtain⟨W1,ai⟩:∃W1,W1=W.alloc (.cells #[.int .i64 19,.int .i64 y.dst,.bool y.a.reg,.int .i64 y.a.n,.bool y.b.reg,.int .i64 y.b.n,.int .i64 y.fn,.slice aa al ac] 63):=⟨_,rfl⟩
 have ar:Below W.heap.size W W1:=by rw [ai];exact bE
 have aD:W1.heap[W.heap.size]?=some (.cells #[.int .i64 19,.int .i64 y.dst,.bool y.a.reg,.int .i64 y.a.n,.bool y.b.reg,.int .i64 y.b.n,.int .i64 y.fn,.slice aa al ac] 63 (0,0)):=by rw [ai];exact heap_alloc_new _ _
 obtain⟨x0,x1,x2,x3,x4,x5,x6,x7⟩:=(aar (cs:=[_,_,_,_,_,_,_,_]) aD).get8;rw [Aac] at x1 x2 x3 x4 x5 x6 x7;obtain⟨XB,aq⟩:∃XB,XB=W.heap.size:=⟨_,rfl⟩
 rw [<-aq] at x0 x1 x2 x3 x4 x5 x6 x7;have zX:=aac x0;have HW:Hid (W1=W.alloc (.cells #[.int .i64 19,.int .i64 y.dst,.bool y.a.reg,.int .i64 y.a.n,.bool y.b.reg,.int .i64 y.b.n,.int .i64 y.fn,.slice aa al ac] 63)∧XB=W.heap.size):=⟨ai,aq⟩
 have H1:=hid (h.later ar);have Ha:=hid (ha.later aap ar);obtain⟨VA,ae⟩:∃z,z=aaX t.regs y.a:=⟨_,rfl⟩
 obtain⟨VB,ag⟩:∃z,z=aaX t.regs y.b:=⟨_,rfl⟩
 have aS:Hid (VA=aaX t.regs y.a∧I64 VA):=⟨ae,by rw [ae];exact aaE h.fw.num n1⟩
 have aT:Hid (VB=aaX t.regs y.b∧I64 VB):=⟨ag,by rw [ag];exact aaE h.fw.num n2⟩
 have aA:Hid (∀m d os,CallsIn Fence.wide m Tryd.prog 69 #[.pointer (some ⟨WB,0,none⟩),.agg #[.bool y.a.reg,.int .i64 y.a.n]] (grow (redrawn W1 d) os) fun e aw=>e = .returned (.int .i64 VA)∧∃p:Regrown,aw=grow (redrawn W1 p.d) p.os):=fun m d os=>by
  have h:=(H1.out.later (below_regrown W1 d os)).val ho.a;rw [<-ae] at h;exact CallsIn.regrown_of (callsIn_wide (n:=m).2 h)
 have aB:Hid (∀(q:Regrown) m d os,CallsIn Fence.wide m Tryd.prog 69 #[.pointer (some ⟨WB,0,none⟩),.agg #[.bool y.b.reg,.int .i64 y.b.n]] (grow (redrawn W1 d) os) fun e aw=>e = .returned (.int .i64 VB)∧∃p:Regrown,aw=grow (redrawn W1 p.d) p.os):=fun _ m d os=>by
  have h:=(H1.out.later (below_regrown W1 d os)).val ho.b;rw [<-ag] at h;exact CallsIn.regrown_of (callsIn_wide (n:=m).2 h)
 have r2:=cell_regrown x2;have r3:=cell_regrown x3;have r4:=cell_regrown x4;have r5:=cell_regrown x5;have HX:Hid (∀W5,Below W1.heap.size W1 W5->W5.cell? ⟨XB,0,none⟩=some (.int .i64 19)∧W5.cell? ⟨XB,1,none⟩=some (.int .i64 y.dst)∧W5.cell? ⟨XB,6,none⟩=some (.int .i64 y.fn)∧W5.cell? ⟨XB,7,none⟩=some (.slice aa al ac)):=fun W5 hb=>⟨aab x0 hb,aab x1 hb,aab x6 hb,aab x7 hb⟩
 have aE:=hid h.fr;have ad:=hid h.deep;have Ho:=hid ho;have Hy:=hid hy;have a6:=hid hop;have aO:=hid an;have ax:Hid (y.dst<(t.regs.length:Int)):=by
  have h1:=ho.dst.2;have h2:=h.fw.regs;have h3:=h.fo.pr;show y.dst<(t.regs.length:Int);omega
 have HS:Hid (s.ins u y=if 0<=VA∧VA<=(s.mem.length:Int) - 1 then ({ s with mem:=s.mem.set VA.toNat VB },true) else (s.stop 3,false)):=by
  show _=_;unfold RnS.ins;rw [hop,af,<-ae,<-ag];rfl
 clear h af ho n1 n2 ar aD ai aq ae ag ha an hy hop;go_enter Tryd.func45,Tryd.ntmps45;go_upto_region 1 with (fail)
 rw [<-HW.out.1,<-HW.out.2];clear HW;refine aaw (by kernel_rfl) (by kernel_rfl) ?_
 repeat (gi_big_quiet_step (fail))
 refine wpQuietIn_step (fun _ _ _ _=>trivial) (fun K hK=>?_);go_simp;refine⟨_,fun _=>aA.out _ _ _,hK _ ?_⟩;clear hK K
 repeat (gi_big_quiet_step (fail))
 refine wpQuietIn_step (fun _ _ _ _=>trivial) (fun K hK=>?_);go_simp;refine⟨_,fun q=>aB.out q _ _ _,hK _ ?_⟩;clear hK K
 repeat (gi_big_quiet_step (fail))
 refine wpQuietIn_nil ?_;intro W7 aI;obtain⟨rg,aC⟩:=aI;have au:Below W1.heap.size W1 W7:=by rw [aC];exact below_regrown _ _ _
 have H7:=hid (H1.out.later au);have aG:=hid au;clear aC au r2 r3 r4 r5 x0 x1 x2 x3 x4 x5 x6 x7 zX aA aB;obtain⟨c0,c1,c6,c7⟩:=HX.out W7 aG.out;have zX:=aac c0;obtain⟨ma,mc,hm,bK⟩:=H7.out.at_.memRow;obtain⟨-,zW,aH,aL⟩:=H7.out.at_.boxAt;have b3:=aH 3 _ rfl;rw [Aac,hm] at b3;obtain⟨ml,aF⟩:∃n,n=s.mem.length:=⟨_,rfl⟩
 rw [<-aF] at b3 bK;have aJ:=hid aF;have cI:IntKind.i64.wrap ((ml:Int) - 1)=(ml:Int) - 1:=by rw [IntKind.wrap_i64];omega
 have Hm:=hid hm;clear aH aL aF hm
 by_cases hin:0<=VA∧VA<=(ml:Int) - 1
 . obtain⟨k,rfl⟩:∃k:Nat,VA=(k:Int):=Aao hin.1
   have bk:k<s.mem.length:=by have:=aJ.out;omega
   have cB:(k:Int)<(ml:Int):=by omega
   have cz:(0:Int)<=(k:Int):=by omega
   have cA:(k:Int)<=(ml:Int) - 1:=by omega
   have aj:=HS.out.trans (if_pos (by rw [<-aJ.out];exact hin));obtain⟨mv,aQ⟩:∃z,s.mem[k]?=some z:=⟨_,Aaa bk⟩
   obtain⟨MB,cM,bm,-,-,-,bH,cv⟩:=H7.out.at_.numAt (p := .mem) trivial rfl (l:=s.mem) rfl aQ;rw [Hm.out,<-aJ.out] at bm;cases bm;have zM:=aac bH;have aY:=hid aj;have bS:=hid aQ;clear aj bk hin aQ;have bA:Hid (s.ins u y=({ s with mem:=s.mem.set k VB },true)):=by
    show _=_;rw [aY.out,Aag]
   have HF:=hid (H7.out.at_.putMem (g:=MB) (c:=mc) (d:=k) (by rw [Hm.out]) (by have:=aJ.out;omega) VB);clear aY;go_wp2_with (first | (go_at_call 20;refine (aah (k:Int) 0 ((ml:Int) - 1) _).mono ?_;rintro e w' ⟨rfl,rfl⟩));go_ret;rw [bA.out];exact⟨rfl,_,_,HF.out⟩
 . have aj:=hid (HS.out.trans (if_neg (by rw [<-aJ.out];exact hin)))
   have hd:decide (0<=VA∧VA<=(ml:Int) - 1)=false:=decide_eq_false hin;have HQ:=hid (abR H7.out.at_ 3);go_wp2_with (first | (go_at_call 20;refine (aah VA 0 ((ml:Int) - 1) _).mono ?_;rintro e w' ⟨rfl,rfl⟩;rw [hd]) | (go_at_call 26;refine HQ.out.mono ?_;rintro e aK ⟨rfl,hw⟩;have HF:=hid hw;clear hw));go_ret;rw [aj.out];exact⟨rfl,_,_,HF.out⟩
theorem ac7.ins_two(h:ac7 u G F A S W0 base WB W V iv s t r f x)(hy:y∈x.list){o:Int}(p1:1<=o)(p2:o<=17)(hop:y.op=o)(ha:SlAt S' W 2 aeL (.slice aa y.args.length ac) y.args) :
 Calls Tryd.prog 45 #[.pointer (some ⟨WB,0,none⟩),.agg #[.int .i64 o,.int .i64 y.dst,.bool y.a.reg,.int .i64 y.a.n,.bool y.b.reg,.int .i64 y.b.n,.int .i64 y.fn,.slice aa y.args.length ac]] W fun e w' =>
  e = .returned (.bool (s.ins u y).2)∧∃V' iv',aaG u G F A S W0 base WB w' V' iv' (s.ins u y).1:=by
 have af:s.top=t:=by unfold RnS.top;rw [h.fr];rfl
 have ho:=h.fo.ins _ x h.fw.blk y hy;obtain⟨n1,n2⟩:I64 y.a.n∧I64 y.b.n:=by
  have h2:=(h.num.vals f (Aah h.fw.fn) x (Aah h.fw.blk)).2.1 y hy;exact⟨h2.1,h2.2.1⟩
 obtain⟨al,an⟩:∃n,n=y.args.length:=⟨_,rfl⟩
 rw [<-an] at ha ⊢;obtain⟨W1,ai⟩:∃W1,W1=W.alloc (.cells #[.int .i64 o,.int .i64 y.dst,.bool y.a.reg,.int .i64 y.a.n,.bool y.b.reg,.int .i64 y.b.n,.int .i64 y.fn,.slice aa al ac] 63):=⟨_,rfl⟩
 have ar:Below W.heap.size W W1:=by rw [ai];exact bE
 have aD:W1.heap[W.heap.size]?=some (.cells #[.int .i64 o,.int .i64 y.dst,.bool y.a.reg,.int .i64 y.a.n,.bool y.b.reg,.int .i64 y.b.n,.int .i64 y.fn,.slice aa al ac] 63 (0,0)):=by rw [ai];exact heap_alloc_new _ _
 obtain⟨x0,x1,x2,x3,x4,x5,x6,x7⟩:=(aar (cs:=[_,_,_,_,_,_,_,_]) aD).get8;rw [Aac] at x1 x2 x3 x4 x5 x6 x7;obtain⟨XB,aq⟩:∃XB,XB=W.heap.size:=⟨_,rfl⟩
 rw [<-aq] at x0 x1 x2 x3 x4 x5 x6 x7;have zX:=aac x0;have HW:Hid (W1=W.alloc (.cells #[.int .i64 o,.int .i64 y.dst,.bool y.a.reg,.int .i64 y.a.n,.bool y.b.reg,.int .i64 y.b.n,.int .i64 y.fn,.slice aa al ac] 63)∧XB=W.heap.size):=⟨ai,aq⟩
 have H1:=hid (h.later ar);have Ha:=hid (ha.later aap ar);obtain⟨VA,ae⟩:∃z,z=aaX t.regs y.a:=⟨_,rfl⟩
 obtain⟨VB,ag⟩:∃z,z=aaX t.regs y.b:=⟨_,rfl⟩
 have aS:Hid (VA=aaX t.regs y.a∧I64 VA):=⟨ae,by rw [ae];exact aaE h.fw.num n1⟩
 have aT:Hid (VB=aaX t.regs y.b∧I64 VB):=⟨ag,by rw [ag];exact aaE h.fw.num n2⟩
 have aA:Hid (∀m d os,CallsIn Fence.wide m Tryd.prog 69 #[.pointer (some ⟨WB,0,none⟩),.agg #[.bool y.a.reg,.int .i64 y.a.n]] (grow (redrawn W1 d) os) fun e aw=>e = .returned (.int .i64 VA)∧∃p:Regrown,aw=grow (redrawn W1 p.d) p.os):=fun m d os=>by
  have h:=(H1.out.later (below_regrown W1 d os)).val ho.a;rw [<-ae] at h;exact CallsIn.regrown_of (callsIn_wide (n:=m).2 h)
 have aB:Hid (∀(q:Regrown) m d os,CallsIn Fence.wide m Tryd.prog 69 #[.pointer (some ⟨WB,0,none⟩),.agg #[.bool y.b.reg,.int .i64 y.b.n]] (grow (redrawn W1 d) os) fun e aw=>e = .returned (.int .i64 VB)∧∃p:Regrown,aw=grow (redrawn W1 p.d) p.os):=fun _ m d os=>by
  have h:=(H1.out.later (below_regrown W1 d os)).val ho.b;rw [<-ag] at h;exact CallsIn.regrown_of (callsIn_wide (n:=m).2 h)
 have r2:=cell_regrown x2;have r3:=cell_regrown x3;have r4:=cell_regrown x4;have r5:=cell_regrown x5;have HX:Hid (∀W5,Below W1.heap.size W1 W5->W5.cell? ⟨XB,0,none⟩=some (.int .i64 o)∧W5.cell? ⟨XB,1,none⟩=some (.int .i64 y.dst)∧W5.cell? ⟨XB,6,none⟩=some (.int .i64 y.fn)∧W5.cell? ⟨XB,7,none⟩=some (.slice aa al ac)):=fun W5 hb=>⟨aab x0 hb,aab x1 hb,aab x6 hb,aab x7 hb⟩
 have aE:=hid h.fr;have ad:=hid h.deep;have Ho:=hid ho;have Hy:=hid hy;have a6:=hid hop;have aO:=hid an;have ax:Hid (y.dst<(t.regs.length:Int)):=by
  have h1:=ho.dst.2;have h2:=h.fw.regs;have h3:=h.fo.pr;show y.dst<(t.regs.length:Int);omega
 have HS:Hid (s.ins u y=match ajU o VA VB with | some n=>(s.set y.dst n,true) | none=>(s.stop 2,false)):=by
  show _=_;unfold RnS.ins;rw [hop,af,<-ae,<-ag,if_neg (by omega),if_neg (by omega),if_neg (by omega),if_neg (by omega)];rfl
 clear h af ho n1 n2 ar aD ai aq ae ag ha an hy hop;go_enter Tryd.func45,Tryd.ntmps45;go_upto_region 1 with (fail)
 rw [<-HW.out.1,<-HW.out.2];clear HW;refine aaw (by kernel_rfl) (by kernel_rfl) ?_
 repeat (gi_big_quiet_step (fail))
 refine wpQuietIn_step (fun _ _ _ _=>trivial) (fun K hK=>?_);go_simp;refine⟨_,fun _=>aA.out _ _ _,hK _ ?_⟩;clear hK K
 repeat (gi_big_quiet_step (fail))
 refine wpQuietIn_step (fun _ _ _ _=>trivial) (fun K hK=>?_);go_simp;refine⟨_,fun q=>aB.out q _ _ _,hK _ ?_⟩;clear hK K
 repeat (gi_big_quiet_step (fail))
 refine wpQuietIn_nil ?_;intro W7 aI;obtain⟨rg,aC⟩:=aI;have au:Below W1.heap.size W1 W7:=by rw [aC];exact below_regrown _ _ _
 have H7:=hid (H1.out.later au);have aG:=hid au;clear aC au r2 r3 r4 r5 x0 x1 x2 x3 x4 x5 x6 x7 zX aA aB;obtain⟨c0,c1,c6,c7⟩:=HX.out W7 aG.out;have zX:=aac c0;have hT:=aeW o (af8 VA) (af8 VB) W7 p1 p2;rw [aiH aS.out.2,aiH aT.out.2] at hT;cases e:aaV o (af8 VA) (af8 VB) with
 | none =>
   rw [e] at hT;have HT:=hid hT;have aj:Hid (s.ins u y=(s.stop 2,false)):=by
    show _=_;rw [HS.out];unfold ajU;rw [e];rfl
   have HQ:=hid (abR H7.out.at_ 2);clear hT e HS;go_wp2_with (first | (go_at_call 37;refine HT.out.mono ?_;rintro e w' ⟨rfl,rfl⟩;dsimp only [aeb]) | (go_at_call 26;refine HQ.out.mono ?_;rintro e aK ⟨rfl,hw⟩;have HF:=hid hw;clear hw));go_ret;rw [aj.out];exact⟨rfl,_,_,HF.out⟩
 | some z =>
   rw [e] at hT;have HT:=hid hT;have aj:Hid (s.ins u y=({ s with frs:={ t with regs:=adG t.regs y.dst (bi z) } :: r },true)):=by
    show _=_;rw [HS.out];unfold ajU;rw [e];show (s.set y.dst (bi z),true)=_;unfold RnS.set RnS.setTop RnS.top;rw [aE.out];rfl
   have HQ:=hid (ac4 H7.out.at_ aE.out ad.out y.dst (bi z) ax.out);clear hT e HS;go_wp2_with (first | (go_at_call 37;refine HT.out.mono ?_;rintro e w' ⟨rfl,rfl⟩;dsimp only [aeb]) | (go_at_call 70;refine HQ.out.mono ?_;rintro e aK ⟨rfl,hw⟩;have HF:=hid hw;clear hw));go_ret;rw [aj.out];exact⟨rfl,_,_,HF.out⟩
theorem ac7.ins_read(h:ac7 u G F A S W0 base WB W V iv s t r f x)(hy:y∈x.list)(hop:y.op=21)(ha:SlAt S' W 2 aeL (.slice aa y.args.length ac) y.args) :
 Calls Tryd.prog 45 #[.pointer (some ⟨WB,0,none⟩),.agg #[.int .i64 21,.int .i64 y.dst,.bool y.a.reg,.int .i64 y.a.n,.bool y.b.reg,.int .i64 y.b.n,.int .i64 y.fn,.slice aa y.args.length ac]] W fun e w' =>
  e = .returned (.bool (s.ins u y).2)∧∃V' iv',aaG u G F A S W0 base WB w' V' iv' (s.ins u y).1:=by
 have af:s.top=t:=by unfold RnS.top;rw [h.fr];rfl
 have ho:=h.fo.ins _ x h.fw.blk y hy;obtain⟨n1,n2⟩:I64 y.a.n∧I64 y.b.n:=by
  have h2:=(h.num.vals f (Aah h.fw.fn) x (Aah h.fw.blk)).2.1 y hy;exact⟨h2.1,h2.2.1⟩
 obtain⟨al,an⟩:∃n,n=y.args.length:=⟨_,rfl⟩
 rw [<-an] at ha ⊢;obtain⟨W1,ai⟩:∃W1,W1=W.alloc (.cells #[.int .i64 21,.int .i64 y.dst,.bool y.a.reg,.int .i64 y.a.n,.bool y.b.reg,.int .i64 y.b.n,.int .i64 y.fn,.slice aa al ac] 63):=⟨_,rfl⟩
 have ar:Below W.heap.size W W1:=by rw [ai];exact bE
 have aD:W1.heap[W.heap.size]?=some (.cells #[.int .i64 21,.int .i64 y.dst,.bool y.a.reg,.int .i64 y.a.n,.bool y.b.reg,.int .i64 y.b.n,.int .i64 y.fn,.slice aa al ac] 63 (0,0)):=by rw [ai];exact heap_alloc_new _ _
 obtain⟨x0,x1,x2,x3,x4,x5,x6,x7⟩:=(aar (cs:=[_,_,_,_,_,_,_,_]) aD).get8;rw [Aac] at x1 x2 x3 x4 x5 x6 x7;obtain⟨XB,aq⟩:∃XB,XB=W.heap.size:=⟨_,rfl⟩
 rw [<-aq] at x0 x1 x2 x3 x4 x5 x6 x7;have zX:=aac x0;have HW:Hid (W1=W.alloc (.cells #[.int .i64 21,.int .i64 y.dst,.bool y.a.reg,.int .i64 y.a.n,.bool y.b.reg,.int .i64 y.b.n,.int .i64 y.fn,.slice aa al ac] 63)∧XB=W.heap.size):=⟨ai,aq⟩
 have H1:=hid (h.later ar);have Ha:=hid (ha.later aap ar);obtain⟨VA,ae⟩:∃z,z=aaX t.regs y.a:=⟨_,rfl⟩
 obtain⟨VB,ag⟩:∃z,z=aaX t.regs y.b:=⟨_,rfl⟩
 have aS:Hid (VA=aaX t.regs y.a∧I64 VA):=⟨ae,by rw [ae];exact aaE h.fw.num n1⟩
 have aT:Hid (VB=aaX t.regs y.b∧I64 VB):=⟨ag,by rw [ag];exact aaE h.fw.num n2⟩
 have aA:Hid (∀m d os,CallsIn Fence.wide m Tryd.prog 69 #[.pointer (some ⟨WB,0,none⟩),.agg #[.bool y.a.reg,.int .i64 y.a.n]] (grow (redrawn W1 d) os) fun e aw=>e = .returned (.int .i64 VA)∧∃p:Regrown,aw=grow (redrawn W1 p.d) p.os):=fun m d os=>by
  have h:=(H1.out.later (below_regrown W1 d os)).val ho.a;rw [<-ae] at h;exact CallsIn.regrown_of (callsIn_wide (n:=m).2 h)
 have aB:Hid (∀(q:Regrown) m d os,CallsIn Fence.wide m Tryd.prog 69 #[.pointer (some ⟨WB,0,none⟩),.agg #[.bool y.b.reg,.int .i64 y.b.n]] (grow (redrawn W1 d) os) fun e aw=>e = .returned (.int .i64 VB)∧∃p:Regrown,aw=grow (redrawn W1 p.d) p.os):=fun _ m d os=>by
  have h:=(H1.out.later (below_regrown W1 d os)).val ho.b;rw [<-ag] at h;exact CallsIn.regrown_of (callsIn_wide (n:=m).2 h)
 have r2:=cell_regrown x2;have r3:=cell_regrown x3;have r4:=cell_regrown x4;have r5:=cell_regrown x5;have HX:Hid (∀W5,Below W1.heap.size W1 W5->W5.cell? ⟨XB,0,none⟩=some (.int .i64 21)∧W5.cell? ⟨XB,1,none⟩=some (.int .i64 y.dst)∧W5.cell? ⟨XB,6,none⟩=some (.int .i64 y.fn)∧W5.cell? ⟨XB,7,none⟩=some (.slice aa al ac)):=fun W5 hb=>⟨aab x0 hb,aab x1 hb,aab x6 hb,aab x7 hb⟩
 have aE:=hid h.fr;have ad:=hid h.deep;have Ho:=hid ho;have Hy:=hid hy;have a6:=hid hop;have aO:=hid an;have ax:Hid (y.dst<(t.regs.length:Int)):=by
  have h1:=ho.dst.2;have h2:=h.fw.regs;have h3:=h.fo.pr;show y.dst<(t.regs.length:Int);omega
 have HS:Hid (s.ins u y=({ s with inp:=s.inp.tail }.set y.dst (s.inp.headD (-1)),true)):=by
  show _=_;unfold RnS.ins;rw [hop];rfl
 clear h af ho n1 n2 ar aD ai aq ae ag ha an hy hop;go_enter Tryd.func45,Tryd.ntmps45;go_upto_region 1 with (fail)
 rw [<-HW.out.1,<-HW.out.2];clear HW;refine aaw (by kernel_rfl) (by kernel_rfl) ?_
 repeat (gi_big_quiet_step (fail))
 refine wpQuietIn_step (fun _ _ _ _=>trivial) (fun K hK=>?_);go_simp;refine⟨_,fun _=>aA.out _ _ _,hK _ ?_⟩;clear hK K
 repeat (gi_big_quiet_step (fail))
 refine wpQuietIn_step (fun _ _ _ _=>trivial) (fun K hK=>?_);go_simp;refine⟨_,fun q=>aB.out q _ _ _,hK _ ?_⟩;clear hK K
 repeat (gi_big_quiet_step (fail))
 refine wpQuietIn_nil ?_;intro W7 aI;obtain⟨rg,aC⟩:=aI;have au:Below W1.heap.size W1 W7:=by rw [aC];exact below_regrown _ _ _
 have H7:=hid (H1.out.later au);have aG:=hid au;clear aC au r2 r3 r4 r5 x0 x1 x2 x3 x4 x5 x6 x7 zX aA aB;obtain⟨c0,c1,c6,c7⟩:=HX.out W7 aG.out;have zX:=aac c0;have az:=H7.out.at_.rd.inp;obtain⟨-,zW,aH,aL⟩:=H7.out.at_.boxAt;have b4:=aH 4 _ rfl;rw [Aac] at b4;have f4:=aL 4 (by omega);clear aH aL;cases hil:s.inp with
 | nil =>
   rw [hil] at az;obtain⟨ia,ic,rfl,-⟩:=az.val;have aj:Hid (s.ins u y=({ s with frs:={ t with regs:=adG t.regs y.dst (-1) } :: r },true)):=by
    show _=_;have e1:s.inp.tail=s.inp:=by rw [hil];rfl
    have e2:s.inp.headD (-1) = -1:=by rw [hil];rfl
    rw [HS.out,e1,e2];show (s.set y.dst (-1),true)=_;unfold RnS.set RnS.setTop RnS.top;rw [aE.out];rfl
   have HQ:=hid (ac4 H7.out.at_ aE.out ad.out y.dst (-1) ax.out);have cE:([]:List Int).length=0:=rfl;rw [cE] at b4;clear az hil HS;go_wp2_with (first | (go_at_call 70;refine HQ.out.mono ?_;rintro e aK ⟨rfl,hw⟩;have HF:=hid hw;clear hw));go_ret;rw [aj.out];exact⟨rfl,_,_,HF.out⟩
 | cons v l =>
   rw [hil] at az;obtain⟨ia,ic,rfl,-⟩:=az.val;obtain⟨b2,cy⟩:(v :: l).length<=ic∧ic<=9223372036854775807:=by
    obtain⟨ao,c,e,h1,h2,-⟩:=az;cases e;exact⟨h1,h2⟩
   obtain⟨-,cS,ib,io,rfl,⟨cs,⟨rfl,-⟩,bZ⟩,cb⟩:=aij az;have v0:=bZ 0 _ rfl;rw [Aas] at v0;have zI:=aac v0;have aj:Hid (s.ins u y=({ s with inp:=l,frs:={ t with regs:=adG t.regs y.dst v } :: r },true)):=by
    show _=_;rw [HS.out,hil];unfold RnS.set RnS.setTop RnS.top;show (({ s with inp:=l,frs:={ ((s.frs).headD RnF.none) with regs:=adG ((s.frs).headD RnF.none).regs y.dst v } :: s.frs.tail }:RnS),true)=_;rw [aE.out];rfl
   have b8:(v :: l).length=l.length+1:=rfl;rw [b8] at b4 b2;obtain⟨ln,bz⟩:∃n,n=l.length:=⟨_,rfl⟩
   have bT:=hid cb;have bR:=hid bz;rw [<-bz] at b4 b2;have cU:(ln:Int)+1<=9223372036854775807:=by omega
   have ck:Hid (Calls Tryd.prog 70 #[.pointer (some ⟨WB,0,none⟩),.int .i64 y.dst,.int .i64 v] (W7.setCell ⟨WB,4,none⟩ (.slice (some ⟨ib,io+1,none⟩) ln (ic - 1))) fun e w'=>e = .returned (.tuple #[])∧∃iv',aaG u G F A S W0 base WB w' V iv' { s with inp:=l,frs:={ t with regs:=adG t.regs y.dst v } :: r }) :=
    (ac4 (H7.out.at_.putInp (iv' := .slice (some ⟨ib,io+1,none⟩) ln (ic - 1)) (l:=l) (by rw [bR.out];exact bT.out _ fun _=>rfl)) aE.out ad.out y.dst v ax.out).mono fun e w' h=>⟨h.1,_,h.2⟩
   clear hil HS bZ cb b8
   by_cases hc2:ic=1
   . have cD:l=[]:=Abm (by omega)
     clear bz az;subst cD hc2;obtain rfl:ln=0:=bR.out;rw [Aac] at b4;have HQ:Hid (Calls Tryd.prog 70 #[.pointer (some ⟨WB,0,none⟩),.int .i64 y.dst,.int .i64 v] (W7.setCell ⟨WB,4,none⟩ (.slice (some ⟨ib,io,none⟩) 0 0)) fun e w'=>e = .returned (.tuple #[])∧∃iv',aaG u G F A S W0 base WB w' V iv' { s with inp:=[],frs:={ t with regs:=adG t.regs y.dst v } :: r }) :=
      (ac4 (H7.out.at_.putInp (iv' := .slice (some ⟨ib,io,none⟩) 0 0) (l:=[]) (bT.out _ fun h=>absurd rfl h)) aE.out ad.out y.dst v ax.out).mono fun e w' h=>⟨h.1,_,h.2⟩
     go_wp2_with (first | (go_at_call 70;refine HQ.out.mono ?_;rintro e aK ⟨rfl,hw⟩;have HF:=hid hw;clear hw));go_ret;rw [aj.out];obtain⟨iv',h⟩:=HF.out;exact⟨rfl,_,_,h⟩
   . have cT:1<ic:=by omega
     clear bz az;go_wp2_with (first | (go_at_call 70;refine ck.out.mono ?_;rintro e aK ⟨rfl,hw⟩;have HF:=hid hw;clear hw));go_ret;rw [aj.out];obtain⟨iv',h⟩:=HF.out;exact⟨rfl,_,_,h⟩
theorem ac7.ins_print(h:ac7 u G F A S W0 base WB W V iv s t r f x)(hy:y∈x.list)(hop:y.op=22)(ha:SlAt S' W 2 aeL (.slice aa y.args.length ac) y.args) :
 Calls Tryd.prog 45 #[.pointer (some ⟨WB,0,none⟩),.agg #[.int .i64 22,.int .i64 y.dst,.bool y.a.reg,.int .i64 y.a.n,.bool y.b.reg,.int .i64 y.b.n,.int .i64 y.fn,.slice aa y.args.length ac]] W fun e w' =>
  e = .returned (.bool (s.ins u y).2)∧∃V' iv',aaG u G F A S W0 base WB w' V' iv' (s.ins u y).1:=by
 have af:s.top=t:=by unfold RnS.top;rw [h.fr];rfl
 have ho:=h.fo.ins _ x h.fw.blk y hy;obtain⟨n1,n2⟩:I64 y.a.n∧I64 y.b.n:=by
  have h2:=(h.num.vals f (Aah h.fw.fn) x (Aah h.fw.blk)).2.1 y hy;exact⟨h2.1,h2.2.1⟩
 obtain⟨al,an⟩:∃n,n=y.args.length:=⟨_,rfl⟩
 rw [<-an] at ha ⊢;obtain⟨W1,ai⟩:∃W1,W1=W.alloc (.cells #[.int .i64 22,.int .i64 y.dst,.bool y.a.reg,.int .i64 y.a.n,.bool y.b.reg,.int .i64 y.b.n,.int .i64 y.fn,.slice aa al ac] 63):=⟨_,rfl⟩
 have ar:Below W.heap.size W W1:=by rw [ai];exact bE
 have aD:W1.heap[W.heap.size]?=some (.cells #[.int .i64 22,.int .i64 y.dst,.bool y.a.reg,.int .i64 y.a.n,.bool y.b.reg,.int .i64 y.b.n,.int .i64 y.fn,.slice aa al ac] 63 (0,0)):=by rw [ai];exact heap_alloc_new _ _
 obtain⟨x0,x1,x2,x3,x4,x5,x6,x7⟩:=(aar (cs:=[_,_,_,_,_,_,_,_]) aD).get8;rw [Aac] at x1 x2 x3 x4 x5 x6 x7;obtain⟨XB,aq⟩:∃XB,XB=W.heap.size:=⟨_,rfl⟩
 rw [<-aq] at x0 x1 x2 x3 x4 x5 x6 x7;have zX:=aac x0;have HW:Hid (W1=W.alloc (.cells #[.int .i64 22,.int .i64 y.dst,.bool y.a.reg,.int .i64 y.a.n,.bool y.b.reg,.int .i64 y.b.n,.int .i64 y.fn,.slice aa al ac] 63)∧XB=W.heap.size):=⟨ai,aq⟩
 have H1:=hid (h.later ar);have Ha:=hid (ha.later aap ar);obtain⟨VA,ae⟩:∃z,z=aaX t.regs y.a:=⟨_,rfl⟩
 obtain⟨VB,ag⟩:∃z,z=aaX t.regs y.b:=⟨_,rfl⟩
 have aS:Hid (VA=aaX t.regs y.a∧I64 VA):=⟨ae,by rw [ae];exact aaE h.fw.num n1⟩
 have aT:Hid (VB=aaX t.regs y.b∧I64 VB):=⟨ag,by rw [ag];exact aaE h.fw.num n2⟩
 have aA:Hid (∀m d os,CallsIn Fence.wide m Tryd.prog 69 #[.pointer (some ⟨WB,0,none⟩),.agg #[.bool y.a.reg,.int .i64 y.a.n]] (grow (redrawn W1 d) os) fun e aw=>e = .returned (.int .i64 VA)∧∃p:Regrown,aw=grow (redrawn W1 p.d) p.os):=fun m d os=>by
  have h:=(H1.out.later (below_regrown W1 d os)).val ho.a;rw [<-ae] at h;exact CallsIn.regrown_of (callsIn_wide (n:=m).2 h)
 have aB:Hid (∀(q:Regrown) m d os,CallsIn Fence.wide m Tryd.prog 69 #[.pointer (some ⟨WB,0,none⟩),.agg #[.bool y.b.reg,.int .i64 y.b.n]] (grow (redrawn W1 d) os) fun e aw=>e = .returned (.int .i64 VB)∧∃p:Regrown,aw=grow (redrawn W1 p.d) p.os):=fun _ m d os=>by
  have h:=(H1.out.later (below_regrown W1 d os)).val ho.b;rw [<-ag] at h;exact CallsIn.regrown_of (callsIn_wide (n:=m).2 h)
 have r2:=cell_regrown x2;have r3:=cell_regrown x3;have r4:=cell_regrown x4;have r5:=cell_regrown x5;have HX:Hid (∀W5,Below W1.heap.size W1 W5->W5.cell? ⟨XB,0,none⟩=some (.int .i64 22)∧W5.cell? ⟨XB,1,none⟩=some (.int .i64 y.dst)∧W5.cell? ⟨XB,6,none⟩=some (.int .i64 y.fn)∧W5.cell? ⟨XB,7,none⟩=some (.slice aa al ac)):=fun W5 hb=>⟨aab x0 hb,aab x1 hb,aab x6 hb,aab x7 hb⟩
 have aE:=hid h.fr;have ad:=hid h.deep;have Ho:=hid ho;have Hy:=hid hy;have a6:=hid hop;have aO:=hid an;have ax:Hid (y.dst<(t.regs.length:Int)):=by
  have h1:=ho.dst.2;have h2:=h.fw.regs;have h3:=h.fo.pr;show y.dst<(t.regs.length:Int);omega
 have HS:Hid (s.ins u y=if s.out.length=200 then (s.stop 5,false) else ({ s with out:=s.out++[VA] },true)):=by
  show _=_;unfold RnS.ins;rw [hop,af,<-ae];rfl
 obtain⟨i0,bJ,cJ,cK,cL⟩:=info_parts acr;clear h af ho n1 n2 ar aD ai aq ae ag ha an hy hop;go_enter Tryd.func45,Tryd.ntmps45;go_upto_region 1 with (fail)
 rw [<-HW.out.1,<-HW.out.2];clear HW;refine aaw (by kernel_rfl) (by kernel_rfl) ?_
 repeat (gi_big_quiet_step (fail))
 refine wpQuietIn_step (fun _ _ _ _=>trivial) (fun K hK=>?_);go_simp;refine⟨_,fun _=>aA.out _ _ _,hK _ ?_⟩;clear hK K
 repeat (gi_big_quiet_step (fail))
 refine wpQuietIn_step (fun _ _ _ _=>trivial) (fun K hK=>?_);go_simp;refine⟨_,fun q=>aB.out q _ _ _,hK _ ?_⟩;clear hK K
 repeat (gi_big_quiet_step (fail))
 refine wpQuietIn_nil ?_;intro W7 aI;obtain⟨rg,aC⟩:=aI;have au:Below W1.heap.size W1 W7:=by rw [aC];exact below_regrown _ _ _
 have H7:=hid (H1.out.later au);have aG:=hid au;clear aC au r2 r3 r4 r5 x0 x1 x2 x3 x4 x5 x6 x7 zX aA aB;obtain⟨c0,c1,c6,c7⟩:=HX.out W7 aG.out;have zX:=aac c0;obtain⟨oa,oc,hm⟩:=H7.out.at_.outRow;obtain⟨-,zW,aH,aL⟩:=H7.out.at_.boxAt;have b7:=aH 7 _ rfl;rw [Aac,hm] at b7;have f7:=aL 7 (by omega);obtain⟨ol,aN⟩:∃n,n=s.out.length:=⟨_,rfl⟩
 rw [<-aN] at b7;have a1:Hid (ol=s.out.length∧ol<=200):=⟨aN,by rw [aN];exact H7.out.w.out.1⟩
 have Hm:=hid hm;clear aH aL hm
 by_cases h200:ol=200
 . have aj:=hid (HS.out.trans (if_pos (by rw [<-aN];exact h200)))
   have HQ:=hid (abR H7.out.at_ 5);subst h200;clear aN HS;go_wp2_with (first | (go_at_call 26;refine HQ.out.mono ?_;rintro e aK ⟨rfl,hw⟩;have HF:=hid hw;clear hw));go_ret;rw [aj.out];exact⟨rfl,_,_,HF.out⟩
 . have aj:=hid (HS.out.trans (if_neg (by rw [<-aN];exact h200)))
   have aX:decide ((ol:Int)=200)=false:=decide_eq_false (by omega);have cH:¬((ol:Int)=200):=by omega
   have av:W7.ownsRow base 3 1 (.slice oa ol oc) ol (s.out.map (Value.int .i64)):=by
    have h:=H7.out.at_.rows.own .out trivial;have e:walkC G F A iv V s .out=aay s.out:=rfl;rw [e,aa0,aa5,Hm.out,<-aN] at h;exact h
   have aP:=hid av;have cp:Hid (base<=W7.heap.size):=Aaj H7.out.at_.hb H7.out.at_.low.size;clear aN HS av h200;go_upto_region 33 with (fail)
   obtain⟨W8,a8⟩:∃W8,W8=W7.alloc (.cells #[.int .i64 VA] 3):=⟨_,rfl⟩
   have be:Below W7.heap.size W7 W8:=by rw [a8];exact bE
   have H8:=hid (H7.out.later be);have cO:=hid be;have cr:W8.cell? ⟨W7.heap.size,0,none⟩=some (.int .i64 VA):=by rw [a8];simp
   have bF:=aab b7 be;have bo:Hid (W8.ownsRow base 3 1 (.slice oa ol oc) ol (s.out.map (Value.int .i64))):=by
    have h:=H8.out.at_.rows.own .out trivial;have e:walkC G F A iv V s .out=aay s.out:=rfl;rw [e,aa0,aa5,Hm.out,<-a1.out.1] at h;exact h
   have bV:W8.heap.size=W7.heap.size+1:=by rw [a8];simp
   have HB:=hid a8;have cg:=hid bV;have f78:W8.frozen? ⟨WB,7,none⟩=false:=by rw [World.frozen?_of_block (w:=W7) (be.block WB zW)];exact f7
   have z8:=aac bF;have bD:Hid (∀w':World,W8.grownBy w' (V .out).ownBlock->w'.cell? ⟨WB,7,none⟩=some (.slice oa ol oc)∧w'.frozen? ⟨WB,7,none⟩=false):=fun w' hg=>by
    have cu:(V .out).ownBlock≠some WB:=fun e=>H8.out.at_.rows.apart .out .box trivial trivial (by intro e;cases e) WB e (by rw [H8.out.at_.box];rfl);have bf:=hg.block WB z8 fun e=>cu e.symm;exact⟨by rw [World.cell?_of_block (w:=W8) bf];exact bF,by rw [World.frozen?_of_block (w:=W8) bf];exact f78⟩
   clear a8 be bV f78 z8 bF
   go_wp2_with (first
    | (refine wpList_append_own_at _ rfl (.tmp 149) (.tmp 151) 26 rfl base 3 i0 _ 1 8 Tryd.underlying26 bJ cJ cK cL rfl (by decide) (.slice oa ol oc) ol (s.out.map (Value.int .i64)) rfl (by rw [<- HB.out]; exact bo.out) ⟨W7.heap.size, 0, none⟩ 1 1 [.int .i64 VA] rfl rfl ?_ ?_ ?_ ?_ ?_ ?_
       . intro j v hj
         match j, hj with
         | 0, hj => cases hj; rw [Addr.add_lit, <- HB.out]; exact cr
       . intro v hv
         rw [Aau.1 hv]; rfl
       . unfold maxLen; have := a1.out; omega
       . have := a1.out; omega
       . rw [<- HB.out, cg.out]; have := cp.out; omega
       intro v' w' ay ak aR aV
       rw [<- HB.out] at ak aV
       have e8 : (V .out).ownBlock = (Value.slice oa ol oc).ownBlock := by rw [Hm.out, a1.out.1]
       rw [<- e8] at ak aV
       obtain ⟨va, vc, rfl⟩ := abu ay
       obtain ⟨cq, cQ⟩ := bD.out w' ak
       have HP := hid (H8.out.at_.pushOut (v' := .slice va (ol + 1) vc) (n := VA) (W' := w') (by rw [Aat, <- a1.out.1]; exact ay) ak (fun k hk => by
        rcases aV with e | e
        . rw [e] at hk; exact .inl hk
        . rw [e] at hk; cases hk; exact .inr (Aad _)))
       have z9 := aac cq
       clear ay ak aR aV e8 b7 f7))
   go_ret;rw [aj.out];exact⟨rfl,_,_,HP.out⟩
theorem ac7.ins_call(h:ac7 u G F A S W0 base WB W V iv s t r f x)(hy:y∈x.list)(hop:y.op=20)(ha:SlAt S' W 2 aeL (.slice aa y.args.length ac) y.args) :
 Calls Tryd.prog 45 #[.pointer (some ⟨WB,0,none⟩),.agg #[.int .i64 20,.int .i64 y.dst,.bool y.a.reg,.int .i64 y.a.n,.bool y.b.reg,.int .i64 y.b.n,.int .i64 y.fn,.slice aa y.args.length ac]] W fun e w' =>
  e = .returned (.bool (s.ins u y).2)∧∃V' iv',aaG u G F A S W0 base WB w' V' iv' (s.ins u y).1:=by
 have af:s.top=t:=by unfold RnS.top;rw [h.fr];rfl
 have ho:=h.fo.ins _ x h.fw.blk y hy;obtain⟨n1,n2⟩:I64 y.a.n∧I64 y.b.n:=by
  have h2:=(h.num.vals f (Aah h.fw.fn) x (Aah h.fw.blk)).2.1 y hy;exact⟨h2.1,h2.2.1⟩
 obtain⟨al,an⟩:∃n,n=y.args.length:=⟨_,rfl⟩
 rw [<-an] at ha ⊢;obtain⟨W1,ai⟩:∃W1,W1=W.alloc (.cells #[.int .i64 20,.int .i64 y.dst,.bool y.a.reg,.int .i64 y.a.n,.bool y.b.reg,.int .i64 y.b.n,.int .i64 y.fn,.slice aa al ac] 63):=⟨_,rfl⟩
 have ar:Below W.heap.size W W1:=by rw [ai];exact bE
 have aD:W1.heap[W.heap.size]?=some (.cells #[.int .i64 20,.int .i64 y.dst,.bool y.a.reg,.int .i64 y.a.n,.bool y.b.reg,.int .i64 y.b.n,.int .i64 y.fn,.slice aa al ac] 63 (0,0)):=by rw [ai];exact heap_alloc_new _ _
 obtain⟨x0,x1,x2,x3,x4,x5,x6,x7⟩:=(aar (cs:=[_,_,_,_,_,_,_,_]) aD).get8;rw [Aac] at x1 x2 x3 x4 x5 x6 x7;obtain⟨XB,aq⟩:∃XB,XB=W.heap.size:=⟨_,rfl⟩
 rw [<-aq] at x0 x1 x2 x3 x4 x5 x6 x7;have zX:=aac x0;have HW:Hid (W1=W.alloc (.cells #[.int .i64 20,.int .i64 y.dst,.bool y.a.reg,.int .i64 y.a.n,.bool y.b.reg,.int .i64 y.b.n,.int .i64 y.fn,.slice aa al ac] 63)∧XB=W.heap.size):=⟨ai,aq⟩
 have H1:=hid (h.later ar);have Ha:=hid (ha.later aap ar);obtain⟨VA,ae⟩:∃z,z=aaX t.regs y.a:=⟨_,rfl⟩
 obtain⟨VB,ag⟩:∃z,z=aaX t.regs y.b:=⟨_,rfl⟩
 have aS:Hid (VA=aaX t.regs y.a∧I64 VA):=⟨ae,by rw [ae];exact aaE h.fw.num n1⟩
 have aT:Hid (VB=aaX t.regs y.b∧I64 VB):=⟨ag,by rw [ag];exact aaE h.fw.num n2⟩
 have aA:Hid (∀m d os,CallsIn Fence.wide m Tryd.prog 69 #[.pointer (some ⟨WB,0,none⟩),.agg #[.bool y.a.reg,.int .i64 y.a.n]] (grow (redrawn W1 d) os) fun e aw=>e = .returned (.int .i64 VA)∧∃p:Regrown,aw=grow (redrawn W1 p.d) p.os):=fun m d os=>by
  have h:=(H1.out.later (below_regrown W1 d os)).val ho.a;rw [<-ae] at h;exact CallsIn.regrown_of (callsIn_wide (n:=m).2 h)
 have aB:Hid (∀(q:Regrown) m d os,CallsIn Fence.wide m Tryd.prog 69 #[.pointer (some ⟨WB,0,none⟩),.agg #[.bool y.b.reg,.int .i64 y.b.n]] (grow (redrawn W1 d) os) fun e aw=>e = .returned (.int .i64 VB)∧∃p:Regrown,aw=grow (redrawn W1 p.d) p.os):=fun _ m d os=>by
  have h:=(H1.out.later (below_regrown W1 d os)).val ho.b;rw [<-ag] at h;exact CallsIn.regrown_of (callsIn_wide (n:=m).2 h)
 have r2:=cell_regrown x2;have r3:=cell_regrown x3;have r4:=cell_regrown x4;have r5:=cell_regrown x5;have HX:Hid (∀W5,Below W1.heap.size W1 W5->W5.cell? ⟨XB,0,none⟩=some (.int .i64 20)∧W5.cell? ⟨XB,1,none⟩=some (.int .i64 y.dst)∧W5.cell? ⟨XB,6,none⟩=some (.int .i64 y.fn)∧W5.cell? ⟨XB,7,none⟩=some (.slice aa al ac)):=fun W5 hb=>⟨aab x0 hb,aab x1 hb,aab x6 hb,aab x7 hb⟩
 have aE:=hid h.fr;have ad:=hid h.deep;have Ho:=hid ho;have Hy:=hid hy;have a6:=hid hop;have aO:=hid an;have ax:Hid (y.dst<(t.regs.length:Int)):=by
  have h1:=ho.dst.2;have h2:=h.fw.regs;have h3:=h.fo.pr;show y.dst<(t.regs.length:Int);omega
 obtain⟨bj,g0,bw,b1⟩:=(aej h.chk h.fw.fn h.fw.blk hy).1 hop;obtain⟨fn,bh⟩:∃k:Nat,y.fn=(k:Int):=Aao bj;rw [bh,Aag] at bw;rw [bh] at HX HW x6;rw [bh];have bI:=afF h.chk bw;have HS:Hid (s.ins u y=if s.frs.length=30 then (s.stop 4,false) else (s.enter u fn y.dst (y.args.map (aaX t.regs)),true)):=by
  show _=_;unfold RnS.ins;rw [hop,af,bh,Aag];rfl
 have bP:=hid bw;have br:=hid bI;have bQ:Hid ((al:Int)=g0.params):=by show _=_;rw [an];exact b1
 have ct:al<=6:=by have:=bQ.out;have:=bI.pr;omega
 have aZ:Hid (∀v∈y.args,VOk f.regs v∧I64 v.n):=fun v hv=>by
  have h2:=(h.num.vals f (Aah h.fw.fn) x (Aah h.fw.blk)).2.1 y hy;exact⟨ho.args v hv,h2.2.2 v hv⟩
 obtain⟨i0,bJ,bM,bN,bO⟩:=info_parts acr;clear bj bw b1 bI bh;clear h af ho n1 n2 ar aD ai aq ae ag ha an hy hop;go_enter Tryd.func45,Tryd.ntmps45;go_upto_region 1 with (fail)
 rw [<-HW.out.1,<-HW.out.2];clear HW;refine aaw (by kernel_rfl) (by kernel_rfl) ?_
 repeat (gi_big_quiet_step (fail))
 refine wpQuietIn_step (fun _ _ _ _=>trivial) (fun K hK=>?_);go_simp;refine⟨_,fun _=>aA.out _ _ _,hK _ ?_⟩;clear hK K
 repeat (gi_big_quiet_step (fail))
 refine wpQuietIn_step (fun _ _ _ _=>trivial) (fun K hK=>?_);go_simp;refine⟨_,fun q=>aB.out q _ _ _,hK _ ?_⟩;clear hK K
 repeat (gi_big_quiet_step (fail))
 refine wpQuietIn_nil ?_;intro W7 aI;obtain⟨rg,aC⟩:=aI;have au:Below W1.heap.size W1 W7:=by rw [aC];exact below_regrown _ _ _
 have H7:=hid (H1.out.later au);have aG:=hid au;clear aC au r2 r3 r4 r5 x0 x1 x2 x3 x4 x5 x6 x7 zX aA aB;obtain⟨c0,c1,c6,c7⟩:=HX.out W7 aG.out;have zX:=aac c0;obtain⟨g,fc,hv,cx,-,-,-,-⟩:=H7.out.at_.topAt aE.out;obtain⟨-,zW,aH,-⟩:=H7.out.at_.boxAt;have b5:=aH 9 _ rfl;obtain⟨n,aX⟩:∃n,n=r.length:=⟨_,rfl⟩
 rw [Aac,hv,<-aX] at b5;have HN:Hid (n=r.length∧n+1<=30∧s.frs.length=n+1):=⟨aX,by rw [aX];exact ad.out,by rw [aE.out,aX];rfl⟩
 clear aH hv cx aX
 by_cases h30:n+1=30
 . have aj:=hid (HS.out.trans (if_pos (by rw [HN.out.2.2];exact h30)))
   have HQ:=hid (abR H7.out.at_ 4);have bL:n=29:=by omega
   subst bL;clear HS h30;go_wp2_with (first | (go_at_call 26;refine HQ.out.mono ?_;rintro e aK ⟨rfl,hw⟩;have HF:=hid hw;clear hw));go_ret;rw [aj.out];exact⟨rfl,_,_,HF.out⟩
 . have aj:=hid (HS.out.trans (if_neg (by rw [HN.out.2.2];exact h30)))
   have cF:¬((n:Int)+1=30):=by omega
   have cV:decide ((n:Int)+1=30)=false:=decide_eq_false cF;obtain⟨NX,bt⟩:∃NX:List Int,NX=y.args.map (aaX t.regs):=⟨_,rfl⟩
   have ch:=hid bt;have aM:Hid (NX.length=al):=by show _=_;rw [bt,Aal];exact aO.out.symm
   rw [<-bt] at aj;clear HS h30 bt;go_wp2_with fail;go_loopw [7,88] (fun s7 s88 wr=>∃k:Nat,k<=al∧s88 = .int .i64 (k:Int)∧aav W7.heap.size wr s7 (NX.take k)∧Below W7.heap.size W7 wr) (fun _ s88 _=>al - (intOf s88).toNat)
   case atStart=>exact⟨0,Aaf _,rfl,aav.nil _ _,Below.refl _ _⟩
   case round =>
    obtain⟨k,hk,rfl,av,hb⟩:=hrel;have Hb:=hid hb
    by_cases hkl:k<al
    . have bl:(NX.take k).length=k:=by rw [Aa4,aM.out];omega
      obtain⟨va,vc,he⟩:=av.shape;rw [bl] at he;subst he;have aP:Hid (∀W5,Below wr.heap.size wr W5->W5.ownsRow W7.heap.size 3 1 (.slice va k vc) k ((NX.take k).map (Value.int .i64))):=fun W5 aW=>by
       have h:=(av.later aW).1;rw [bl] at h;exact h
      have a7:Hid (∀y∈NX.take k,I64 y):=av.2;have bx:k<y.args.length:=by rw [<-aO.out];exact hkl
      have b9:SlAt S' wr 2 aeL (.slice aa al ac) y.args:=(Ha.out.later aap aG.out).later aap Hb.out;obtain⟨vb,cN,cP,rfl,-,⟨rfl,cG⟩,-,bg⟩:=b9.get bx;obtain⟨q0,q1⟩:=bg.get2;obtain⟨bq,bp⟩:=aZ.out _ (Aai bx);obtain⟨X,hX⟩:∃X,X=aaX t.regs y.args[k]:=⟨_,rfl⟩
      have bB:Hid (NX[k]?=some X):=by
       show _=_;rw [ch.out,Aap,Aaa bx,hX];rfl
      have cn:Hid (I64 X):=by
       show I64 X;rw [hX];exact aaE H7.out.fw.num bp
      have HV:Hid (∀W5,Below wr.heap.size wr W5->Calls Tryd.prog 69 #[.pointer (some ⟨WB,0,none⟩),.agg #[.bool y.args[k].reg,.int .i64 y.args[k].n]] W5 fun e w'=>e = .returned (.int .i64 X)∧Below W5.heap.size W5 w'):=fun W5 aW=>by
       rw [hX];exact ((H7.out.later Hb.out).later aW).val bq
      obtain⟨vr,cf⟩:∃b,b=y.args[k].reg:=⟨_,rfl⟩
      obtain⟨vn,cc⟩:∃n,n=y.args[k].n:=⟨_,rfl⟩
      rw [<-cf] at q0 HV;rw [<-cc] at q1 HV;have zq:=aac q0;clear b9 bg cG bq bp hX cf cc av hb bx;go_upto_region 21 with (fail)
      obtain⟨W4,bu⟩:∃W4,W4=wr.alloc (.cells #[.bool vr,.int .i64 vn] 42):=⟨_,rfl⟩
      have bY:Below wr.heap.size wr W4:=by rw [bu];exact bE
      have bG:W4.heap[wr.heap.size]?=some (.cells #[.bool vr,.int .i64 vn] 42 (0,0)):=by rw [bu];exact heap_alloc_new _ _
      rw [<-bu];obtain⟨PB,bW⟩:∃PB,PB=wr.heap.size:=⟨_,rfl⟩
      rw [<-bW] at bG ⊢;obtain⟨y0,y1⟩:=(aar (cs:=[_,_]) bG).get2;rw [Aac] at y1;have zy:=aac y0;have bC:=hid bY;clear bu bY bG bW q0 q1 zq
      go_upto_region 22 with (first
       | (go_at_call 69; refine (HV.out W4 bC.out).mono ?_; rintro e W5 ⟨rfl, aW⟩; have aU : Hid (Below wr.heap.size wr W5) := bC.out.trans (aW.mono bC.out.size); clear aW)
       | (refine wpList_append_own_at _ rfl (.tmp 92) (.tmp 96) 26 rfl W7.heap.size 3 i0 _ 1 8 Tryd.underlying26 bJ bM bN bO rfl (by decide) (.slice va k vc) k ((NX.take k).map (Value.int .i64)) rfl (aP.out _ (by have h := aU.out; exact bE1 h)) ⟨W5.heap.size, 0, none⟩ 1 1 [.int .i64 X] rfl rfl ?_ ?_ ?_ ?_ ?_ ?_
          . intro j v hj
            match j, hj with
            | 0, hj => cases hj; rw [Addr.add_lit]; simp
          . intro v hv
            rw [Aau.1 hv]; rfl
          . unfold maxLen; omega
          . omega
          . have h1 := Hb.out.size
            have h2 := aU.out.size
            simp
            omega
          intro v' w' ay ak aR aV
          have cj := hid ay
          have HG : Hid (Below W7.heap.size W7 w') := by
           refine Below.grown ?_ ak ?_ ?_
           . exact Hb.out.trans ((aU.out.alloc aU.out.size _).mono Hb.out.size)
           . exact (Hb.out.trans ((aU.out.alloc aU.out.size _).mono Hb.out.size)).size
           . exact fun q hq => ((aP.out wr (Below.refl _ _)).lt q hq).1
          clear ay ak aR aV))
      have cm:Hid (aav W7.heap.size w' v' (NX.take (k+1))):=by
       have b6:k<NX.length:=by rw [aM.out];exact hkl
       have bX:=bB.out;rw [Aaa b6] at bX;have e:NX.take (k+1)=NX.take k++[X]:=by rw [Aaz b6,Option.some.inj bX]
       refine⟨?_,fun y hy=>?_⟩
       . rw [e,Aak,Aat,Aa4,aM.out,Nat.min_eq_left (by omega)]
         exact cj.out
       . rw [e] at hy
         rcases Aaw.1 hy with hy | hy
         . exact a7.out y hy
         . rw [Aau.1 hy];exact cn.out
      go_wp2_with fail;go_roundw
      case rel=>exact⟨k+1,by omega,by go_num,cm.out,HG.out⟩
      case measure=>simp [intOf];omega
    . have cC:k=al:=by omega
      subst cC;have bl:(NX.take k).length=k:=by rw [Aa4,aM.out];omega
      obtain⟨va,vc,he⟩:=av.shape;rw [bl] at he;subst he;have bd:NX.take k=NX:=by rw [<-aM.out,Aa0]
      rw [bd] at av;have ca:SlAt (fun b=>W7.heap.size<=b) wr 1 abe (.slice va NX.length vc) NX:=by
       have h:=av.sl;rw [aM.out];exact h.mono aaf (fun b hb=>hb.1) (aaD.refl _ _)
      have H9:=H7.out.later Hb.out;obtain⟨d0,d1,d6,d7⟩:=HX.out wr (aG.out.trans (Hb.out.mono aG.out.size));have zX:=aac d0;obtain⟨cl,hc,cw,b0⟩:=H9.w.cnt.2 fn g0 bP.out;obtain⟨fa,fl,cR,hF⟩:=H9.fF;have HQ:=hid (afu H9.at_ bP.out hF ⟨by have:=br.out.pr;omega,by have:=br.out.pr;omega⟩ y.dst ca (by have:=bQ.out;have:=br.out.pr;have:=aM.out;omega) hc ⟨by have:=br.out.len;omega,fun v hv=>by have:=b0 v hv;have:=H9.steps;omega⟩ (by have:=HN.out;omega));rw [aM.out] at HQ;clear H9 ca av bd bl hb hkl hk hc cw b0 hF c0 c1 c6 c7;go_wp2_with (first | (go_at_call 23;refine HQ.out.mono ?_;rintro e aK ⟨rfl,V9,hw⟩;have HF:=hid hw;clear hw));go_ret;rw [aj.out];exact⟨rfl,_,_,HF.out⟩
theorem ac7.ins(h:ac7 u G F A S W0 base WB W V iv s t r f x)(hy:y∈x.list)(ha:SlAt S' W 2 aeL (.slice aa y.args.length ac) y.args) :
 Calls Tryd.prog 45 #[.pointer (some ⟨WB,0,none⟩),.agg #[.int .i64 y.op,.int .i64 y.dst,.bool y.a.reg,.int .i64 y.a.n,.bool y.b.reg,.int .i64 y.b.n,.int .i64 y.fn,.slice aa y.args.length ac]] W fun e w' =>
  e = .returned (.bool (s.ins u y).2)∧∃V' iv',aaG u G F A S W0 base WB w' V' iv' (s.ins u y).1:=by
 have ho:=(h.fo.ins _ x h.fw.blk y hy).op
 by_cases h17:y.op<=17
 . exact h.ins_two hy ho.1 h17 rfl ha
 by_cases h18:y.op=18
 . rw [h18];exact h.ins_load hy h18 ha
 by_cases h19:y.op=19
 . rw [h19];exact h.ins_store hy h19 ha
 by_cases h20:y.op=20
 . rw [h20];exact h.ins_call hy h20 ha
 by_cases h21:y.op=21
 . rw [h21];exact h.ins_read hy h21 ha
 have bU:y.op=22:=by omega
 rw [bU];exact h.ins_print hy bU ha
end
end Go.Proofs.YtgekbfgplclmeaaDoor
