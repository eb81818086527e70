/- calls.CopyFunc: the walk, with all rows. A unit's functions in memory, each with all its rows. calls.Copy: the walk, with all rows. -/
import Derived.Test.YtnkogppgacappaaGreatDoorPCopyRB
import Derived.Deep.RegionLaw
import Derived.Deep.RegionWith
import Derived.Test.YtnkogppgacappaaGreatDoorPDelF
import Derived.Test.YtnkogppgacappaaGreatDoorPCloneR
namespace Go.Proofs.YtnkogppgacappaaGreatDoor
open Go.RowKit

def isK (k : Nat) : Pth → Bool
 | .phis c=>c == k
 | .src c _=>c == k
 | .list c=>c == k
 | .args c _=>c == k
 | .to c=>c == k
 | _=>false
theorem blkOf_take {bs:List DBlock}{b k:Nat}(h:b<k):blkOf (bs.take k) b=blkOf bs b:=by
 unfold blkOf;rw [List.getD_eq_getElem?_getD,List.getD_eq_getElem?_getD,List.getElem?_take,if_pos h]
theorem blkOf_take_ge {bs:List DBlock}{b k:Nat}(h:k≤b):blkOf (bs.take k) b=noBlkP:=blkOf_out (by rw [List.length_take];omega)
theorem fun_next {wr w2 w6 w9 : World} {base B k : Nat} {bs : List DBlock} {x : DBlock} {V V2 : Pth → Value} (h : FunSt wr base (bs.take k) V) (hx : bs[k]? = some x) (hb : Below wr.heap.size wr w2) (h2 : RowsAt w2 B (okX k x) V2 (elX x V2)) (hB : wr.heap.size ≤ B) (hbase : base ≤ wr.heap.size)
 (h6:Below w2.heap.size w2 w6) {v':Value} (hown:w9.ownsRow base 76 6 v' (k+1) ((elemsP (bs.take k) V .blks).flatten++cellsB x (V2 (.phis k)) (V2 (.list k)) (V2 (.to k)))) (hg:w6.grownBy w9 (V .blks).ownBlock)
 (hat:v'.ownBlock=(V .blks).ownBlock∨v'.ownBlock=some w6.heap.size):FunSt w9 base (bs.take (k+1)) (updP (fun q=>if isK k q=true then V2 q else V q) .blks v'):=by
 have hkl:=(List.getElem?_eq_some_iff.1 hx).1;have hbk:blkOf bs k=x:=blkOf_at hx;have hn:∀q,okP (bs.take k) q→isK k q=false:=fun q hq=>by
  cases q with
  | blks=>rfl
  | phis c=>have:c<_:=hq;rw [List.length_take] at this;show (c == k)=false;simp;omega
  | src c i =>
    by_cases hc:c<k
    · show (c == k)=false;simp;omega
    · have h3:i<(blkOf (bs.take k) c).phis.length:=hq
      rw [blkOf_take_ge (by omega)] at h3;exact absurd h3 (Nat.not_lt_zero _)
  | list c=>have:c<_:=hq;rw [List.length_take] at this;show (c == k)=false;simp;omega
  | args c i =>
    by_cases hc:c<k
    · show (c == k)=false;simp;omega
    · have h3:i<(blkOf (bs.take k) c).list.length:=hq
      rw [blkOf_take_ge (by omega)] at h3;exact absurd h3 (Nat.not_lt_zero _)
  | «to» c=>have:c<_:=hq;rw [List.length_take] at this;show (c == k)=false;simp;omega
  | _=>exact absurd hq (by simp [okP])
 have hy:∀q,okX k x q→isK k q=true:=fun q hq=>by
  cases q with
  | phis c=>show (c == k)=true;simp;exact hq
  | src c i=>show (c == k)=true;simp;exact hq.1
  | list c=>show (c == k)=true;simp;exact hq
  | args c i=>show (c == k)=true;simp;exact hq.1
  | «to» c=>show (c == k)=true;simp;exact hq
  | _=>exact absurd hq (by simp [okX])
 have j:=RowsAt.join (isK k) (RowsAt.later h hb) h2 (Nat.le_trans hbase hB) (fun q hq c hc=>Nat.lt_of_lt_of_le (RowsAt.lt h hq c hc).2 hB) hn hy;have j6:=RowsAt.later j h6;have hxss:(elemsP (bs.take k) V .blks++[cellsB x (V2 (.phis k)) (V2 (.list k)) (V2 (.to k))]:List (List Value)).flatten=(elemsP (bs.take k) V .blks).flatten++cellsB x (V2 (.phis k)) (V2 (.list k)) (V2 (.to k)):=by simp
 have hlen:(elemsP (bs.take k) V .blks++[cellsB x (V2 (.phis k)) (V2 (.list k)) (V2 (.to k))]:List (List Value)).length=k+1:=by simp [elemsP];omega
 have r9 := j6.put .blks (v' := v') (xss := elemsP (bs.take k) V .blks ++ [cellsB x (V2 (.phis k)) (V2 (.list k)) (V2 (.to k))]) (by rw [hxss, hlen]; exact hown) (fun cs hcs => by
  rcases List.mem_append.1 hcs with h3 | h3
  · exact RowsAt.wid h .blks trivial cs h3
  · rw [List.mem_singleton] at h3; rw [h3]; rfl) hg (fun q hq hne c hc e => by
  rcases hq with hq | hq
  · simp only [hn q hq, Bool.false_eq_true, if_false] at hc
    exact RowsAt.apart h q .blks hq trivial hne c hc e
  · simp only [hy q hq, if_true] at hc
    have := (h2.lt hq c hc).1
    have := (RowsAt.lt h (p := .blks) trivial c e).2
    omega) (fun c hc => by
  rcases hat with h3 | h3
  · exact .inl (by rw [← h3]; exact hc)
  · rw [h3] at hc; cases hc; exact .inr (Nat.le_refl _))
 have hsp:∀c,c<k→blkOf (bs.take (k+1)) c=blkOf (bs.take k) c:=fun c hc=>by rw [blkOf_take (by omega),blkOf_take hc]
 have hkk:blkOf (bs.take (k+1)) k=x:=by rw [blkOf_take (by omega),hbk]
 have hlt:∀c,c<(bs.take (k+1)).length→c=k∨c<k:=fun c hc=>by rw [List.length_take] at hc;omega
 have hin:∀c,c<k→c<(bs.take k).length:=fun c hc=>by rw [List.length_take];omega
 refine (r9.less (ok':=okP (bs.take (k+1))) fun q hq=>?_).congr (fun q _=>rfl) (fun q hq=>?_)
 · cases q with
   | blks=>exact .inr rfl
   | phis c =>
     rcases hlt c hq with h3 | h3
     · exact .inl (.inr h3)
     · exact .inl (.inl (hin c h3))
   | src c i =>
     by_cases hc:c<k
     · exact .inl (.inl (by show i<_;rw [←hsp c hc];exact hq))
     · by_cases e:c=k
       · subst e;exact .inl (.inr ⟨rfl,by have h3:i<_:=hq;rw [hkk] at h3;exact h3⟩)
       · have h3:i<(blkOf (bs.take (k+1)) c).phis.length:=hq
         rw [blkOf_take_ge (by omega)] at h3;exact absurd h3 (Nat.not_lt_zero _)
   | list c =>
     rcases hlt c hq with h3 | h3
     · exact .inl (.inr h3)
     · exact .inl (.inl (hin c h3))
   | args c i =>
     by_cases hc:c<k
     · exact .inl (.inl (by show i<_;rw [←hsp c hc];exact hq))
     · by_cases e:c=k
       · subst e;exact .inl (.inr ⟨rfl,by have h3:i<_:=hq;rw [hkk] at h3;exact h3⟩)
       · have h3:i<(blkOf (bs.take (k+1)) c).list.length:=hq
         rw [blkOf_take_ge (by omega)] at h3;exact absurd h3 (Nat.not_lt_zero _)
   | «to» c =>
     rcases hlt c hq with h3 | h3
     · exact .inl (.inr h3)
     · exact .inl (.inl (hin c h3))
   | _=>exact absurd hq (by simp [okP])
 · cases q with
   | blks =>
     rw [updP_self];show (bs.take (k+1)).mapIdx _=(bs.take k).mapIdx _++_;rw [take_snoc hx,mapIdx_snoc]
     congr 1
     · refine mapIdx_congr fun i y hi=>?_
       have hik:i<k:=by have:=(List.getElem?_eq_some_iff.1 hi).1;rw [List.length_take] at this;omega
       have hf:(i == k)=false:=by simp;omega
       simp only [updP,isK,hf,reduceCtorEq,if_false,Bool.false_eq_true]
     · rw [List.length_take,Nat.min_eq_left (by omega)]
       simp only [updP,isK,reduceCtorEq,if_false,beq_self_eq_true,if_true]
   | phis c =>
     rw [updP_ne _ _ (by simp)];rcases hlt c hq with h3 | h3
     · subst h3
       have hf:isK c (.phis c)=true:=by simp [isK]
       simp only [hf,if_true,elemsP,elX,hkk];refine mapIdx_congr fun i y _=>?_;simp [updP,isK]
     · have hf:isK k (.phis c)=false:=by simp [isK];omega
       simp only [hf,Bool.false_eq_true,if_false,elemsP,hsp c h3];refine mapIdx_congr fun i y _=>?_;have:¬c=k:=by omega
       simp [updP,isK,this]
   | src c i =>
     rw [updP_ne _ _ (by simp)]
     by_cases hc:c<k
     · have hf:isK k (.src c i)=false:=by simp [isK];omega
       simp only [hf,Bool.false_eq_true,if_false,elemsP,hsp c hc]
     · by_cases e:c=k
       · subst e
         have hf:isK c (.src c i)=true:=by simp [isK]
         simp only [hf,if_true,elemsP,elX,hkk]
       · have h3:i<(blkOf (bs.take (k+1)) c).phis.length:=hq
         rw [blkOf_take_ge (by omega)] at h3;exact absurd h3 (Nat.not_lt_zero _)
   | list c =>
     rw [updP_ne _ _ (by simp)];rcases hlt c hq with h3 | h3
     · subst h3
       have hf:isK c (.list c)=true:=by simp [isK]
       simp only [hf,if_true,elemsP,elX,hkk];refine mapIdx_congr fun i y _=>?_;simp [updP,isK]
     · have hf:isK k (.list c)=false:=by simp [isK];omega
       simp only [hf,Bool.false_eq_true,if_false,elemsP,hsp c h3];refine mapIdx_congr fun i y _=>?_;have:¬c=k:=by omega
       simp [updP,isK,this]
   | args c i =>
     rw [updP_ne _ _ (by simp)]
     by_cases hc:c<k
     · have hf:isK k (.args c i)=false:=by simp [isK];omega
       simp only [hf,Bool.false_eq_true,if_false,elemsP,hsp c hc]
     · by_cases e:c=k
       · subst e
         have hf:isK c (.args c i)=true:=by simp [isK]
         simp only [hf,if_true,elemsP,elX,hkk]
       · have h3:i<(blkOf (bs.take (k+1)) c).list.length:=hq
         rw [blkOf_take_ge (by omega)] at h3;exact absurd h3 (Nat.not_lt_zero _)
   | «to» c =>
     rw [updP_ne _ _ (by simp)];rcases hlt c hq with h3 | h3
     · subst h3
       have hf:isK c (.to c)=true:=by simp [isK]
       simp only [hf,if_true,elemsP,elX,hkk]
     · have hf:isK k (.to c)=false:=by simp [isK];omega
       simp only [hf,Bool.false_eq_true,if_false,elemsP,hsp c h3]
   | _=>exact absurd hq (by simp [okP])

set_option maxRecDepth 100000 in
set_option maxHeartbeats 8000000 in
theorem copyFun_rows {S:Nat→Prop}(nm:ByteArray)(p r:Int)(ba:Option Addr)(n bc:Nat)(bs:List DBlock)(w:World)(hb:SlAt S w 6 rBlock (.slice ba n bc) bs)(hbn:bs.length=n)(hn:n≤1048576)(hsm:∀x∈bs,SmallB x) :
 Calls Tryz.prog 66 #[.agg #[.string nm,.int .i64 p,.int .i64 r,.slice ba n bc]] w fun e w' =>
  ∃V,e = .returned (.agg #[.string nm,.int .i64 p,.int .i64 r,V .blks])∧FunSt w' w.heap.size bs V∧Below w.heap.size w w':=by
 obtain⟨ib,hib,hbz0,hbz1,hbz2⟩:=info_parts infoBlock;have Hb:=hid hb;have Hbn:=hid hbn;have Hsm:=hid hsm;clear hb hbn hsm;go_enter Tryz.func66,Tryz.ntmps66;go_upto_region 1 with (fail)
 obtain⟨W,hW⟩:∃W,W=(w.alloc (.cells #[.string nm,.int .i64 p,.int .i64 r,.slice ba n bc] 38)).alloc (.cells #[.string ⟨#[]⟩,.int .i64 0,.int .i64 0,.slice none 0 0] 38):=⟨_,rfl⟩
 obtain⟨hWs,h0,h1⟩:=two_cells w (.cells #[.string nm,.int .i64 p,.int .i64 r,.slice ba n bc] 38) (.cells #[.string ⟨#[]⟩,.int .i64 0,.int .i64 0,.slice none 0 0] 38);rw [←hW] at hWs h0 h1 ⊢;have hbW:Below w.heap.size w W:=by rw [hW];(repeat (first | exact Below.refl _ _ | refine Below.alloc ?_ (by first|omega|(simp<;>omega)) _ | refine Below.setCell ?_ (by first|omega|(simp<;>omega)) _ | refine below_drewN ?_ _ | refine Below.drew ?_))
 obtain⟨UB,hUB⟩:∃UB,UB=w.heap.size:=⟨_,rfl⟩
 obtain⟨UO,hUO⟩:∃UO,UO=w.heap.size+1:=⟨_,rfl⟩
 rw [←hUO] at h1 ⊢;rw [←hUB] at h0 ⊢;have HUs:Hid (UB=w.heap.size∧UO=w.heap.size+1∧W.heap.size=w.heap.size+2):=⟨hUB,hUO,hWs⟩
 have H0:=hid h0;have H1:=hid h1;have HbW:=hid hbW;have c3:=(cells_of (cs:=[_,_,_,_]) h0) 3 _ rfl;rw [Nat.zero_add] at c3;have f3:=thawed h0 3;have zB:=cell_lt c3;clear hW h0 h1 hbW hUB hUO hWs;go_upto_region 3 with (fail)
 obtain⟨W3,hW3⟩:∃W3,W3=W.setCell ⟨UB,3,none⟩ (.slice none 0 0):=⟨_,rfl⟩
 have hub3:W3.heap[UB]?=some (.cells #[.string nm,.int .i64 p,.int .i64 r,.slice none 0 0] 38 (0,0)):=by rw [hW3,heap_set_row (i:=3) H0.out];rfl
 have hk3:Kp (fun c=>c≠UB) W W3:=by rw [hW3];exact kp_one _ _ _ _
 have hs3:W3.heap.size=W.heap.size:=by rw [hW3];simp [World.setCell]
 rw [←hW3];have huo3:=(hk3.block UO (Array.getElem?_eq_some_iff.1 H1.out).1 (by have:=HUs.out;omega)).trans H1.out;have hb3:Below w.heap.size w W3:=HbW.out.trans (hk3.below fun c hc=>⟨by have:=HUs.out;omega,by have:=HUs.out;omega⟩);have Hub3:=hid hub3;have Huo3:=hid huo3;have Hs3:=hid hs3;have Hb3:=hid hb3;have hnil:FunSt W3 W.heap.size (bs.take 0) (fun _ => .slice none 0 0):=by
  refine⟨fun q hq=>?_,fun q hq=>?_,fun q1 q2 _ _ _ c hc=>by cases hc⟩
  · cases q with
    | blks=>exact World.ownsRow_nil _ _ _ _
    | phis c=>exact absurd (show c<0 from hq) (Nat.not_lt_zero _)
    | src c i=>exact absurd (show i<0 from hq) (Nat.not_lt_zero _)
    | list c=>exact absurd (show c<0 from hq) (Nat.not_lt_zero _)
    | args c i=>exact absurd (show i<0 from hq) (Nat.not_lt_zero _)
    | «to» c=>exact absurd (show c<0 from hq) (Nat.not_lt_zero _)
    | _=>exact absurd hq (by simp [okP])
  · cases q with
    | blks=>intro cs hcs;cases hcs
    | phis c=>exact absurd (show c<0 from hq) (Nat.not_lt_zero _)
    | src c i=>exact absurd (show i<0 from hq) (Nat.not_lt_zero _)
    | list c=>exact absurd (show c<0 from hq) (Nat.not_lt_zero _)
    | args c i=>exact absurd (show i<0 from hq) (Nat.not_lt_zero _)
    | «to» c=>exact absurd (show c<0 from hq) (Nat.not_lt_zero _)
    | _=>exact absurd hq (by simp [okP])
 have Hnil:=hid hnil;clear hW3 hub3 hk3 hs3 huo3 hb3 hnil c3 f3 zB;go_wp2_with fail;go_loopw [11] (fun s11 wr=>∃(k:Nat) (V:Pth→Value) (va:Option Addr) (vc:Nat),k≤n∧s11 = .int .i64 (k:Int)∧V .blks = .slice va k vc∧FunSt wr W.heap.size (bs.take k) V∧wr.heap[UB]?=some (.cells #[.string nm,.int .i64 p,.int .i64 r,.slice va k vc] 38 (0,0))∧Kp (fun c=>c<W.heap.size∧c≠UB) W3 wr) (fun s11 _=>n - (intOf s11).toNat)
 case atStart=>exact⟨0,_,none,0,Nat.zero_le _,rfl,rfl,Hnil.out,Hub3.out,Kp.refl _ _⟩
 case round =>
  obtain⟨wo,hwo⟩:∃wo:World,wo=wr:=⟨_,rfl⟩
  subst hwo;obtain⟨k,V,va,vc,hk,rfl,hVb,hfun,hub,hkp⟩:=hrel;have hsz:W.heap.size≤wo.heap.size:=by have:=hkp.size;have:=Hs3.out;omega
  have hlow:Below w.heap.size w wo:=Hb3.out.trans (hkp.below fun c hc=>⟨by have:=HUs.out;have:=Hs3.out;omega,by have:=HUs.out;omega⟩)
  by_cases hkn:k<n
  · have hkl:k<bs.length:=by rw [Hbn.out];exact hkn
    obtain⟨x,hx⟩:∃x,bs[k]?=some x:=⟨_,List.getElem?_eq_getElem hkl⟩
    obtain⟨gb,off,pa,pc,la,lc,ta,tc,rfl,hcs,hp,hl,ht,hd1,hd2⟩:=block_at (Hb.out.later rBlock_mono hlow) hkl;have e9:bs[k]=x:=by rw [List.getElem?_eq_getElem hkl] at hx;exact Option.some.inj hx
    rw [e9] at hcs hp hl ht;obtain⟨pn,hpn⟩:∃pn,pn=x.phis.length:=⟨_,rfl⟩
    obtain⟨ln,hln⟩:∃ln,ln=x.list.length:=⟨_,rfl⟩
    obtain⟨tn,htn⟩:∃tn,tn=x.fin.to.length:=⟨_,rfl⟩
    obtain⟨ek,hek⟩:∃ek,ek=x.fin.kind:=⟨_,rfl⟩
    obtain⟨er,her⟩:∃er,er=x.fin.on.reg:=⟨_,rfl⟩
    obtain⟨en,hen⟩:∃en,en=x.fin.on.n:=⟨_,rfl⟩
    rw [←hpn,←hln,←htn,←hek,←her,←hen] at hcs;rw [←hpn] at hp;rw [←hln] at hl;rw [←htn] at ht;obtain⟨d0,d1,d2,d3,d4,d5⟩:=hcs.get6;have zg:=cell_lt d0;have k3:=(cells_of (cs:=[_,_,_,_]) hub) 3 _ rfl;rw [Nat.zero_add] at k3;have g3:=thawed hub 3;have zU:=cell_lt k3;have Hfun:=hid hfun;have Hub:=hid hub;have Hkp:=hid hkp;have HVb:=hid hVb;have Hx:=hid hx;have Hp:=hid hp;have Hl:=hid hl;have Ht:=hid ht;have HxD:Hid (pn=x.phis.length∧ln=x.list.length∧tn=x.fin.to.length∧ek=x.fin.kind∧er=x.fin.on.reg∧en=x.fin.on.n):=⟨hpn,hln,htn,hek,her,hen⟩
    clear hkl hx hcs hp hl ht hd1 hd2 e9 hpn hln htn hek her hen hfun hub hkp hVb;go_upto_region 6 with (fail)
    obtain⟨BB,hBB⟩:∃BB,BB=wo.heap.size:=⟨_,rfl⟩
    obtain⟨W4,hW4⟩:∃W4,W4=wo.alloc (.cells #[.slice pa pn pc,.slice la ln lc,.int .i64 ek,.bool er,.int .i64 en,.slice ta tn tc] 76):=⟨_,rfl⟩
    have hl4:W4.heap[BB]?=some (.cells #[.slice pa pn pc,.slice la ln lc,.int .i64 ek,.bool er,.int .i64 en,.slice ta tn tc] 76 (0,0)):=by rw [hW4,hBB];exact heap_alloc_new _ _
    have hb4:Below wo.heap.size wo W4:=by rw [hW4];(repeat (first | exact Below.refl _ _ | refine Below.alloc ?_ (by first|omega|(simp<;>omega)) _ | refine Below.setCell ?_ (by first|omega|(simp<;>omega)) _ | refine below_drewN ?_ _ | refine Below.drew ?_))
    rw [←hW4,←hBB];have HBB:Hid (BB=wo.heap.size∧W4.heap.size=BB+1):=⟨hBB,by rw [hW4,hBB];simp⟩
    obtain⟨b0,b1,b2,b3,b4,b5⟩:=(cells_of (cs:=[_,_,_,_,_,_]) hl4).get6;rw [Nat.zero_add] at b1 b2 b3 b4 b5;have k3':=cell_later' k3 hb4;have g3':=(hb4.frozen (p:=⟨UB,3,none⟩) zU).trans g3;have zU4:=cell_lt k3';have zB4:=cell_lt b0;have hcb:=copyBlk_rows (S:=S) k x pa la ta pn ln tn pc lc tc W4.drew (Hp.out.later rPhi_mono hb4.drew) (Hl.out.later rIns_mono hb4.drew) (Ht.out.later rInt_mono hb4.drew) (Hsm.out x (List.mem_of_getElem? Hx.out)) HxD.out.1.symm HxD.out.2.1.symm HxD.out.2.2.1.symm;rw [←HxD.out.2.2.2.1,←HxD.out.2.2.2.2.1,←HxD.out.2.2.2.2.2] at hcb;have Hcb:=hid hcb;have Hb4:=hid hb4;have Hl4:=hid hl4;have Hlow:=hid hlow;clear hBB hW4 hl4 hb4 hcb hlow d0 d1 d2 d3 d4 d5 zg k3 g3 zU
    go_region_law
     ((first
       | (go_simp; go_at_call 77; refine Hcb.out.mono ?_; rintro e w5 ⟨V2, rfl, hr2, hb5⟩
          have hb45 : Below W4.heap.size W4 w5 := (Below.refl W4.heap.size W4).drew.trans hb5
          obtain ⟨xa1, xc1, hx1⟩ := RowsAt.shape (p := .phis k) hr2 rfl
          obtain ⟨xa2, xc2, hx2⟩ := RowsAt.shape (p := .list k) hr2 rfl
          obtain ⟨xa3, xc3, hx3⟩ := RowsAt.shape (p := .to k) hr2 rfl
          rw [show (elX x V2 (.phis k)).length = pn by simp [elX]; exact HxD.out.1.symm] at hx1
          rw [show (elX x V2 (.list k)).length = ln by simp [elX]; exact HxD.out.2.1.symm] at hx2
          rw [show (elX x V2 (.to k)).length = tn by simp [elX]; exact HxD.out.2.2.1.symm] at hx3
          rw [hx1, hx2, hx3]
          have k5 := cell_later' k3' hb45
          have g5 := (hb45.frozen (p := ⟨UB, 3, none⟩) zU4).trans g3'
          have zU5 := cell_lt k5
          have Hr2 := hid hr2
          have Hb45 := hid hb45
          have HX : Hid (V2 (.phis k) = .slice xa1 pn xc1 ∧ V2 (.list k) = .slice xa2 ln xc2 ∧ V2 (.to k) = .slice xa3 tn xc3) := ⟨hx1, hx2, hx3⟩
          clear hr2 hb5 hb45 hx1 hx2 hx3)
       | (refine step_append_row rfl _ _ 36 rfl W.heap.size 76 ib (.agg #[.slice none 0 0, .slice none 0 0, .int .i64 0, .bool false, .int .i64 0, .slice none 0 0]) 6 96 Tryz.underlying36 hib hbz0 hbz1 hbz2 rfl (by decide) (.slice va k vc) k (elemsP (bs.take k) V .blks).flatten rfl ?_ ⟨w5.heap.size, 0, none⟩ 1 1 [.slice xa1 pn xc1, .slice xa2 ln xc2, .int .i64 ek, .bool er, .int .i64 en, .slice xa3 tn xc3] rfl rfl ?_ ?_ ?_ ?_ ?_ ?_
          · have h := RowsAt.own Hfun.out .blks trivial
            rw [HVb.out, show (elemsP (bs.take k) V .blks).length = k by simp [elemsP]; have := Hbn.out; omega] at h
            exact ownsRow_later (ownsRow_later h (Hb4.out.trans (Hb45.out.mono Hb4.out.size))) (by (repeat (first | exact Below.refl _ _ | refine Below.alloc ?_ (by first|omega|(simp<;>omega)) _ | refine Below.setCell ?_ (by first|omega|(simp<;>omega)) _ | refine below_drewN ?_ _ | refine Below.drew ?_)))
          · intro m u hu; exact new_cells w5 _ _ rfl m u hu
          · intro u hu; simp only [List.mem_cons, List.not_mem_nil, or_false] at hu; rcases hu with rfl | rfl | rfl | rfl | rfl | rfl <;> rfl
          · unfold maxLen; omega
          · omega
          · have := Hb4.out.size; have := Hb45.out.size; simp; omega
          intro v9 w9 hown9 hgrow hat9
          obtain ⟨va9, vc9, rfl⟩ := ownsRow_shape hown9
          have hz9 : w5.heap.size ≤ w9.heap.size := Nat.le_trans (by simp) hgrow.size
          have hne : ∀ c, (Value.slice va k vc).ownBlock = some c → W.heap.size ≤ c := fun c hc => by rw [← HVb.out] at hc; exact (RowsAt.lt Hfun.out (p := .blks) trivial c hc).1
          have hkeep : ∀ c, c < w5.heap.size → (Value.slice va k vc).ownBlock ≠ some c → w9.heap[c]? = w5.heap[c]? := fun c h1 h2 => (hgrow.block c (by simp; omega) (fun e => h2 e.symm)).trans (Below.heap_alloc w5 _ _ h1)
          have hUn : (Value.slice va k vc).ownBlock ≠ some UB := fun e => by have := hne UB e; have := HUs.out; omega
          have k9 := (World.cell?_of_block (w := w5) (a := ⟨UB, 3, none⟩) (hkeep UB zU5 hUn)).trans k5
          have g9 := (World.frozen?_of_block (w := w5) (a := ⟨UB, 3, none⟩) (hkeep UB zU5 hUn)).trans g5
          have zU9 := cell_lt k9
          have Hown9 := hid hown9
          have Hgrow := hid hgrow
          have Hat9 := hid hat9
          have Hkeep := hid hkeep
          have Hne9 := hid hne
          clear hown9 hgrow hat9 hkeep hne)))
    all_goals
     have hnext := fun_next (v' := .slice va9 (k + 1) vc9) Hfun.out Hx.out (Hb4.out.trans (Hb45.out.mono Hb4.out.size)) Hr2.out (by have := Hb4.out.size; exact this) hsz (Below.alloc (Below.refl _ _) (Nat.le_refl _) (.cells #[.slice xa1 pn xc1, .slice xa2 ln xc2, .int .i64 ek, .bool er, .int .i64 en, .slice xa3 tn xc3] 76)) (by
      rw [HX.out.1, HX.out.2.1, HX.out.2.2]
      unfold cellsB
      rw [← HxD.out.2.2.2.1, ← HxD.out.2.2.2.2.1, ← HxD.out.2.2.2.2.2]
      exact Hown9.out) (by rw [HVb.out]; exact Hgrow.out) (by rw [HVb.out]; rcases Hat9.out with h | h; exact .inl h; exact .inr (h.trans (by simp)))
     have hub9:w9.heap[UB]?=some (.cells #[.string nm,.int .i64 p,.int .i64 r,.slice va k vc] 38 (0,0)) :=
      (Hkeep.out UB zU5 hUn).trans ((Hb45.out.block UB zU4).trans ((Hb4.out.block UB (Array.getElem?_eq_some_iff.1 Hub.out).1).trans Hub.out))
     have hkp9:Kp (fun c=>c<W.heap.size∧c≠UB) wo w9:=by
      refine⟨Hgrow.out.os.trans (Hb45.out.os.trans Hb4.out.os),Hgrow.out.tape.trans (Hb45.out.tape.trans Hb4.out.tape),Hgrow.out.output.trans (Hb45.out.output.trans Hb4.out.output),by have:=Hb4.out.size;have:=Hb45.out.size;omega,fun c hc hF=>?_⟩;have:=Hb4.out.size;have:=Hb45.out.size;exact (Hkeep.out c (by omega) (fun e=>by have:=Hne9.out c e;omega)).trans ((Hb45.out.block c (by omega)).trans (Hb4.out.block c hc))
     have Hnext:=hid hnext;have Hub9:=hid hub9;have Hkp9:=hid hkp9;clear hnext hub9 hkp9 k5 g5;go_wp2_with fail;go_roundw
     case rel =>
      refine⟨k+1,_,va9,vc9,by omega,by go_num,updP_self _ _ _,RowsAt.setOff Hnext.out (fun q hq e=>by have:=(RowsAt.lt Hnext.out hq UB e).1;have:=HUs.out;omega) _,?_,?_⟩
      · rw [heap_set_row (i:=3) Hub9.out];rfl
      · exact (Hkp.out.trans Hkp9.out).trans ((kp_one w9 UB 3 _).less fun c h=>h.2)
     case measure=>simp [intOf];omega
  · have hnk:n=k:=by omega
    subst hnk;have huo:=(hkp.block UO (by have:=(Array.getElem?_eq_some_iff.1 Huo3.out).1;exact this) (by have:=HUs.out;omega)).trans Huo3.out;obtain⟨c0,c1,c2,c3⟩:=(cells_of (cs:=[_,_,_,_]) hub).get4;obtain⟨o0,o1,o2,o3⟩:=(cells_of (cs:=[_,_,_,_]) huo).get4;rw [Nat.zero_add] at c1 c2 c3 o1 o2 o3;have z0:=thawed huo 0;have z1:=thawed huo 1;have z2:=thawed huo 2;have z3:=thawed huo 3;have zB:=cell_lt c0;have zO:=cell_lt o0;have Huo:=hid huo;have Hfun:=hid hfun;have Hlow:=hid hlow;have HVb:=hid hVb;clear huo hub hfun hlow hVb hkp hk hkn;go_wp2_with fail;have hW5:=set4 (u0 := .string nm) (u1 := .int .i64 p) (u2 := .int .i64 r) (u3 := .slice va n vc) (cells_of (cs:=[_,_,_,_]) Huo.out);refine bodyPost_ret (func_res1 rfl rfl hW5) rfl ⟨V,?_,?_,?_⟩
    · show _=Ending.returned (.agg #[.string nm,.int .i64 p,.int .i64 r,V .blks])
      rw [HVb.out]
    · have hf:=Hfun.out
      rw [List.take_of_length_le (by rw [Hbn.out];exact Nat.le_refl _)] at hf;have hO:∀q,okP bs q→(V q).ownBlock≠some UO:=fun q hq e=>by have:=(RowsAt.lt hf hq UO e).1;have:=HUs.out;omega
      exact RowsAt.low ((((RowsAt.setOff hf (o:=0) hO (.string nm)).setOff (o:=1) hO (.int .i64 p)).setOff (o:=2) hO (.int .i64 r)).setOff (o:=3) hO (.slice va n vc)) (by have:=HUs.out;omega)
    · have h2:w.heap.size≤UO:=by have:=HUs.out;omega
      exact (((Hlow.out.setCell (p:=⟨UO,0,none⟩) h2 _).setCell (p:=⟨UO,1,none⟩) h2 _).setCell (p:=⟨UO,2,none⟩) h2 _).setCell (p:=⟨UO,3,none⟩) h2 _

end Go.Proofs.YtnkogppgacappaaGreatDoor

namespace Go.Proofs.YtnkogppgacappaaGreatDoor
open Go.RowKit

def cellsFn(f:DFunc)(u:Value):List Value:=[.string f.name,.int .i64 f.params,.int .i64 f.regs,u]
structure UniSt (W:World)(base:Nat)(v:Value)(fs:List DFunc)(V:Nat→Pth→Value):Prop where
 row:Row1 W base 38 4 v (fs.mapIdx fun k f=>cellsFn f (V k .blks))
 fn:∀(k:Nat) f,fs[k]?=some f→FunSt W base f.blocks (V k)
 apart:∀(j k:Nat) f g,fs[j]?=some f→fs[k]?=some g→j≠k→∀p q,okP f.blocks p→okP g.blocks q→∀c,(V j p).ownBlock=some c→(V k q).ownBlock≠some c
 off:∀(k:Nat) f,fs[k]?=some f→∀p,okP f.blocks p→∀c,(V k p).ownBlock=some c→v.ownBlock≠some c
section
variable {W W' : World} {base : Nat} {v : Value} {fs : List DFunc} {V : Nat → Pth → Value}
theorem UniSt.nil(W:World)(base:Nat)(V:Nat→Pth→Value):UniSt W base (.slice none 0 0) [] V :=
 ⟨⟨World.ownsRow_nil _ _ _ _,fun cs h=>by cases h⟩,fun k f h=>by simp at h,fun j k f g h=>by simp at h,fun k f h=>by simp at h⟩
theorem UniSt.kp(h:UniSt W base v fs V){F:Nat→Prop}(hk:Kp F W W')(hv:∀c,v.ownBlock=some c→F c)(hV:∀(k:Nat) f,fs[k]?=some f→∀p,okP f.blocks p→∀c,(V k p).ownBlock=some c→F c):UniSt W' base v fs V :=
 ⟨h.row.off (hk.less hv),fun k f hf=>RowsAt.kp (h.fn k f hf) hk fun p hp c hc=>hV k f hf p hp c hc,h.apart,h.off⟩
theorem UniSt.later(h:UniSt W base v fs V)(hb:Below W.heap.size W W'):UniSt W' base v fs V:=h.kp (F:=fun _=>True) (Kp.of hb) (fun _ _=>trivial) (fun _ _ _ _ _ _ _=>trivial)
theorem UniSt.lt(h:UniSt W base v fs V):(∀c,v.ownBlock=some c→base≤c∧c<W.heap.size)∧∀(k:Nat) f,fs[k]?=some f→∀p,okP f.blocks p→∀c,(V k p).ownBlock=some c→base≤c∧c<W.heap.size :=
 ⟨h.row.lt,fun k f hf _ hp c hc=>RowsAt.lt (h.fn k f hf) hp c hc⟩
theorem UniSt.setLow(h:UniSt W base v fs V){a:Addr}(ha:a.block<base)(u:Value):UniSt (W.setCell a u) base v fs V:=by
 obtain⟨h1,h2⟩:=h.lt;exact h.kp (F:=fun c=>c≠a.block) ((Kp.refl _ _).set (fun e=>e rfl) _) (fun c hc e=>by have:=(h1 c hc).1;omega) (fun k f hf p hp c hc e=>by have:=(h2 k f hf p hp c hc).1;omega)
theorem UniSt.next {w2 w6 w9 : World} {B k : Nat} {f : DFunc} {V2 : Pth → Value} (h : UniSt W base v (fs.take k) V) (hx : fs[k]? = some f) (hb : Below W.heap.size W w2) (h2 : FunSt w2 B f.blocks V2) (hB : W.heap.size ≤ B) (hbase : base ≤ W.heap.size) (h6 : Below w2.heap.size w2 w6)
 {v':Value} (hown:w9.ownsRow base 38 4 v' (k+1) (((fs.take k).mapIdx fun k f=>cellsFn f (V k .blks)).flatten++cellsFn f (V2 .blks))) (hg:w6.grownBy w9 v.ownBlock) (hat:v'.ownBlock=v.ownBlock∨v'.ownBlock=some w6.heap.size) :
 UniSt w9 base v' (fs.take (k+1)) (fun j=>if j=k then V2 else V j):=by
 have hkl:=(List.getElem?_eq_some_iff.1 hx).1;have hlt:=h.lt;have hz2:=hb.size;have hz6:=h6.size;have hk9:Kp (fun c=>v.ownBlock≠some c) w6 w9:=⟨hg.os,hg.tape,hg.output,hg.size,fun c hc hF=>hg.block c hc fun e=>hF e.symm⟩
 have hk:Kp (fun c=>v.ownBlock≠some c) W w9:=((Kp.of hb).trans (Kp.of h6)).trans hk9;have hget:∀(j:Nat) g,(fs.take (k+1))[j]?=some g→(j=k∧g=f)∨(j<k∧(fs.take k)[j]?=some g):=fun j g hj=>by
  rw [List.getElem?_take] at hj;split at hj
  · rename_i h3
    rcases Nat.lt_succ_iff_lt_or_eq.1 h3 with h4 | h4
    · exact .inr ⟨h4,by rw [List.getElem?_take,if_pos h4];exact hj⟩
    · subst h4;rw [hx] at hj;exact .inl ⟨rfl,(Option.some.inj hj).symm⟩
  · cases hj
 have hf9 : FunSt w9 base f.blocks V2 := RowsAt.low (RowsAt.kp (RowsAt.later h2 h6) hk9 fun p hp c hc e => by
  have := (RowsAt.lt h2 hp c hc).1
  have := (hlt.1 c e).2
  omega) (Nat.le_trans hbase hB)
 have hv':∀c,v'.ownBlock=some c→v.ownBlock=some c∨w6.heap.size≤c:=fun c hc=>by
  rcases hat with h3 | h3
  · exact .inl (by rw [←h3];exact hc)
  · rw [h3] at hc;cases hc;exact .inr (Nat.le_refl _)
 have hmi:((fs.take (k+1)).mapIdx fun j g=>cellsFn g ((if j=k then V2 else V j) .blks))=((fs.take k).mapIdx fun k f=>cellsFn f (V k .blks))++[cellsFn f (V2 .blks)]:=by
  rw [take_snoc hx,mapIdx_snoc]
  congr 1
  · refine mapIdx_congr fun i y hi=>?_
    have hik:i<k:=by have:=(List.getElem?_eq_some_iff.1 hi).1;rw [List.length_take] at this;omega
    rw [if_neg (by omega)]
  · rw [List.length_take,Nat.min_eq_left (by omega),if_pos rfl]
 refine⟨⟨?_,?_⟩,fun j g hj=>?_,fun i j g1 g2 e1 e2 hne p q hp hq c hc=>?_,fun j g hj p hp c hc e=>?_⟩
 · rw [hmi,List.flatten_append,show (((fs.take k).mapIdx fun k f=>cellsFn f (V k .blks))++[cellsFn f (V2 .blks)]).length=k+1 by simp;omega]
   simpa using hown
 · rw [hmi]
   intro cs hcs;rcases List.mem_append.1 hcs with h3 | h3
   · exact h.row.wid cs h3
   · rw [List.mem_singleton] at h3;rw [h3];rfl
 · rcases hget j g hj with⟨rfl,rfl⟩ | ⟨h3,h4⟩
   · simp only [if_true];exact hf9
   · simp only [if_neg (show ¬j=k by omega)]
     exact RowsAt.kp (h.fn j g h4) hk fun p hp c hc e=>h.off j g h4 p hp c hc e
 · rcases hget i g1 e1 with⟨rfl,rfl⟩ | ⟨h3,h4⟩
   · simp only [if_true] at hc
     rcases hget j g2 e2 with⟨rfl,rfl⟩ | ⟨h5,h6'⟩
     · exact absurd rfl hne
     · simp only [if_neg (show ¬j=i by omega)]
       intro h7;have:=(RowsAt.lt h2 hp c hc).1;have:=(hlt.2 j g2 h6' q hq c h7).2;omega
   · simp only [if_neg (show ¬i=k by omega)] at hc
     rcases hget j g2 e2 with⟨rfl,rfl⟩ | ⟨h5,h6'⟩
     · simp only [if_true]
       intro h7;have:=(RowsAt.lt h2 hq c h7).1;have:=(hlt.2 i g1 h4 p hp c hc).2;omega
     · simp only [if_neg (show ¬j=k by omega)]
       exact h.apart i j g1 g2 h4 h6' hne p q hp hq c hc
 · rcases hget j g hj with⟨rfl,rfl⟩ | ⟨h3,h4⟩
   · simp only [if_true] at hc
     rcases hv' c e with h7 | h7
     · have:=(RowsAt.lt h2 hp c hc).1
       have:=(hlt.1 c h7).2;omega
     · have:=(RowsAt.lt h2 hp c hc).2
       omega
   · simp only [if_neg (show ¬j=k by omega)] at hc
     rcases hv' c e with h7 | h7
     · exact h.off j g h4 p hp c hc h7
     · have:=(hlt.2 j g h4 p hp c hc).2
       omega
theorem UniSt.read(h:UniSt W base v fs V)(hn:∀f∈fs,(∀x∈f.blocks,NumB x)∧I64 f.params∧I64 f.regs):SlAt (fun b=>base≤b∧b<W.heap.size) W 4 rFunc v fs:=by
 have hlen:(fs.mapIdx fun k f=>cellsFn f (V k .blks)).length=fs.length:=by simp
 rcases h.row.own.2 with⟨h1,h2⟩ | ⟨g,cap,cur,e1,h3,h4,h5,h6,h7,h8⟩
 · rw [hlen] at h2
   have hl:fs=[]:=List.eq_nil_of_length_eq_zero h2;subst hl;exact⟨none,0,h1,Nat.le_refl _,by decide,fun h=>absurd rfl h⟩
 · unfold maxLen at h6
   rw [hlen] at e1 h5;refine⟨some ⟨g,0,none⟩,cap,e1,h5,by omega,fun _=>⟨g,0,rfl,⟨h3,(Array.getElem?_eq_some_iff.1 h4).1⟩,fun i x hx=>?_⟩⟩;have hc:(fs.mapIdx fun k f=>cellsFn f (V k .blks))[i]?=some (cellsFn x (V i .blks)):=by rw [List.getElem?_mapIdx,hx];rfl
   obtain⟨g',c',e2,-,-,-,hcs,-⟩:=h.row.at hc (by decide);rw [e1] at e2;have hg:g=g':=by injection e2 with e3;injection e3 with e4;injection e4
   have hnx:=hn x (List.mem_of_getElem? hx);exact⟨_,⟨_,rfl,FunSt.read (h.fn i x hx) hnx.1,hnx.2.1,hnx.2.2⟩,rfl,by rw [Nat.zero_add,hg];exact hcs⟩
theorem UniSt.shape(h:UniSt W base v fs V):∃a c,v = .slice a fs.length c:=by
 rcases h.row.own.2 with⟨h1,h2⟩ | ⟨g,cap,cur,e1,-⟩
 · have:fs.length=0:=by simpa using h2
   exact⟨none,0,by rw [h1,this]⟩
 · exact⟨some ⟨g,0,none⟩,cap,by rw [e1,List.length_mapIdx]⟩
theorem UniSt.turn {k : Nat} {f : DFunc} {bs : List DBlock} {V2 : Pth → Value} (h : UniSt W base v fs V) (hx : fs[k]? = some f) (h2 : FunSt W' base bs V2) (hb : V2 .blks = V k .blks) {F : Nat → Prop} (hk : Kp F W W')
 (hF:∀c,(∀p,okP f.blocks p→(V k p).ownBlock≠some c)→F c) (hn:∀q,okP bs q→∀c,(V2 q).ownBlock=some c→(∃p,okP f.blocks p∧(V k p).ownBlock=some c)∨W.heap.size≤c) :
 UniSt W' base v (fs.set k { f with blocks:=bs }) (fun j=>if j=k then V2 else V j):=by
 have hkl:=(List.getElem?_eq_some_iff.1 hx).1;have hlt:=h.lt;have hget:∀(j:Nat) g,(fs.set k { f with blocks:=bs })[j]?=some g→(j=k∧g={ f with blocks:=bs })∨(j≠k∧fs[j]?=some g):=fun j g hj=>by
  rw [List.getElem?_set] at hj;split at hj
  · rename_i e;subst e;exact .inl ⟨rfl,(Option.some.inj hj).symm⟩
  · rename_i e;exact .inr ⟨fun e2=>e e2.symm,hj⟩
 have hother:∀(j:Nat) g,fs[j]?=some g→j≠k→∀p,okP g.blocks p→∀c,(V j p).ownBlock=some c→F c:=fun j g hj hne p hp c hc=>hF c fun q hq e=>h.apart j k g f hj hx hne p q hp hq c hc e;have hvF:∀c,v.ownBlock=some c→F c:=fun c hc=>hF c fun p hp e=>h.off k f hx p hp c e hc;have hmi:((fs.set k { f with blocks:=bs }).mapIdx fun j g=>cellsFn g ((if j=k then V2 else V j) .blks))=fs.mapIdx fun k f=>cellsFn f (V k .blks):=by
  apply List.ext_getElem?;intro i;rw [List.getElem?_mapIdx,List.getElem?_mapIdx,List.getElem?_set]
  by_cases e:k=i
  · subst e
    simp only [if_true,if_pos hkl,hx,Option.map_some,hb];rfl
  · rw [if_neg e]
    cases fs[i]? with
    | none=>rfl
    | some g=>show some _=some _;rw [if_neg (fun e2=>e e2.symm)]
 refine⟨by rw [hmi];exact h.row.off (hk.less hvF),fun j g hj=>?_,fun i j g1 g2 e1 e2 hne p q hp hq c hc=>?_,fun j g hj p hp c hc e=>?_⟩
 · rcases hget j g hj with⟨rfl,rfl⟩ | ⟨h3,h4⟩
   · simp only [if_true];exact h2
   · simp only [if_neg h3]
     exact RowsAt.kp (h.fn j g h4) hk fun p hp c hc=>hother j g h4 h3 p hp c hc
 · rcases hget i g1 e1 with⟨rfl,rfl⟩ | ⟨h3,h4⟩
   · simp only [if_true] at hc
     rcases hget j g2 e2 with⟨rfl,rfl⟩ | ⟨h5,h6⟩
     · exact absurd rfl hne
     · simp only [if_neg h5]
       intro h7;rcases hn p hp c hc with⟨p',h8,h9⟩ | h8
       · exact h.apart i j f g2 hx h6 hne p' q h8 hq c h9 h7
       · have:=(hlt.2 j g2 h6 q hq c h7).2;omega
   · simp only [if_neg h3] at hc
     rcases hget j g2 e2 with⟨rfl,rfl⟩ | ⟨h5,h6⟩
     · simp only [if_true]
       intro h7;rcases hn q hq c h7 with⟨p',h8,h9⟩ | h8
       · exact h.apart i j g1 f h4 hx hne p p' hp h8 c hc h9
       · have:=(hlt.2 i g1 h4 p hp c hc).2;omega
     · simp only [if_neg h5];exact h.apart i j g1 g2 h4 h6 hne p q hp hq c hc
 · rcases hget j g hj with⟨rfl,rfl⟩ | ⟨h3,h4⟩
   · simp only [if_true] at hc
     rcases hn p hp c hc with⟨p',h8,h9⟩ | h8
     · exact h.off j f hx p' h8 c h9 e
     · have:=(hlt.1 c e).2;omega
   · simp only [if_neg h3] at hc;exact h.off j g h4 p hp c hc e
end

end Go.Proofs.YtnkogppgacappaaGreatDoor

namespace Go.Proofs.YtnkogppgacappaaGreatDoor
open Go.RowKit

set_option maxRecDepth 100000 in
set_option maxHeartbeats 4000000 in
theorem copyUni_rows {S : Nat → Prop} (ga fa : Option Addr) (gc fc : Nat) (gs : List DGlobal) (fs : List DFunc) (w : World) (hg : SlAt S w 3 rGlobal (.slice ga gs.length gc) gs) (hf : SlAt S w 4 rFunc (.slice fa fs.length fc) fs)
 (ng:gs.length≤1048576) (nf:fs.length≤1048576) (sg:∀g∈gs,g.init.length≤1048576) (sf:∀f∈fs,SmallF f) :
 Calls Tryz.prog 36 #[.agg #[.slice ga gs.length gc,.slice fa fs.length fc]] w fun e w' =>
  ∃go gc2 fo fc2 A V,e = .returned (.agg #[.slice go gs.length gc2,.slice fo fs.length fc2])∧w.heap.size+3≤A∧A≤w'.heap.size∧OwnIn (w.heap.size+3) A w' 48 3 rGlobal (.slice go gs.length gc2) gs∧UniSt w' A (.slice fo fs.length fc2) fs V∧Below w.heap.size w w':=by
 have Hg:=hid hg;have Hf:=hid hf;have Sg:=hid sg;have Sf:=hid sf;clear hg hf sg sf;obtain⟨ig,hig,hgz0,hgz1,hgz2⟩:=info_parts infoGlobal;obtain⟨if_,hif,hfz0,hfz1,hfz2⟩:=info_parts infoFunc;go_enter Tryz.func36,Tryz.ntmps36;go_wp2_with fail;obtain⟨W0,hW0⟩:∃W0,W0=((w.alloc (.cells #[.slice ga gs.length gc,.slice fa fs.length fc] 25)).alloc (.cells #[.slice none 0 0,.slice none 0 0] 25)).alloc (.cells #[.slice none 0 0,.slice none 0 0] 25):=⟨_,rfl⟩
 have hs0:W0.heap.size=w.heap.size+3:=by rw [hW0];simp
 have hst:CPBox w W0 (.slice ga gs.length gc) (.slice fa fs.length fc) (.slice none 0 0) (.slice none 0 0):=by
  refine⟨by rw [hW0];(repeat (first | exact Below.refl _ _ | refine Below.alloc ?_ (by first|omega|(simp<;>omega)) _ | refine Below.setCell ?_ (by first|omega|(simp<;>omega)) _ | refine below_drewN ?_ _ | refine Below.drew ?_)),?_,?_,by intro j;rw [hW0,World.frozen?_alloc_old _ _ _ (by simp),World.frozen?_alloc_at _ _ _ _ (by simp)],?_,by intro j;rw [hW0,World.frozen?_alloc_at _ _ _ _ (by simp)]⟩
  · intro j u hj;rw [hW0,Nat.zero_add,World.cell?_alloc_past _ _ _ (by simp;omega),World.cell?_alloc2_first];simpa using hj
  · intro j u hj;rw [hW0,Nat.zero_add,World.cell?_alloc_past _ _ _ (by simp),World.cell?_alloc2_new];simpa using hj
  · intro j u hj;rw [hW0,Nat.zero_add,World.cell?_alloc_at _ _ _ _ (by simp)];simpa using hj
 rw [←hW0];have Hst:=hid hst;have Hs0:=hid hs0;clear hW0 hst hs0;go_loopw [12] (fun i wr=>∃(k:Nat) (v:Value),k≤gs.length∧i = .int .i64 k∧w.heap.size+3≤wr.heap.size∧CPBox w wr (.slice ga gs.length gc) (.slice fa fs.length fc) v (.slice none 0 0)∧Own (w.heap.size+3) wr 48 3 rGlobal v (gs.take k)) (fun i _=>gs.length - (intOf i).toNat)
 case atStart=>exact⟨0,_,Nat.zero_le _,rfl,Nat.le_of_eq Hs0.out.symm,Hst.out,Own.nil _ _ _ _ _⟩
 case round =>
  obtain⟨k,v,hk,rfl,hsz,hbx,hown⟩:=hrel;have Hbx:=hid hbx;have Hown:=hid hown
  by_cases hkl:k<gs.length
  · obtain⟨b,off,ia,ic,rfl,hcs,hin,hd⟩:=global_at (Hg.out.later rGlobal_mono hbx.below) hkl
    obtain⟨d0,d1,d2⟩:=hcs.get3;have hb9:b<wr.heap.size:=cell_lt d0;obtain⟨y,hy⟩:∃y,y=gs[k]:=⟨_,rfl⟩
    rw [←hy] at d0 d1 d2 hin hd;have Hy:=hid hy;have hns:y.init.length≤1048576:=by rw [hy];exact Sg.out _ (List.getElem_mem hkl)
    have Hin:=hid hin;have Hd:=hid hd;obtain⟨W1,hW1⟩:∃W1,W1=wr.alloc (.cells #[.string y.name,.int .i64 y.size,.slice ia y.init.length ic] 48):=⟨_,rfl⟩
    have kc:CellsAt W1 wr.heap.size 0 [.string y.name,.int .i64 y.size,.slice ia y.init.length ic]:=by
     intro j u hj;rw [hW1,Nat.zero_add,World.cell?_alloc_new];simpa using hj
    have kf:W1.frozen? ⟨wr.heap.size,2,none⟩=false:=by rw [hW1];simp
    have hz1:W1.heap.size=wr.heap.size+1:=by rw [hW1];simp
    have hbW1:Below wr.heap.size wr W1:=by rw [hW1];(repeat (first | exact Below.refl _ _ | refine Below.alloc ?_ (by first|omega|(simp<;>omega)) _ | refine Below.setCell ?_ (by first|omega|(simp<;>omega)) _ | refine below_drewN ?_ _ | refine Below.drew ?_))
    have HbW1:=hid hbW1;have g3:W1.cell? ⟨w.heap.size+2,0,none⟩=some v:=cell_later' hbx.out.get2.1 hbW1;have f3:W1.frozen? ⟨w.heap.size+2,0,none⟩=false:=(hbW1.frozen (p:=⟨w.heap.size+2,0,none⟩) (by dsimp only;omega)).trans (hbx.outFree 0);clear hbx hown hcs hy hin hd;go_wp2_with fail;rw [←hW1];refine (cloneInts_any (S:=S) ia ic y.init W1 (Hin.out.later rInt_mono hbW1) hns).mono ?_;rintro e w2 ⟨v',rfl,hv',hb2⟩;obtain⟨a',c',rfl⟩:=hv'.shape;have Hv':=hid hv';have Hb2:=hid hb2;obtain⟨m0,m1,m2⟩:=(kc.later hb2).get3;simp only [Nat.zero_add] at m1 m2;have mf:w2.frozen? ⟨wr.heap.size,2,none⟩=false:=(hb2.frozen (p:=⟨wr.heap.size,2,none⟩) (by dsimp only;omega)).trans kf;have n3:=cell_later' g3 hb2;have ff3:w2.frozen? ⟨w.heap.size+2,0,none⟩=false:=(hb2.frozen (p:=⟨w.heap.size+2,0,none⟩) (by dsimp only;omega)).trans f3;have hz2:wr.heap.size<w2.heap.size:=cell_lt m0;have hz3:w.heap.size+2<wr.heap.size:=by omega
    clear kc kf hbW1 hv' hb2 hW1 d0 d1 d2 g3 f3;go_wp2_with (at_builtin;refine wpList_append_Own rfl _ _ 22 rfl (w.heap.size+3) 48 ig _ 3 48 Tryz.underlying22 hig hgz0 hgz1 hgz2 rfl (by decide) rGlobal_mono v (gs.take k) rfl ?_ ⟨w2.heap.size,0,none⟩ 1 [.string y.name,.int .i64 y.size,.slice a' y.init.length c'] y rfl rfl ?_ ?_ ?_ ?_ (by decide) ?_ ?_)
    · exact Hown.out.later rGlobal_mono (by have h:=HbW1.out;have h2:=Hb2.out;(have hz0:=(h2).size;have hy0:=hz0;(try simp at hy0);have hz1:=(h).size;have hy1:=hz1;(try simp at hy1);repeat (first | exact Below.refl _ _ | refine Below.trans ?_ ((h2).mono (by first|omega|(simp<;>omega))) | refine Below.trans ?_ ((h).mono (by first|omega|(simp<;>omega))) | refine Below.alloc ?_ (by first|omega|(simp<;>omega)) _ | refine Below.setCell ?_ (by first|omega|(simp<;>omega)) _ | refine below_drewN ?_ _ | refine Below.drew ?_)))
    · exact new_cells _ _ _ (by simp)
    · intro u hu;simp at hu;rcases hu with rfl | rfl | rfl <;> rfl
    · refine⟨_,rfl,Hv'.out.sub rInt_mono (by decide) (by omega) (fun g hg=>by have:=Hown.out.lt g hg;omega) (fun b hb hl=>heap_set_alloc _ _ _ _ hl (by dsimp only;omega)) (by simp),Hd.out⟩
    · rw [List.length_take];omega
    · simp;omega
    · intro v2 w3 hown3 hgrow g2 cap2 hv2
      have hkk:∀B,B<wr.heap.size→some B≠v.ownBlock→w3.heap[B]?=wr.heap[B]?:=fun B h1 h2=>by
       rw [hgrow.block B (by simp;omega) h2,heap_set_alloc _ _ _ _ (by omega) (by dsimp only;omega),Hb2.out.block B (by omega),HbW1.out.block B h1]
      have hlow:∀B,w.heap.size≤B→B<w.heap.size+3→w3.heap[B]?=wr.heap[B]?:=fun B h1 h2=>hkk B (by omega) (fun e=>by have:=(Hown.out.lt B e.symm).1;omega);have hb3:Below w.heap.size w w3:=by
       refine Below.grown ?_ hgrow (by simp;omega) (fun g hg=>by have:=(Hown.out.lt g hg).1;omega);have h:=Hbx.out.below;have h1:=HbW1.out;have h2:=Hb2.out
       (have hz0:=(h2).size;have hy0:=hz0;(try simp at hy0);have hz1:=(h1).size;have hy1:=hz1;(try simp at hy1);have hz2:=(h).size;have hy2:=hz2;(try simp at hy2);repeat (first | exact Below.refl _ _ | refine Below.trans ?_ ((h2).mono (by first|omega|(simp<;>omega))) | refine Below.trans ?_ ((h1).mono (by first|omega|(simp<;>omega))) | refine Below.trans ?_ ((h).mono (by first|omega|(simp<;>omega))) | refine Below.alloc ?_ (by first|omega|(simp<;>omega)) _ | refine Below.setCell ?_ (by first|omega|(simp<;>omega)) _ | refine below_drewN ?_ _ | refine Below.drew ?_))
      have hbx3:=Hbx.out.keep hb3 hlow;have n4:w3.cell? ⟨w.heap.size+2,0,none⟩=some v:=hbx3.out.get2.1;have ff4:w3.frozen? ⟨w.heap.size+2,0,none⟩=false:=hbx3.outFree 0;have Hbx3:=hid (hbx3.set0 v2);have Hown3:Hid (Own (w.heap.size+3) (w3.setCell ⟨w.heap.size+2,0,none⟩ v2) 48 3 rGlobal v2 (gs.take (k+1))):=by
       have e:gs.take (k+1)=gs.take k++[y]:=by rw [List.take_succ_eq_append_getElem hkl,Hy.out]
       show Own _ _ _ _ _ _ _;rw [e];exact hown3.setLow rGlobal_mono (by dsimp only;omega) _
      have hz4:w2.heap.size≤w3.heap.size:=Nat.le_trans (by simp) hgrow.size;subst hv2;clear hown3 hgrow hkk hlow hb3 hbx3;go_wp2_with fail;go_roundw
      case rel=>exact⟨k+1,_,by omega,by go_num,by simp [World.setCell];omega,by have h:=Hbx3.out;(try simp only [List.length_take,Nat.min_eq_left hk] at h);exact h,by have h:=Hown3.out;(try simp only [List.length_take,Nat.min_eq_left hk] at h);exact h⟩
      case measure=>simp [intOf];omega
  · obtain rfl:k=gs.length:=by omega
    rw [List.take_length] at Hown;obtain⟨WA,hWA⟩:∃WA,WA=wr:=⟨_,rfl⟩
    rw [←hWA] at Hbx Hown hsz ⊢;have q1:WA.cell? ⟨w.heap.size,1,none⟩=some (.slice fa fs.length fc):=Hbx.out.par.get2.2;clear hWA hbx hown;go_wp2_with fail;clear q1
    go_loopw [30] (fun i wr => ∃ (k : Nat) (v2 : Value) (V : Nat → Pth → Value), k ≤ fs.length ∧ i = .int .i64 k ∧ WA.heap.size ≤ wr.heap.size ∧ CPBox w wr (.slice ga gs.length gc) (.slice fa fs.length fc) v v2 ∧ UniSt wr WA.heap.size v2 (fs.take k) V ∧
     OwnIn (w.heap.size + 3) WA.heap.size wr 48 3 rGlobal v gs) (fun i _ => fs.length - (intOf i).toNat)
    case atStart=>exact⟨0,_,fun _ _ => .slice none 0 0,Nat.zero_le _,rfl,Nat.le_refl _,Hbx.out,UniSt.nil _ _ _,Hown.out.inn⟩
    case round =>
     obtain⟨wo,hwo⟩:∃wo:World,wo=wr:=⟨_,rfl⟩
     subst hwo;obtain⟨k,v2,V,hk,rfl,hsz2,hbx,hown,hgl⟩:=hrel;have Hbx2:=hid hbx;have Hown2:=hid hown;have Hgl2:=hid hgl
     by_cases hkl:k<fs.length
     · obtain⟨b,off,xa,xc,rfl,hcs,hin,hd1,hd2⟩:=func_at (Hf.out.later rFunc_mono hbx.below) hkl
       obtain⟨d0,d1,d2,d3⟩:=hcs.get4;have hb9:b<wo.heap.size:=cell_lt d0;obtain⟨y,hy⟩:∃y,fs[k]?=some y:=⟨_,List.getElem?_eq_getElem hkl⟩
       have e9:fs[k]=y:=by rw [List.getElem?_eq_getElem hkl] at hy;exact Option.some.inj hy
       rw [e9] at d0 d1 d2 d3 hin;obtain⟨nm,hnm⟩:∃nm,nm=y.name:=⟨_,rfl⟩
       obtain⟨pp,hpp⟩:∃pp,pp=y.params:=⟨_,rfl⟩
       obtain⟨rr,hrr⟩:∃rr,rr=y.regs:=⟨_,rfl⟩
       obtain⟨bl,hbl⟩:∃bl,bl=y.blocks.length:=⟨_,rfl⟩
       rw [←hnm] at d0;rw [←hpp] at d1;rw [←hrr] at d2;rw [←hbl] at d3 hin;have Hy:=hid hy;have HyD:Hid (nm=y.name∧pp=y.params∧rr=y.regs∧bl=y.blocks.length):=⟨hnm,hpp,hrr,hbl⟩
       have Hns:=hid (Sf.out y (List.mem_of_getElem? hy));have Hin:=hid hin;obtain⟨v2a,v2c,hv2⟩:=hown.shape;rw [List.length_take,Nat.min_eq_left hk] at hv2;subst hv2;have g3:wo.cell? ⟨w.heap.size+2,1,none⟩=some (.slice v2a k v2c):=by have h:=hbx.out.get2.2;rw [Nat.zero_add] at h;exact h
       have f3:wo.frozen? ⟨w.heap.size+2,1,none⟩=false:=hbx.outFree 1;have zO:=cell_lt g3;clear hbx hown hgl hcs hy hin hd1 hd2 e9 hnm hpp hrr hbl;go_upto_region 11 with (fail)
       obtain⟨BB,hBB⟩:∃BB,BB=wo.heap.size:=⟨_,rfl⟩
       obtain⟨W4,hW4⟩:∃W4,W4=wo.alloc (.cells #[.string nm,.int .i64 pp,.int .i64 rr,.slice xa bl xc] 38):=⟨_,rfl⟩
       have hl4:W4.heap[BB]?=some (.cells #[.string nm,.int .i64 pp,.int .i64 rr,.slice xa bl xc] 38 (0,0)):=by rw [hW4,hBB];exact heap_alloc_new _ _
       have hb4:Below wo.heap.size wo W4:=by rw [hW4];(repeat (first | exact Below.refl _ _ | refine Below.alloc ?_ (by first|omega|(simp<;>omega)) _ | refine Below.setCell ?_ (by first|omega|(simp<;>omega)) _ | refine below_drewN ?_ _ | refine Below.drew ?_))
       rw [←hW4,←hBB];obtain⟨b0,b1,b2,b3⟩:=(cells_of (cs:=[_,_,_,_]) hl4).get4;rw [Nat.zero_add] at b1 b2 b3;have k3':=cell_later' g3 hb4;have g3':=(hb4.frozen (p:=⟨w.heap.size+2,1,none⟩) zO).trans f3;have zO4:=cell_lt k3';have zB4:=cell_lt b0;have Hcf:=hid (copyFun_rows (S:=S) nm pp rr xa bl xc y.blocks W4.drew (Hin.out.later rBlock_mono hb4.drew) HyD.out.2.2.2.symm (by rw [HyD.out.2.2.2];exact Hns.out.blocks) Hns.out.each);have Hb4:=hid hb4;clear hBB hW4 hl4 hb4 d0 d1 d2 d3 g3 f3 zO hb9
       go_region_law
        ((first
          | (go_simp; go_at_call 66; refine Hcf.out.mono ?_; rintro e w5 ⟨V2, rfl, hr2, hb5⟩
             have hb45 : Below W4.heap.size W4 w5 := (Below.refl W4.heap.size W4).drew.trans hb5
             obtain ⟨xa1, xc1, hx1⟩ := RowsAt.shape (p := .blks) hr2 trivial
             rw [show (elemsP y.blocks V2 .blks).length = bl by simp [elemsP]; exact HyD.out.2.2.2.symm] at hx1
             rw [hx1]
             have k5 := cell_later' k3' hb45
             have g5 := (hb45.frozen (p := ⟨w.heap.size + 2, 1, none⟩) zO4).trans g3'
             have zO5 := cell_lt k5
             have Hr2 := hid hr2
             have Hb45 := hid hb45
             have HX : Hid (V2 .blks = .slice xa1 bl xc1) := hx1
             clear hr2 hb5 hb45 hx1)
          | (refine step_append_row rfl _ _ 23 rfl WA.heap.size 38 if_ (.agg #[.string ⟨#[]⟩, .int .i64 0, .int .i64 0, .slice none 0 0]) 4 56 Tryz.underlying23 hif hfz0 hfz1 hfz2 rfl (by decide) (.slice v2a k v2c) k ((fs.take k).mapIdx fun k f => cellsFn f (V k .blks)).flatten rfl ?_ ⟨w5.heap.size, 0, none⟩ 1 1 [.string nm, .int .i64 pp, .int .i64 rr, .slice xa1 bl xc1] rfl rfl ?_ ?_ ?_ ?_ ?_ ?_
             · have h := Hown2.out.row.own
               rw [show ((fs.take k).mapIdx fun k f => cellsFn f (V k .blks)).length = k by simp; omega] at h
               exact ownsRow_later (ownsRow_later h (Hb4.out.trans (Hb45.out.mono Hb4.out.size))) (by (repeat (first | exact Below.refl _ _ | refine Below.alloc ?_ (by first|omega|(simp<;>omega)) _ | refine Below.setCell ?_ (by first|omega|(simp<;>omega)) _ | refine below_drewN ?_ _ | refine Below.drew ?_)))
             · intro m u hu; exact new_cells w5 _ _ rfl m u hu
             · intro u hu; simp only [List.mem_cons, List.not_mem_nil, or_false] at hu; rcases hu with rfl | rfl | rfl | rfl <;> rfl
             · unfold maxLen; omega
             · omega
             · have := Hb4.out.size; have := Hb45.out.size; simp; omega
             intro v9 w9 hown9 hgrow hat9
             obtain ⟨va9, vc9, rfl⟩ := ownsRow_shape hown9
             have hz9 : w5.heap.size ≤ w9.heap.size := Nat.le_trans (by simp) hgrow.size
             have hne : ∀ c, (Value.slice v2a k v2c).ownBlock = some c → WA.heap.size ≤ c := fun c hc => (Hown2.out.lt.1 c hc).1
             have hkeep : ∀ c, c < w5.heap.size → (Value.slice v2a k v2c).ownBlock ≠ some c → w9.heap[c]? = w5.heap[c]? := fun c h1 h2 => (hgrow.block c (by simp; omega) (fun e => h2 e.symm)).trans (Below.heap_alloc w5 _ _ h1)
             have hUn : (Value.slice v2a k v2c).ownBlock ≠ some (w.heap.size + 2) := fun e => by have := hne _ e; omega
             have k9 := (World.cell?_of_block (w := w5) (a := ⟨w.heap.size + 2, 1, none⟩) (hkeep _ zO5 hUn)).trans k5
             have g9 := (World.frozen?_of_block (w := w5) (a := ⟨w.heap.size + 2, 1, none⟩) (hkeep _ zO5 hUn)).trans g5
             have zO9 := cell_lt k9
             have Hown9 := hid hown9
             have Hgrow := hid hgrow
             have Hat9 := hid hat9
             have Hkeep := hid hkeep
             have Hne9 := hid hne
             clear hown9 hgrow hat9 hkeep hne)))
       all_goals
        have hz4:=Hb4.out.size;have hz5:=Hb45.out.size
        have hnext := Hown2.out.next (v' := .slice va9 (k + 1) vc9) Hy.out (Hb4.out.trans (Hb45.out.mono Hb4.out.size)) Hr2.out hz4 hsz2 (Below.alloc (Below.refl _ _) (Nat.le_refl _) (.cells #[.string nm, .int .i64 pp, .int .i64 rr, .slice xa1 bl xc1] 38)) (by
         rw [HX.out]
         unfold cellsFn
         rw [← HyD.out.1, ← HyD.out.2.1, ← HyD.out.2.2.1]
         exact Hown9.out) Hgrow.out (by rcases Hat9.out with h | h; exact .inl h; exact .inr (h.trans (by simp)))
        have hkk:∀c,c<WA.heap.size→w9.heap[c]?=wo.heap[c]?:=fun c hc=>(Hkeep.out c (by omega) (fun e=>by have:=Hne9.out c e;omega)).trans ((Hb45.out.block c (by omega)).trans (Hb4.out.block c (by omega)));have hb9:Below w.heap.size w w9:=by
         refine Below.grown ?_ Hgrow.out (by have:=Hbx2.out.below.size;simp;omega) (fun c hc=>by have:=Hne9.out c hc;omega);have h:=(Hbx2.out.below.trans (Hb4.out.mono Hbx2.out.below.size)).trans (Hb45.out.mono (by have:=Hbx2.out.below.size;omega));exact h.alloc h.size _
        have hbx9:=Hbx2.out.keep hb9 (fun b h1 h2=>hkk b (by omega));have Hnext:=hid hnext;have Hbx9:=hid (hbx9.set1 (.slice va9 (k+1) vc9));have Hgl9:Hid (OwnIn (w.heap.size+3) WA.heap.size (w9.setCell ⟨w.heap.size+2,1,none⟩ (.slice va9 (k+1) vc9)) 48 3 rGlobal v gs):=Hgl2.out.kept rGlobal_mono (fun b h1 h2=>(Below.heap_setCell w9 ⟨w.heap.size+2,1,none⟩ _ b (by dsimp only;omega)).trans (hkk b h2));clear hnext hkk hb9 hbx9 k5 g5;go_wp2_with fail;go_roundw
        case rel=>exact⟨k+1,_,_,by omega,by go_num,by simp [World.setCell];omega,Hbx9.out,Hnext.out.setLow (by dsimp only;omega) _,Hgl9.out⟩
        case measure=>simp [intOf];omega
     · obtain rfl:k=fs.length:=by omega
       rw [List.take_length] at Hown2;obtain⟨go,gc2,hgv⟩:=hgl.shape;obtain⟨fo,fc2,hfv⟩:=Hown2.out.shape;subst hgv hfv;obtain⟨b0,b1⟩:=hbx.out.get2;obtain⟨o0,o1⟩:=hbx.res.get2;rw [Nat.zero_add] at b1 o1;have y0:=hbx.resFree 0;have y1:=hbx.resFree 1;have hz10:w.heap.size+2<wo.heap.size:=cell_lt b0;clear hbx hown hgl;go_wp2_with fail;have hcells:=set2 (u0 := .slice go gs.length gc2) (u1 := .slice fo fs.length fc2) Hbx2.out.res;obtain⟨h0,h1⟩:=hcells.get2;rw [Nat.zero_add] at h1;obtain⟨W5,hW5⟩:∃W5,W5=((wo.setCell ⟨w.heap.size+1,0,none⟩ (.slice go gs.length gc2)).setCell ⟨w.heap.size+1,1,none⟩ (.slice fo fs.length fc2)):=⟨_,rfl⟩
       rw [←hW5] at h0 h1 ⊢;have hle:w.heap.size≤w.heap.size+1:=Nat.le_succ _;have hlt:w.heap.size+1<WA.heap.size:=by omega
       have hbW5:Below w.heap.size w W5:=by
        rw [hW5];exact (Hbx2.out.below.setCell (p:=⟨w.heap.size+1,0,none⟩) hle _).setCell (p:=⟨w.heap.size+1,1,none⟩) hle _
       have hown5:UniSt W5 WA.heap.size (.slice fo fs.length fc2) fs V:=by
        rw [hW5];exact (Hown2.out.setLow (a:=⟨w.heap.size+1,0,none⟩) hlt _).setLow (a:=⟨w.heap.size+1,1,none⟩) hlt _
       have hgl5:OwnIn (w.heap.size+3) WA.heap.size W5 48 3 rGlobal (.slice go gs.length gc2) gs:=by
        refine Hgl2.out.kept rGlobal_mono (fun b h1 h2=>?_);rw [hW5,Below.heap_setCell _ _ _ _ (by dsimp only;omega),Below.heap_setCell _ _ _ _ (by dsimp only;omega)]
       have hsz5:W5.heap.size=wo.heap.size:=by rw [hW5];simp [World.setCell]
       refine bodyPost_ret (v := .agg #[.slice go gs.length gc2,.slice fo fs.length fc2]) ?_ rfl ⟨_,_,_,_,WA.heap.size,V,rfl,hsz,by omega,hgl5,hown5,hbW5⟩;simp [results,Tryz.results36,go_sem,h0,h1]

end Go.Proofs.YtnkogppgacappaaGreatDoor
