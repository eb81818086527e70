/- The closure of still.Do: which instructions go. still.Do, plain: stores of still words go, loads of them become copies; a checked unit stays checked. A unit's functions whose instructions go or change in place. still.Do's loops, plainly: what is done up to a place. -/
import Derived.Test.YtnkogppgacappaaGreatDoorPDelF
import Derived.Test.YtnkogppgacappaaGreatDoorPRound
import Derived.Test.YtnkogppgacappaaGreatDoorPLarge
import Derived.Test.YtnkogppgacappaaGreatDoorPCopyRU
import Derived.Test.YtnkogppgacappaaGreatDoorPKeep1
namespace Go.Proofs.YtnkogppgacappaaGreatDoor
open Go.RowKit

def gone(ls:List Bool)(op:Int)(r:Bool)(n:Int):Bool:=decide (op=19)&&(inB r n (ls.length:Int)&&ls.getD n.toNat false)
def calm(ls:List Bool)(op:Int)(r:Bool)(n:Int):Bool:=decide (op=18)&&(inB r n (ls.length:Int)&&ls.getD n.toNat false)
def goneP (ls : List Bool) : List Value → Bool
 | .int .i64 op :: _ :: .bool r :: .int .i64 n :: _=>gone ls op r n
 | _=>false

set_option maxRecDepth 100000 in
set_option maxHeartbeats 2000000 in
theorem stillDel_any {S : Nat → Prop} (mb lb : Nat) (ma la : Option Addr) (mc n lc : Nat) (ls : List Bool) (w : World) (h1 : w.cell? ⟨mb, 0, none⟩ = some (.slice ma n mc)) (h2 : w.cell? ⟨lb, 0, none⟩ = some (.slice la n lc)) (h3 : SlAt S w 1 rBool (.slice la n lc) ls) (hl : ls.length = n) (hn : n ≤ 1048576)
 (v0 v1:Int) (v2:Bool) (v3:Int) (v4:Bool) (v5 v6:Int) (vs:Option Addr) (vm vk:Nat) :
 Calls Tryz.prog 38 #[.agg #[.int .i64 v0, .int .i64 v1, .bool v2, .int .i64 v3, .bool v4, .int .i64 v5, .int .i64 v6, .slice vs vm vk], .pointer (some ⟨mb, 0, none⟩), .pointer (some ⟨lb, 0, none⟩)] w
  fun e w'=>e = .returned (.bool (goneP ls [.int .i64 v0,.int .i64 v1,.bool v2,.int .i64 v3,.bool v4,.int .i64 v5,.int .i64 v6,.slice vs vm vk]))∧Below w.heap.size w w':=by
 show Calls _ _ _ _ fun e w'=>e = .returned (.bool (gone ls v0 v2 v3))∧_;subst hl;have H3:=hid h3;have zm:=cell_lt h1;have zl:=cell_lt h2;clear h3
 by_cases hop:v0=19
 · subst hop
   by_cases hin:inB v2 v3 (ls.length:Int)=true
   · obtain⟨hr,hn0,hn1⟩:v2=false∧0≤v3∧v3<(ls.length:Int):=by
      unfold inB at hin;simp only [Bool.and_eq_true,Bool.not_eq_true',decide_eq_true_eq] at hin;exact hin
     subst hr;obtain⟨q,hq⟩:∃q:Nat,v3=(q:Int):=⟨v3.toNat,by omega⟩
     subst hq;have hql:q<ls.length:=by omega
     obtain⟨b,off,rfl,hc⟩:=bool_at H3.out hql;have zb:=cell_lt hc;have Hg:Hid (gone ls 19 false (q:Int)=ls[q]):=by
      show _=_;unfold gone;rw [hin,Int.toNat_natCast,List.getD_eq_getElem?_getD,List.getElem?_eq_getElem hql];simp
     have Hin:=hid hin;clear hin;go_enter Tryz.func38,Tryz.ntmps38
     go_wp2_with (go_at_call 39; refine (swithin_any _ _ _ _).mono ?_; rintro e w2 ⟨rfl, hb2⟩; rw [Hin.out]
                  have hbw : Below w.heap.size w w2 := Below.trans (by (repeat (first | exact Below.refl _ _ | refine Below.alloc ?_ (by first|omega|(simp<;>omega)) _ | refine Below.setCell ?_ (by first|omega|(simp<;>omega)) _ | refine below_drewN ?_ _ | refine Below.drew ?_))) (hb2.mono (by simp))
                  have hc := cell_later' hc hbw; have h2 := cell_later' h2 hbw; have Hbw := hid hbw
                  have hn2 : w2.cell? ⟨w.heap.size, 3, none⟩ = some (.int .i64 (q : Int)) := cell_later' (by simp) hb2
                  have zw := cell_lt hn2; clear hb2 hbw)
     go_ret;exact⟨ret_bool Hg.out.symm,Hbw.out⟩
   · have hin0:inB v2 v3 (ls.length:Int)=false:=by simpa using hin
     have Hg:Hid (gone ls 19 v2 v3=false):=by show _=_;unfold gone;rw [hin0];simp
     have Hin:=hid hin0;clear hin hin0;go_enter Tryz.func38,Tryz.ntmps38;go_wp2_with (go_at_call 39;refine (swithin_any _ _ _ _).mono ?_;rintro e w2 ⟨rfl,hb2⟩;rw [Hin.out];have Hb2:=hid hb2;clear hb2);go_ret;exact⟨ret_bool Hg.out.symm,Below.trans (by (repeat (first | exact Below.refl _ _ | refine Below.alloc ?_ (by first|omega|(simp<;>omega)) _ | refine Below.setCell ?_ (by first|omega|(simp<;>omega)) _ | refine below_drewN ?_ _ | refine Below.drew ?_))) (Hb2.out.mono (by simp))⟩
 · have Hg:Hid (gone ls v0 v2 v3=false):=by show _=_;unfold gone;simp [hop]
   go_enter Tryz.func38,Tryz.ntmps38;go_wp2_with fail;go_ret;exact⟨ret_bool Hg.out.symm,by (repeat (first | exact Below.refl _ _ | refine Below.alloc ?_ (by first|omega|(simp<;>omega)) _ | refine Below.setCell ?_ (by first|omega|(simp<;>omega)) _ | refine below_drewN ?_ _ | refine Below.drew ?_))⟩

end Go.Proofs.YtnkogppgacappaaGreatDoor

namespace Go.Proofs.YtnkogppgacappaaGreatDoor
open Go.RowKit

def goneI(ls:List Bool)(y:DIns):Bool:=gone ls y.op y.a.reg y.a.n
def calmI(ls:List Bool)(y:DIns):Bool:=calm ls y.op y.a.reg y.a.n
def copyI(mem:List Int)(y:DIns):DIns:=⟨1,y.dst,⟨false,mem.getD y.a.n.toNat 0⟩,⟨false,0⟩,0,[]⟩
def doneI(ls:List Bool)(mem:List Int)(y:DIns):DIns:=if calmI ls y=true then copyI mem y else y
def restL(ls:List Bool)(l:List DIns):List DIns:=l.filter fun y=>!goneI ls y
def delB(ls:List Bool)(x:DBlock):DBlock:={ x with list:=restL ls x.list }
def doneB(ls:List Bool)(mem:List Int)(x:DBlock):DBlock:={ x with list:=(restL ls x.list).map (doneI ls mem) }
def doneFn(ls:List Bool)(mem:List Int)(f:DFunc):DFunc:={ f with blocks:=f.blocks.map (doneB ls mem) }
section
variable {ls : List Bool} {mem : List Int}
theorem done_mem {l:List DIns}{y:DIns}(h:y∈(restL ls l).map (doneI ls mem)):∃y0∈l,(y=y0∨(y0.op=18∧y=copyI mem y0)):=by
 obtain⟨y0,h0,rfl⟩:=List.mem_map.1 h;refine⟨y0,(List.mem_filter.1 h0).1,?_⟩;unfold doneI
 by_cases hc:calmI ls y0=true
 · rw [if_pos hc]
   refine .inr ⟨?_,rfl⟩;unfold calmI calm at hc;simp only [Bool.and_eq_true,decide_eq_true_eq] at hc;exact hc.1
 · rw [if_neg hc];exact .inl rfl
theorem done_len(l:List DIns):((restL ls l).map (doneI ls mem)).length≤l.length:=by
 rw [List.length_map];exact List.length_filter_le _ _
theorem i64_lit(x:Int)(h1 : -9223372036854775808≤x)(h2:x≤9223372036854775807):I64 x:=⟨h1,h2⟩
theorem mem_i64(hm:∀x∈mem,I64 x)(q:Nat):I64 (mem.getD q 0):=by
 rw [List.getD_eq_getElem?_getD];cases e:mem[q]? with
 | none=>exact⟨by decide,by decide⟩
 | some x=>exact hm x (List.mem_of_getElem? e)
theorem sum_le {α : Type} {f g : α → Nat} : ∀ {l : List α}, (∀ x ∈ l, f x ≤ g x) → (l.map f).sum ≤ (l.map g).sum
 | [],_=>Nat.le_refl _
 | x :: l,h=>by
   rw [List.map_cons,List.map_cons,List.sum_cons,List.sum_cons];exact Nat.add_le_add (h x (by simp)) (sum_le fun y hy=>h y (by simp [hy]))
theorem done_blk(bs:List DBlock){b:Nat}(hb:b<bs.length):blkOf (bs.map (doneB ls mem)) b=doneB ls mem (blkOf bs b):=blkOf_at (by rw [List.getElem?_map,blkOf_self bs hb];rfl)
theorem done_td {n:Nat}{bs:List DBlock}(h:TdOk n bs)(hm:∀x∈mem,I64 x):TdOk n (bs.map (doneB ls mem)):=by
 have hto:(bs.map (doneB ls mem)).map (·.fin.to)=bs.map (·.fin.to):=by rw [List.map_map];rfl
 have hmem:∀{x},x∈bs.map (doneB ls mem)→∃x0∈bs,x=doneB ls mem x0:=fun hx=>by
  obtain⟨x0,h0,rfl⟩:=List.mem_map.1 hx;exact⟨x0,h0,rfl⟩
 have hok:FunOk (bs.map (doneB ls mem)):=by
  refine⟨by rw [List.length_map];exact h.ok.len,fun x hx=>?_,fun x hx=>?_,fun x hx=>?_,fun x hx t ht=>?_,fun x hx=>?_,fun b hb q hq=>?_⟩
  · obtain⟨x0,h0,rfl⟩:=hmem hx
    have hn:=h.ok.num x0 h0;refine⟨hn.kind,hn.on,hn.to,hn.phi,fun y hy=>?_⟩;obtain⟨y0,h1,h2⟩:=done_mem hy;obtain⟨n1,n2,n3,n4,n5,n6⟩:=hn.ins y0 h1;rcases h2 with rfl | ⟨-,rfl⟩
    · exact⟨n1,n2,n3,n4,n5,n6⟩
    · exact⟨i64_lit 1 (by decide) (by decide),n2,mem_i64 hm _,i64_lit 0 (by decide) (by decide),i64_lit 0 (by decide) (by decide),fun v hv=>by cases hv⟩
  · obtain⟨x0,h0,rfl⟩:=hmem hx
    have hs:=h.ok.small x0 h0;refine⟨hs.phis,Nat.le_trans (done_len _) hs.list,hs.to,hs.src,fun y hy=>?_⟩;obtain⟨y0,h1,h2⟩:=done_mem hy;rcases h2 with rfl | ⟨-,rfl⟩
    · exact hs.args _ h1
    · exact Nat.zero_le _
  · obtain⟨x0,h0,rfl⟩:=hmem hx;exact h.ok.to2 x0 h0
  · obtain⟨x0,h0,rfl⟩:=hmem hx
    rw [List.length_map];exact h.ok.toIn x0 h0 t ht
  · obtain⟨x0,h0,rfl⟩:=hmem hx;exact h.ok.toNd x0 h0
  · rw [List.length_map] at hb
    rw [done_blk bs hb] at hq;rw [predsOf_tos _ _ 0 b hto];exact h.ok.src b hb q hq
 refine⟨hok,toOk_of hok (by rw [List.length_map];exact h.tok.pos),fun x hx=>?_,?_,fun x hx=>?_⟩
 · obtain⟨x0,h0,rfl⟩:=hmem hx;exact h.jump x0 h0
 · rw [List.map_map]
   exact Nat.le_trans (sum_le fun x _=>done_len (ls:=ls) (mem:=mem) x.list) h.sum
 · obtain⟨x0,h0,rfl⟩:=hmem hx
   have hr:=h.reg x0 h0;refine⟨hr.phi,fun y hy=>?_,hr.on⟩;obtain⟨y0,h1,h2⟩:=done_mem hy;obtain⟨n1,n2,n3,n4⟩:=hr.ins y0 h1;rcases h2 with rfl | ⟨-,rfl⟩
   · exact⟨n1,n2,n3,n4⟩
   · exact⟨fun (e:false=true)=>(by cases e),fun (e:false=true)=>(by cases e),fun v (hv:v∈[])=>(by cases hv),n4⟩
theorem done_ck {fs:List DFunc}{bs:List DBlock}(hc:CkOk fs bs):CkOk fs (bs.map (doneB ls mem)):=by
 refine⟨fun x hx=>?_,?_,fun x hx y hy=>?_,by rw [List.length_map];exact hc.len,?_⟩
 · obtain⟨x0,h0,rfl⟩:=List.mem_map.1 hx;exact hc.kind x0 h0
 · have h0:=hc.phi0
   cases bs with
   | nil=>rfl
   | cons x l=>exact h0
 · obtain⟨x0,h0,rfl⟩:=List.mem_map.1 hx
   obtain⟨y0,h1,h2⟩:=done_mem hy;have hi:=hc.ins x0 h0 y0 h1;rcases h2 with rfl | ⟨h3,rfl⟩
   · exact hi
   · exact⟨show (1:Int)≤1∧(1:Int)≤22 from ⟨by decide,by decide⟩,rfl,fun _ _=>hi.dst (by rw [h3];rfl) (fun e=>by rw [h3] at e;exact absurd e.1 (by decide)),fun e=>absurd (show (1:Int)=20 from e) (by decide)⟩
 · refine Nat.le_trans ?_ hc.many
   unfold manyOf;rw [List.map_map];exact sum_le fun x _=>Nat.add_le_add_left (done_len (ls:=ls) (mem:=mem) x.list) _
theorem done_num {gs gs':List DGlobal}{fs:List DFunc}(hn:NumU ⟨gs,fs⟩)(hm:∀x∈mem,I64 x):NumU ⟨gs',fs.map (doneFn ls mem)⟩:=fun f hf x hx=>by
 obtain⟨f0,h0,rfl⟩:=List.mem_map.1 hf;obtain⟨x0,h1,rfl⟩:=List.mem_map.1 (show x∈List.map _ _ from hx);have hn1:=hn f0 h0 x0 h1;refine⟨hn1.kind,hn1.on,hn1.to,hn1.phi,fun y hy=>?_⟩;obtain⟨y0,h3,h4⟩:=done_mem hy;obtain⟨n1,n2,n3,n4,n5,n6⟩:=hn1.ins y0 h3;rcases h4 with rfl | ⟨-,rfl⟩
 · exact⟨n1,n2,n3,n4,n5,n6⟩
 · exact⟨i64_lit 1 (by decide) (by decide),n2,mem_i64 hm _,i64_lit 0 (by decide) (by decide),i64_lit 0 (by decide) (by decide),fun v hv=>by cases hv⟩
theorem done_check {gs:List DGlobal}{fs:List DFunc}(h:checkF ⟨gs,fs⟩=(0,0))(hn:NumU ⟨gs,fs⟩)(hm:∀x∈mem,I64 x):checkF ⟨gs,fs.map (doneFn ls mem)⟩=(0,0):=by
 refine checkF_like (fs:=fs) h (by simp) fun k f hf=>?_;obtain⟨h1,h2,h3,h4,h5,h6⟩:=fn_td h hn hf;refine⟨f.regs.toNat,f.blocks.map (doneB ls mem),?_,done_td h1 hm,done_ck h2,by omega,h4,(done_td (ls:=ls) h1 hm).tok.pos⟩;rw [List.getElem?_map,hf,Int.toNat_of_nonneg h6];rfl
end

end Go.Proofs.YtnkogppgacappaaGreatDoor

namespace Go.Proofs.YtnkogppgacappaaGreatDoor
open Go.RowKit

theorem filter_ix {α:Type}(q:α→Bool):∀l:List α,∃g:Nat→Nat,(∀j,j<(l.filter q).length→g j<l.length∧(l.filter q)[j]?=l[g j]?)∧(∀i j,i<(l.filter q).length→j<(l.filter q).length→g i=g j→i=j) ∧
 ∀(f:Nat→α→List Value) (Q:List Value→Bool),(∀i x,l[i]?=some x→Q (f i x)=q x)→(l.mapIdx f).filter Q=(l.filter q).mapIdx fun j x=>f (g j) x
 | []=>⟨id,fun _ h=>absurd h (Nat.not_lt_zero _),fun _ _ h=>absurd h (Nat.not_lt_zero _),fun _ _ _=>rfl⟩
 | x :: l=>by
   obtain⟨g,h1,h2,h3⟩:=filter_ix q l
   by_cases hq:q x=true
   · have e:(x :: l).filter q=x :: l.filter q:=List.filter_cons_of_pos hq
     rw [e];refine⟨fun j=>match j with | 0=>0 | j+1=>g j+1,fun j hj=>?_,fun i j hi hj hg=>?_,fun f Q hQ=>?_⟩
     · cases j with
       | zero=>exact⟨Nat.succ_pos _,rfl⟩
       | succ j =>
         have:=h1 j (by simpa using hj);exact⟨Nat.succ_lt_succ this.1,by simpa using this.2⟩
     · cases i with
       | zero =>
         cases j with
         | zero=>rfl
         | succ j=>exact absurd hg (by simp)
       | succ i =>
         cases j with
         | zero=>exact absurd hg (by simp)
         | succ j=>rw [h2 i j (by simpa using hi) (by simpa using hj) (by simpa using hg)]
     · rw [List.mapIdx_cons,List.mapIdx_cons,List.filter_cons_of_pos (by rw [hQ 0 x rfl];exact hq),h3 (fun i=>f (i+1)) Q fun i y hy=>hQ (i+1) y (by simpa using hy)]
   · have e:(x :: l).filter q=l.filter q:=List.filter_cons_of_neg hq
     rw [e];refine⟨fun j=>g j+1,fun j hj=>?_,fun i j hi hj hg=>h2 i j hi hj (Nat.succ.inj hg),fun f Q hQ=>?_⟩
     · have:=h1 j hj
       exact⟨Nat.succ_lt_succ this.1,by simpa using this.2⟩
     · rw [List.mapIdx_cons,List.filter_cons_of_neg (by rw [hQ 0 x rfl];exact hq),h3 (fun i=>f (i+1)) Q fun i y hy=>hQ (i+1) y (by simpa using hy)]

def delPth (b : Nat) (g : Nat → Nat) : Pth → Pth
 | .args c i=>if c=b then .args c (g i) else .args c i
 | p=>p
theorem delPth_ty(b:Nat)(g:Nat→Nat)(p:Pth):(delPth b g p).ty=p.ty∧(delPth b g p).sz=p.sz:=by
 cases p <;> try exact⟨rfl,rfl⟩
 unfold delPth;dsimp only;split <;> exact⟨rfl,rfl⟩
theorem blkOf_put {bs:List DBlock}{b:Nat}(hb:b<bs.length)(y:DBlock):blkOf (bs.set b y) b=y:=by rw [blkOf_set hb,if_pos rfl]
theorem blkOf_other {bs:List DBlock}{b d:Nat}(hb:b<bs.length)(y:DBlock)(e:d≠b):blkOf (bs.set b y) d=blkOf bs d:=by rw [blkOf_set hb,if_neg e]

theorem FunSt.del {W W1 : World} {base : Nat} {bs : List DBlock} {V : Pth → Value} {b n c m h0 nb cb : Nat} {a : Option Addr} {ls : List Bool} (h : FunSt W base bs V) (hb : b < bs.length) (hv : V (.list b) = .slice a n c)
 (hr:Row1 W1 base 80 8 (.slice a m c) (keptP (goneP ls) (elemsP bs V (.list b)))) (hk:Kp (fun q=>(V (.list b)).ownBlock≠some q) W W1) (hg:V .blks = .slice (some ⟨h0,0,none⟩) nb cb) :
 ∃V2,FunSt (W1.setCell ⟨h0,b * 6+1,none⟩ (.slice a m c)) base (bs.set b (delB ls (blkOf bs b))) V2∧V2 .blks=V .blks∧V2 (.list b) = .slice a m c∧∀q,okP (bs.set b (delB ls (blkOf bs b))) q→∃p,okP bs p∧(V2 q).ownBlock=(V p).ownBlock:=by
 obtain⟨g,g1,g2,g3⟩:=filter_ix (fun y=>!goneI ls y) (blkOf bs b).list;have hobn:(Value.slice a m c).ownBlock=(V (.list b)).ownBlock:=by rw [hv];cases a <;> rfl
 have hgr:W.grownBy W1 (V (.list b)).ownBlock:=⟨hk.os,hk.tape,hk.output,hk.size,fun k hlt hne=>hk.block k hlt fun e=>hne e.symm⟩
 have r1:=RowsAt.turn h (p := .list b) hb (v' := .slice a m c) (xss:=keptP (goneP ls) (elemsP bs V (.list b))) hr.own hr.wid hgr (fun k hk => .inl (by rw [←hobn];exact hk));obtain⟨X,hX⟩:∃X,X=keptP (goneP ls) (elemsP bs V (.list b)):=⟨_,rfl⟩
 rw [←hX] at r1;have e0:(updP (elemsP bs V) (.list b) X) .blks=elemsP bs V .blks:=updP_ne _ _ (by simp);have hblk:(elemsP bs V .blks)[b]?=some (cellsB (blkOf bs b) (V (.phis b)) (V (.list b)) (V (.to b))):=by
  show (bs.mapIdx _)[b]?=_;rw [List.getElem?_mapIdx,blkOf_self bs hb];rfl
 have r2:=RowsAt.set r1 (p := .blks) trivial (i:=b) (j:=1) ((updP_ne _ _ (by simp)).trans hg) (e0 ▸ hblk) (by decide) (.slice a m c);rw [e0] at r2;obtain⟨y,hy⟩:∃y,y=blkOf bs b:=⟨_,rfl⟩
 rw [←hy] at g1 g2 g3 r2 hblk ⊢;have k1:=blkOf_put hb (delB ls y);have k2:∀d,d≠b→blkOf (bs.set b (delB ls y)) d=blkOf bs d:=fun d=>blkOf_other hb _;have hlen:(bs.set b (delB ls y)).length=bs.length:=List.length_set;have hin:∀p,okP (bs.set b (delB ls y)) p→okP bs (delPth b g p):=fun p hp=>by
  cases p with
  | blks=>trivial
  | phis d=>have h9:d<(bs.set b (delB ls y)).length:=hp;rw [hlen] at h9;exact h9
  | src d i =>
    show i<(blkOf bs d).phis.length
    by_cases e:d=b
    · subst e;have hp2:i<(blkOf (bs.set d (delB ls y)) d).phis.length:=hp;rw [k1] at hp2;rw [←hy];exact hp2
    · have hp2:i<(blkOf (bs.set b (delB ls y)) d).phis.length:=hp;rw [k2 d e] at hp2;exact hp2
  | list d=>have h9:d<(bs.set b (delB ls y)).length:=hp;rw [hlen] at h9;exact h9
  | args d i =>
    have hp2:i<(blkOf (bs.set b (delB ls y)) d).list.length:=hp;show okP bs (if d=b then .args d (g i) else .args d i)
    by_cases e:d=b
    · subst e;rw [if_pos rfl];rw [k1] at hp2;show g i<(blkOf bs d).list.length;rw [←hy];exact (g1 i hp2).1
    · rw [if_neg e];rw [k2 d e] at hp2;exact hp2
  | «to» d=>have h9:d<(bs.set b (delB ls y)).length:=hp;rw [hlen] at h9;exact h9
  | vBlk=>exact hp
  | vPhi=>exact hp
  | vIns=>exact hp
 have hinj:∀p q,okP (bs.set b (delB ls y)) p→okP (bs.set b (delB ls y)) q→delPth b g p=delPth b g q→p=q:=fun p q hp hq e=>by
  have hne:∀d i (r:Pth),(∀d' i',r ≠ .args d' i')→(if d=b then Pth.args d (g i) else .args d i)≠r:=fun d i r hr e=>by
   split at e
   · exact hr _ _ e.symm
   · exact hr _ _ e.symm
  cases p with
  | args d i =>
    cases q with
    | args d' i' =>
      have e2:(if d=b then Pth.args d (g i) else .args d i)=if d'=b then .args d' (g i') else .args d' i':=e
      have hp2:i<(blkOf (bs.set b (delB ls y)) d).list.length:=hp;have hq2:i'<(blkOf (bs.set b (delB ls y)) d').list.length:=hq
      by_cases e3:d=b
      · subst e3
        rw [if_pos rfl] at e2
        by_cases e4:d'=d
        · subst e4
          rw [if_pos rfl] at e2;injection e2 with e5 e6;rw [k1] at hp2 hq2;rw [g2 i i' hp2 hq2 e6]
        · rw [if_neg e4] at e2
          injection e2 with e5 e6;exact absurd e5.symm e4
      · rw [if_neg e3] at e2
        by_cases e4:d'=b
        · subst e4
          rw [if_pos rfl] at e2;injection e2 with e5 e6;exact absurd e5 e3
        · rw [if_neg e4] at e2;exact e2
    | _=>exact absurd e (hne d i _ fun _ _=>by simp [delPth])
  | _ =>
    cases q with
    | args d i=>exact absurd e.symm (hne d i _ fun _ _=>by simp [delPth])
    | _=>exact e
 have r3:=RowsAt.map r2 (ok':=okP (bs.set b (delB ls y))) (delPth b g) (delPth_ty b g) hin hinj;obtain⟨V2,hV2⟩:∃V2:Pth→Value,V2=fun p=>updP V (.list b) (.slice a m c) (delPth b g p):=⟨_,rfl⟩
 rw [←hV2] at r3;have v1:∀d,V2 (.phis d)=V (.phis d):=fun d=>by rw [hV2];exact updP_ne _ _ (by simp [delPth])
 have v2:∀d,V2 (.to d)=V (.to d):=fun d=>by rw [hV2];exact updP_ne _ _ (by simp [delPth])
 have v3:∀d i,V2 (.src d i)=V (.src d i):=fun d i=>by rw [hV2];exact updP_ne _ _ (by simp [delPth])
 have v4:V2 .blks=V .blks:=by rw [hV2];exact updP_ne _ _ (by simp [delPth])
 have v5:V2 (.list b) = .slice a m c:=by rw [hV2];exact updP_self _ _ _
 have v6:∀d,d≠b→V2 (.list d)=V (.list d):=fun d e=>by rw [hV2];exact updP_ne _ _ (by simp [delPth,e])
 have v7:∀i,V2 (.args b i)=V (.args b (g i)):=fun i=>by rw [hV2];show updP V _ _ (if b=b then _ else _)=_;rw [if_pos rfl];exact updP_ne _ _ (by simp)
 have v8:∀d i,d≠b→V2 (.args d i)=V (.args d i):=fun d i e=>by rw [hV2];show updP V _ _ (if d=b then _ else _)=_;rw [if_neg e];exact updP_ne _ _ (by simp)
 refine⟨V2,RowsAt.congr r3 (fun _ _=>rfl) (fun p hp=>?_),v4,v5,fun q hq=>?_⟩
 · cases p with
   | blks =>
     refine Eq.trans ?_ (updP_self _ _ _).symm;apply List.ext_getElem?;intro i;show (List.mapIdx _ (bs.set b (delB ls y)))[i]?=_;rw [List.getElem?_mapIdx,List.getElem?_set,List.getElem?_set]
     by_cases e:b=i
     · subst e
       rw [if_pos rfl,if_pos hb,if_pos rfl,if_pos (show b<(elemsP bs V .blks).length by show b<(bs.mapIdx _).length;rw [List.length_mapIdx];exact hb)];show some (cellsB (delB ls y) (V2 (.phis b)) (V2 (.list b)) (V2 (.to b)))=_;rw [v1,v5,v2];rfl
     · rw [if_neg e,if_neg e]
       show _=(List.mapIdx _ bs)[i]?;rw [List.getElem?_mapIdx];cases bs[i]? with
       | none=>rfl
       | some x =>
         show some (cellsB x (V2 (.phis i)) (V2 (.list i)) (V2 (.to i)))=some (cellsB x (V (.phis i)) (V (.list i)) (V (.to i)));rw [v1,v2,v6 i fun h=>e h.symm]
   | phis d =>
     refine Eq.trans ?_ ((updP_ne _ _ (by simp [delPth])).trans (updP_ne _ _ (by simp [delPth]))).symm;show (blkOf (bs.set b (delB ls y)) d).phis.mapIdx (fun i p=>[Value.int .i64 p.dst,V2 (.src d i)])=(blkOf bs d).phis.mapIdx fun i p=>[Value.int .i64 p.dst,V (.src d i)]
     have e2:(blkOf (bs.set b (delB ls y)) d).phis=(blkOf bs d).phis:=by
      by_cases e:d=b
      · subst e;rw [k1,←hy];rfl
      · rw [k2 d e]
     rw [e2];exact mapIdx_congr fun i x _=>by rw [v3]
   | src d j =>
     refine Eq.trans ?_ ((updP_ne _ _ (by simp [delPth])).trans (updP_ne _ _ (by simp [delPth]))).symm;show ((blkOf (bs.set b (delB ls y)) d).phis.getD j noPhiP).src.map cellsV=((blkOf bs d).phis.getD j noPhiP).src.map cellsV
     by_cases e:d=b
     · subst e;rw [k1,←hy];rfl
     · rw [k2 d e]
   | list d =>
     refine Eq.trans ?_ (updP_ne _ _ (by simp [delPth])).symm;show (blkOf (bs.set b (delB ls y)) d).list.mapIdx (fun i x=>cellsI x (V2 (.args d i)))=updP (elemsP bs V) (.list b) X (.list d)
     by_cases e:d=b
     · subst e
       rw [k1,updP_self,hX];show (restL ls y.list).mapIdx _=((blkOf bs d).list.mapIdx fun i x=>cellsI x (V (.args d i))).filter _;rw [←hy,g3 (fun i x=>cellsI x (V (.args d i))) (fun x=>!goneP ls x) fun i x _=>rfl];exact mapIdx_congr fun i x _=>by rw [v7]
     · rw [k2 d e,updP_ne _ _ (by simp [e])]
       show _=(blkOf bs d).list.mapIdx fun i x=>cellsI x (V (.args d i));exact mapIdx_congr fun i x _=>by rw [v8 d i e]
   | args d i =>
     have hp2:i<(blkOf (bs.set b (delB ls y)) d).list.length:=hp;show ((blkOf (bs.set b (delB ls y)) d).list.getD i noInsP).args.map cellsV=_
     by_cases e:d=b
     · subst e
       have e3:delPth d g (.args d i) = .args d (g i):=if_pos rfl;rw [e3,updP_ne _ _ (by simp),updP_ne _ _ (by simp)];show _=((blkOf bs d).list.getD (g i) noInsP).args.map cellsV;rw [k1] at hp2 ⊢;rw [←hy,List.getD_eq_getElem?_getD,List.getD_eq_getElem?_getD,←(g1 i hp2).2];rfl
     · have e3:delPth b g (.args d i) = .args d i:=if_neg e
       rw [e3,updP_ne _ _ (by simp),updP_ne _ _ (by simp),k2 d e];rfl
   | «to» d =>
     refine Eq.trans ?_ ((updP_ne _ _ (by simp [delPth])).trans (updP_ne _ _ (by simp [delPth]))).symm;show (blkOf (bs.set b (delB ls y)) d).fin.to.map (fun t=>[Value.int .i64 t])=(blkOf bs d).fin.to.map fun t=>[Value.int .i64 t]
     by_cases e:d=b
     · subst e;rw [k1,←hy];rfl
     · rw [k2 d e]
   | vBlk=>exact absurd hp id
   | vPhi=>exact absurd hp id
   | vIns=>exact absurd hp id
 · refine⟨delPth b g q,hin q hq,?_⟩
   rw [hV2];dsimp only
   by_cases e:delPth b g q = .list b
   · rw [e,updP_self,hobn]
   · rw [updP_ne _ _ e]

theorem FunSt.setIns {W:World}{base:Nat}{bs:List DBlock}{V:Pth→Value}{b i h1 n c:Nat}{z:DIns}(h:FunSt W base bs V)(hb:b<bs.length)(hi:i<(blkOf bs b).list.length)(hv:V (.list b) = .slice (some ⟨h1,0,none⟩) n c)(hz:z.args=[]) :
 ∃ V2, FunSt ((((((((W.setCell ⟨h1, i * 8, none⟩ (.int .i64 z.op)).setCell ⟨h1, i * 8 + 1, none⟩ (.int .i64 z.dst)).setCell ⟨h1, i * 8 + 2, none⟩ (.bool z.a.reg)).setCell ⟨h1, i * 8 + 3, none⟩ (.int .i64 z.a.n)).setCell ⟨h1, i * 8 + 4, none⟩ (.bool z.b.reg)).setCell ⟨h1, i * 8 + 5, none⟩ (.int .i64 z.b.n)).setCell ⟨h1, i * 8 + 6, none⟩ (.int .i64 z.fn)).setCell ⟨h1, i * 8 + 7, none⟩ (.slice none 0 0)) base
  (bs.set b { blkOf bs b with list:=(blkOf bs b).list.set i z }) V2∧V2 .blks=V .blks∧V2 (.list b)=V (.list b)∧∀q,okP (bs.set b { blkOf bs b with list:=(blkOf bs b).list.set i z }) q→∀k,(V2 q).ownBlock=some k→∃p,okP bs p∧(V p).ownBlock=some k:=by
 obtain⟨V2,hV2⟩:∃V2,V2=updP V (.args b i) (.slice none 0 0):=⟨_,rfl⟩
 have r0:=(RowsAt.put h (.args b i) (W':=W) (v' := .slice none 0 0) (xss:=[]) (row:=none) (World.ownsRow_nil _ _ _ _) (fun cs hcs=>absurd hcs (List.not_mem_nil)) ⟨rfl,rfl,rfl,Nat.le_refl _,fun _ _ _=>rfl⟩ (fun _ _ _ _ _ e=>by cases e) (fun k hk=>by cases hk)).less (ok':=okP bs) fun q hq => .inl hq;rw [←hV2] at r0;have hvl:V2 (.list b)=V (.list b):=by rw [hV2];exact updP_ne _ _ (by simp)
 have row:Row1 W base 80 8 (V (.list b)) (elemsP bs V (.list b)):=⟨RowsAt.own h (.list b) hb,RowsAt.wid h (.list b) hb⟩
 have hel:i<(elemsP bs V (.list b)).length:=by show i<(List.mapIdx _ _).length;rw [List.length_mapIdx];exact hi
 have r8:=row.set8 hv hel (.int .i64 z.op) (.int .i64 z.dst) (.bool z.a.reg) (.int .i64 z.a.n) (.bool z.b.reg) (.int .i64 z.b.n) (.int .i64 z.fn) (.slice none 0 0);obtain⟨W',hW'⟩:∃W',W'=(((((((W.setCell ⟨h1,i * 8,none⟩ (.int .i64 z.op)).setCell ⟨h1,i * 8+1,none⟩ (.int .i64 z.dst)).setCell ⟨h1,i * 8+2,none⟩ (.bool z.a.reg)).setCell ⟨h1,i * 8+3,none⟩ (.int .i64 z.a.n)).setCell ⟨h1,i * 8+4,none⟩ (.bool z.b.reg)).setCell ⟨h1,i * 8+5,none⟩ (.int .i64 z.b.n)).setCell ⟨h1,i * 8+6,none⟩ (.int .i64 z.fn)).setCell ⟨h1,i * 8+7,none⟩ (.slice none 0 0):=⟨_,rfl⟩
 have hk:Kp (fun k=>k≠h1) W W':=by
  rw [hW'];exact kp_more (kp_more (kp_more (kp_more (kp_more (kp_more (kp_more (kp_one _ h1 _ _) _ _) _ _) _ _) _ _) _ _) _ _) _ _
 rw [←hW'] at r8 ⊢;have hgr:W.grownBy W' (V2 (.list b)).ownBlock:=by
  rw [hvl,hv];exact⟨hk.os,hk.tape,hk.output,hk.size,fun k hlt hne=>hk.block k hlt fun e=>hne (by rw [e];rfl)⟩
 have r1:=r0.turn (p := .list b) hb (v':=V (.list b)) r8.own r8.wid hgr (fun k hk => .inl (by rw [hvl];exact hk));obtain⟨y,hy⟩:∃y,y=blkOf bs b:=⟨_,rfl⟩
 rw [←hy] at hi ⊢;have k1:=blkOf_put hb { y with list:=y.list.set i z };have k2:∀d,d≠b→blkOf (bs.set b { y with list:=y.list.set i z }) d=blkOf bs d:=fun d=>blkOf_other hb _;have v0:∀p,(∀d j,p ≠ .args d j)→V2 p=V p:=fun p hp=>by rw [hV2];exact updP_ne _ _ (hp b i)
 have v1:V2 (.args b i) = .slice none 0 0:=by rw [hV2];exact updP_self _ _ _
 have v2:∀d j,¬(d=b∧j=i)→V2 (.args d j)=V (.args d j):=fun d j e=>by rw [hV2];exact updP_ne _ _ fun e2=>by injection e2 with e3 e4;exact e ⟨e3,e4⟩
 have hsh:∀q,okP (bs.set b { y with list:=y.list.set i z }) q↔okP bs q:=okP_shape List.length_set (set_shape hb (by rw [hy]) (by dsimp only;rw [List.length_set,hy]));refine⟨V2,RowsAt.congr (RowsAt.less r1 fun q hq=>(hsh q).1 hq) (fun p _=>?_) (fun p hp=>?_),v0 _ (by simp),hvl,fun q hq k hk=>?_⟩
 · by_cases e:p = .list b
   · rw [e,updP_self,hvl]
   · rw [updP_ne _ _ e]
 · cases p with
   | blks =>
     refine Eq.trans ?_ ((updP_ne _ _ (by simp)).trans (updP_ne _ _ (by simp))).symm;show (List.mapIdx _ (bs.set b _))=List.mapIdx _ bs;apply List.ext_getElem?;intro j;rw [List.getElem?_mapIdx,List.getElem?_mapIdx,List.getElem?_set]
     by_cases e:b=j
     · subst e
       rw [if_pos rfl,if_pos hb,blkOf_self bs hb,←hy];show some (cellsB { y with list:=y.list.set i z } (V2 (.phis b)) (V2 (.list b)) (V2 (.to b)))=some (cellsB y (V (.phis b)) (V (.list b)) (V (.to b)));rw [v0 _ (by simp),v0 _ (by simp),v0 _ (by simp)];rfl
     · rw [if_neg e]
       cases bs[j]? with
       | none=>rfl
       | some x =>
         show some (cellsB x (V2 (.phis j)) (V2 (.list j)) (V2 (.to j)))=some (cellsB x (V (.phis j)) (V (.list j)) (V (.to j)));rw [v0 _ (by simp),v0 _ (by simp),v0 _ (by simp)]
   | phis d =>
     refine Eq.trans ?_ ((updP_ne _ _ (by simp)).trans (updP_ne _ _ (by simp))).symm;show (blkOf (bs.set b _) d).phis.mapIdx (fun i p=>[Value.int .i64 p.dst,V2 (.src d i)])=(blkOf bs d).phis.mapIdx fun i p=>[Value.int .i64 p.dst,V (.src d i)]
     have e2:(blkOf (bs.set b { y with list:=y.list.set i z }) d).phis=(blkOf bs d).phis:=by
      by_cases e:d=b
      · subst e;rw [k1,←hy]
      · rw [k2 d e]
     rw [e2];exact mapIdx_congr fun i x _=>by rw [v0 _ (by simp)]
   | src d j =>
     refine Eq.trans ?_ ((updP_ne _ _ (by simp)).trans (updP_ne _ _ (by simp))).symm;show ((blkOf (bs.set b _) d).phis.getD j noPhiP).src.map cellsV=((blkOf bs d).phis.getD j noPhiP).src.map cellsV
     by_cases e:d=b
     · subst e;rw [k1,←hy]
     · rw [k2 d e]
   | list d =>
     show (blkOf (bs.set b _) d).list.mapIdx (fun i x=>cellsI x (V2 (.args d i)))=_
     by_cases e:d=b
     · subst e
       rw [k1,updP_self];show _=((blkOf bs d).list.mapIdx fun i x=>cellsI x (V (.args d i))).set i _;rw [←hy];apply List.ext_getElem?;intro j;rw [List.getElem?_mapIdx,List.getElem?_set,List.getElem?_set,List.getElem?_mapIdx,List.length_mapIdx]
       by_cases e:i=j
       · subst e;rw [if_pos rfl,if_pos hi,if_pos rfl,if_pos hi,Option.map_some,v1];rfl
       · rw [if_neg e,if_neg e]
         cases y.list[j]? with
         | none=>rfl
         | some x =>
           show some (cellsI x (V2 (.args d j)))=some (cellsI x (V (.args d j)));rw [v2 d j fun h=>e h.2.symm]
     · rw [k2 d e,updP_ne _ _ (by simp [e]),updP_ne _ _ (by simp)]
       show _=(blkOf bs d).list.mapIdx fun i x=>cellsI x (V (.args d i));exact mapIdx_congr fun i x _=>by rw [v2 d i fun h=>e h.1]
   | args d j =>
     show ((blkOf (bs.set b _) d).list.getD j noInsP).args.map cellsV=_;rw [updP_ne _ _ (by simp)]
     by_cases e:d=b∧j=i
     · obtain⟨rfl,rfl⟩:=e
       rw [k1,updP_self];show ((y.list.set j z).getD j noInsP).args.map cellsV=[];rw [List.getD_eq_getElem?_getD,List.getElem?_set_self hi];show z.args.map cellsV=[];rw [hz];rfl
     · rw [updP_ne _ _ fun e2=>by injection e2 with e3 e4;exact e ⟨e3,e4⟩]
       show _=((blkOf bs d).list.getD j noInsP).args.map cellsV
       by_cases e3:d=b
       · subst e3
         rw [k1,←hy];show ((y.list.set i z).getD j noInsP).args.map cellsV=_;rw [List.getD_eq_getElem?_getD,List.getD_eq_getElem?_getD,List.getElem?_set_ne fun e4=>e ⟨rfl,e4.symm⟩]
       · rw [k2 d e3]
   | «to» d =>
     refine Eq.trans ?_ ((updP_ne _ _ (by simp)).trans (updP_ne _ _ (by simp))).symm;show (blkOf (bs.set b _) d).fin.to.map (fun t=>[Value.int .i64 t])=(blkOf bs d).fin.to.map fun t=>[Value.int .i64 t]
     by_cases e:d=b
     · subst e;rw [k1,←hy]
     · rw [k2 d e]
   | vBlk=>exact absurd hp id
   | vPhi=>exact absurd hp id
   | vIns=>exact absurd hp id
 · refine⟨q,(hsh q).1 hq,?_⟩
   by_cases e:q = .args b i
   · rw [e,v1] at hk;cases hk
   · rw [hV2,updP_ne _ _ e] at hk;exact hk

structure DoneSt (W0 W:World)(A HI:Nat)(v:Value)(fs:List DFunc)(V:Nat→Pth→Value):Prop where
 uni:UniSt W A v fs V
 hi:∀(k:Nat) f,fs[k]?=some f→∀p,okP f.blocks p→∀c,(V k p).ownBlock=some c→c<HI
 kept:Kp (fun c=>c<A∨HI≤c) W0 W
section
variable {W0 W W1 : World} {A HI : Nat} {v : Value} {fs : List DFunc} {V : Nat → Pth → Value} {k b : Nat} {f : DFunc}
theorem DoneSt.later(h:DoneSt W0 W A HI v fs V)(hb:Below W.heap.size W W1):DoneSt W0 W1 A HI v fs V:=⟨h.uni.later hb,h.hi,h.kept.trans (Kp.of hb)⟩
theorem DoneSt.turn {bs : List DBlock} {V2 : Pth → Value} (h : DoneSt W0 W A HI v fs V) (hx : fs[k]? = some f) (h2 : FunSt W1 A bs V2) (hb : V2 .blks = V k .blks) (hk : Kp (fun c => ∀ p, okP f.blocks p → (V k p).ownBlock ≠ some c) W W1)
 (hn:∀q,okP bs q→∀c,(V2 q).ownBlock=some c→∃p,okP f.blocks p∧(V k p).ownBlock=some c):∃V',DoneSt W0 W1 A HI v (fs.set k { f with blocks:=bs }) V'∧V' k=V2:=by
 have hkl:=(List.getElem?_eq_some_iff.1 hx).1;refine⟨_,⟨h.uni.turn hx h2 hb hk (fun c hc=>hc) fun q hq c hc => .inl (hn q hq c hc),fun j g hj p hp c hc=>?_,h.kept.trans (hk.less fun c hc p hp e=>?_)⟩,if_pos rfl⟩
 · rw [List.getElem?_set] at hj
   by_cases e:k=j
   · subst e
     rw [if_pos rfl,if_pos hkl] at hj;have e2:=(Option.some.inj hj).symm;subst e2;rw [if_pos rfl] at hc;obtain⟨p',h3,h4⟩:=hn p hp c hc;exact h.hi k f hx p' h3 c h4
   · rw [if_neg e] at hj
     rw [if_neg fun e2=>e e2.symm] at hc;exact h.hi j g hj p hp c hc
 · have h3:=(h.uni.lt.2 k f hx p hp c e).1
   have h4:=h.hi k f hx p hp c e;omega
theorem DoneSt.listCell {h0 nb cb:Nat}(h:DoneSt W0 W A HI v fs V)(hx:fs[k]?=some f)(hb:b<f.blocks.length)(hg:V k .blks = .slice (some ⟨h0,0,none⟩) nb cb) :
 W.cell? ⟨h0,b * 6+1,none⟩=some (V k (.list b))∧W.frozen? ⟨h0,b * 6+1,none⟩=false∧h0<W.heap.size:=by
 obtain⟨h0',cb',hv',-,-,hh0,hcell,hfro⟩:=RowsAt.cell (h.uni.fn k f hx) (p := .blks) trivial (i:=b) (j:=1) (cs:=cellsB (blkOf f.blocks b) (V k (.phis b)) (V k (.list b)) (V k (.to b))) (by show (f.blocks.mapIdx _)[b]?=_;rw [List.getElem?_mapIdx,blkOf_self f.blocks hb];rfl) rfl;have hh:h0=h0':=by rw [hg] at hv';injection hv' with e1;injection e1 with e2;injection e2
 subst hh;exact⟨hcell,hfro,hh0⟩
theorem DoneSt.insCells {i n c:Nat}{a:Option Addr}{y:DIns}(h:DoneSt W0 W A HI v fs V)(hx:fs[k]?=some f)(hb:b<f.blocks.length)(hy:(blkOf f.blocks b).list[i]?=some y)(hv:V k (.list b) = .slice a n c) :
 ∃h1 aa an ac,a=some ⟨h1,0,none⟩∧n≤c∧i<n∧V k (.args b i) = .slice aa an ac∧CellsAt W h1 (i * 8) [.int .i64 y.op,.int .i64 y.dst,.bool y.a.reg,.int .i64 y.a.n,.bool y.b.reg,.int .i64 y.b.n,.int .i64 y.fn,.slice aa an ac]∧(∀o,W.frozen? ⟨h1,o,none⟩=false)∧A≤h1∧h1<HI:=by
 have hfn:=h.uni.fn k f hx;have row:Row1 W A 80 8 (V k (.list b)) (elemsP f.blocks (V k) (.list b)):=⟨RowsAt.own hfn (.list b) hb,RowsAt.wid hfn (.list b) hb⟩
 obtain⟨aa,ac,ha⟩:=RowsAt.shape (p := .args b i) hfn (show i<(blkOf f.blocks b).list.length from (List.getElem?_eq_some_iff.1 hy).1);have he:(elemsP f.blocks (V k) (.list b))[i]?=some (cellsI y (V k (.args b i))):=by
  show ((blkOf f.blocks b).list.mapIdx _)[i]?=_;rw [List.getElem?_mapIdx,hy];rfl
 obtain⟨h1,c',hv',hle,-,-,hat,hz⟩:=row.at he (by decide);rw [hv] at hv';injection hv' with e1 e2 e3;have hil:=(List.getElem?_eq_some_iff.1 he).1;rw [ha] at hat;have hob:(V k (.list b)).ownBlock=some h1:=by rw [hv,e1];rfl
 exact⟨h1,aa,_,ac,e1,by omega,by omega,ha,hat,hz,(h.uni.lt.2 k f hx (.list b) hb h1 hob).1,h.hi k f hx (.list b) hb h1 hob⟩
theorem DoneSt.del {n c m h0 nb cb : Nat} {a : Option Addr} {ls : List Bool} (h : DoneSt W0 W A HI v fs V) (hx : fs[k]? = some f) (hb : b < f.blocks.length) (hv : V k (.list b) = .slice a n c)
 (hr:Row1 W1 A 80 8 (.slice a m c) (keptP (goneP ls) (elemsP f.blocks (V k) (.list b)))) (hk:Kp (fun q=>(V k (.list b)).ownBlock≠some q) W W1) (hg:V k .blks = .slice (some ⟨h0,0,none⟩) nb cb) :
 ∃V',DoneSt W0 (W1.setCell ⟨h0,b * 6+1,none⟩ (.slice a m c)) A HI v (fs.set k { f with blocks:=f.blocks.set b (delB ls (blkOf f.blocks b)) }) V'∧V' k .blks=V k .blks∧V' k (.list b) = .slice a m c:=by
 obtain⟨V2,h1,h2,h3,h4⟩:=FunSt.del (h.uni.fn k f hx) hb hv hr hk hg;obtain⟨V',h5,h6⟩:=h.turn hx h1 h2 ((hk.less fun c hc=>hc (.list b) hb).set (fun hF=>hF .blks trivial (by rw [hg];rfl)) _) fun q hq c hc=>by
  obtain⟨p,h7,h8⟩:=h4 q hq;exact⟨p,h7,by rw [←h8];exact hc⟩
 exact⟨V',h5,by rw [h6,h2],by rw [h6,h3]⟩
theorem DoneSt.setIns {i h1 n c:Nat}{z:DIns}(h:DoneSt W0 W A HI v fs V)(hx:fs[k]?=some f)(hb:b<f.blocks.length)(hi:i<(blkOf f.blocks b).list.length)(hv:V k (.list b) = .slice (some ⟨h1,0,none⟩) n c)(hz:z.args=[]) :
 ∃ V', DoneSt W0 ((((((((W.setCell ⟨h1, i * 8, none⟩ (.int .i64 z.op)).setCell ⟨h1, i * 8 + 1, none⟩ (.int .i64 z.dst)).setCell ⟨h1, i * 8 + 2, none⟩ (.bool z.a.reg)).setCell ⟨h1, i * 8 + 3, none⟩ (.int .i64 z.a.n)).setCell ⟨h1, i * 8 + 4, none⟩ (.bool z.b.reg)).setCell ⟨h1, i * 8 + 5, none⟩ (.int .i64 z.b.n)).setCell ⟨h1, i * 8 + 6, none⟩ (.int .i64 z.fn)).setCell ⟨h1, i * 8 + 7, none⟩ (.slice none 0 0)) A HI v
  (fs.set k { f with blocks:=f.blocks.set b { blkOf f.blocks b with list:=(blkOf f.blocks b).list.set i z } }) V'∧V' k .blks=V k .blks∧V' k (.list b)=V k (.list b):=by
 obtain⟨V2,g1,g2,g3,g4⟩:=FunSt.setIns (h.uni.fn k f hx) hb hi hv hz;have hk:=kp_more (kp_more (kp_more (kp_more (kp_more (kp_more (kp_more (kp_one W h1 (i * 8) (.int .i64 z.op)) (i * 8+1) (.int .i64 z.dst)) (i * 8+2) (.bool z.a.reg)) (i * 8+3) (.int .i64 z.a.n)) (i * 8+4) (.bool z.b.reg)) (i * 8+5) (.int .i64 z.b.n)) (i * 8+6) (.int .i64 z.fn)) (i * 8+7) (.slice none 0 0);obtain⟨V',h5,h6⟩:=h.turn hx g1 g2 (hk.less fun c hc e=>hc (.list b) hb (by rw [hv,e];rfl)) g4;exact⟨V',h5,by rw [h6,g2],by rw [h6,g3]⟩
end

end Go.Proofs.YtnkogppgacappaaGreatDoor

namespace Go.Proofs.YtnkogppgacappaaGreatDoor
open Go.RowKit

def upF {α:Type}(f:α→α)(l:List α)(k:Nat):List α:=l.mapIdx fun i x=>if i<k then f x else x
section
variable {α : Type} (f : α → α) {l : List α} {k : Nat} {x : α}
theorem upF_zero(l:List α):upF f l 0=l:=up_zero (fun _=>f) l
theorem upF_set(h:l[k]?=some x):(upF f l k).set k (f x)=upF f l (k+1):=up_set (fun _=>f) h
theorem upF_at(h:l[k]?=some x):(upF f l k)[k]?=some x:=up_at (fun _=>f) h
theorem upF_len(l:List α)(k:Nat):(upF f l k).length=l.length:=List.length_mapIdx
theorem upF_all(h:l.length≤k):upF f l k=l.map f:=by
 unfold upF;apply List.ext_getElem?;intro i;rw [List.getElem?_mapIdx,List.getElem?_map]
 by_cases hi:i<l.length
 · rw [List.getElem?_eq_getElem hi,Option.map_some,Option.map_some,if_pos (by omega)]
 · rw [List.getElem?_eq_none (by omega)];rfl
theorem upF_skip(h:l[k]?=some x)(hf:f x=x):upF f l (k+1)=upF f l k:=by
 rw [←upF_set f h,hf];exact list_set_self (upF_at f h)
end
section
variable (ls : List Bool) (mem : List Int)
def insUp(x:DBlock)(i:Nat):DBlock:={ x with list:=upF (doneI ls mem) (restL ls x.list) i }
def bsUp(bs:List DBlock)(b:Nat):List DBlock:=upF (doneB ls mem) bs b
def fsUp(fs:List DFunc)(k:Nat):List DFunc:=upF (doneFn ls mem) fs k
def fsB(fs:List DFunc)(k b:Nat)(f:DFunc):List DFunc:=(fsUp ls mem fs k).set k { f with blocks:=bsUp ls mem f.blocks b }
def fsC(fs:List DFunc)(k b i:Nat)(f:DFunc):List DFunc:=(fsUp ls mem fs k).set k { f with blocks:=(bsUp ls mem f.blocks b).set b (insUp ls mem (blkOf f.blocks b) i) }
variable {fs : List DFunc} {k b i : Nat} {f : DFunc} {y : DIns}
theorem fsUp_zero:fsUp ls mem fs 0=fs:=upF_zero _ _
theorem fsUp_all(h:fs.length≤k):fsUp ls mem fs k=fs.map (doneFn ls mem):=upF_all _ h
theorem fsUp_open(h:fs[k]?=some f):fsUp ls mem fs k=fsB ls mem fs k 0 f:=by
 unfold fsB bsUp;rw [upF_zero];exact (list_set_self (upF_at _ h)).symm
theorem fsB_at(h:fs[k]?=some f):(fsB ls mem fs k b f)[k]?=some { f with blocks:=bsUp ls mem f.blocks b }:=List.getElem?_set_self (by rw [fsUp,upF_len];exact (List.getElem?_eq_some_iff.1 h).1)
theorem fsC_at(h:fs[k]?=some f):(fsC ls mem fs k b i f)[k]?=some { f with blocks:=(bsUp ls mem f.blocks b).set b (insUp ls mem (blkOf f.blocks b) i) }:=List.getElem?_set_self (by rw [fsUp,upF_len];exact (List.getElem?_eq_some_iff.1 h).1)
theorem fsB_close(h:fs[k]?=some f)(hb:f.blocks.length≤b):fsB ls mem fs k b f=fsUp ls mem fs (k+1):=by
 unfold fsB bsUp;rw [upF_all _ hb];exact upF_set _ h
theorem bsUp_len(bs:List DBlock):(bsUp ls mem bs b).length=bs.length:=upF_len _ _ _
theorem bsUp_blk {bs:List DBlock}(hb:b<bs.length):blkOf (bsUp ls mem bs b) b=blkOf bs b:=blkOf_at (upF_at _ (blkOf_self bs hb))
theorem insUp_zero(x:DBlock):insUp ls mem x 0=delB ls x:=by unfold insUp delB;rw [upF_zero]
theorem insUp_all {x:DBlock}(h:(restL ls x.list).length≤i):insUp ls mem x i=doneB ls mem x:=by unfold insUp doneB;rw [upF_all _ h]
theorem fsB_open(hb:b<f.blocks.length):(fsB ls mem fs k b f).set k { ({ f with blocks:=bsUp ls mem f.blocks b }:DFunc) with blocks:=(bsUp ls mem f.blocks b).set b (delB ls (blkOf (bsUp ls mem f.blocks b) b)) }=fsC ls mem fs k b 0 f:=by
 unfold fsB fsC;rw [List.set_set,insUp_zero,bsUp_blk ls mem hb]
theorem fsC_close(hb:b<f.blocks.length)(h:(restL ls (blkOf f.blocks b).list).length≤i):fsC ls mem fs k b i f=fsB ls mem fs k (b+1) f:=by
 unfold fsB fsC;rw [insUp_all ls mem h,bsUp,bsUp,upF_set _ (blkOf_self f.blocks hb)]
theorem fsC_blk(hb:b<f.blocks.length):blkOf ((bsUp ls mem f.blocks b).set b (insUp ls mem (blkOf f.blocks b) i)) b=insUp ls mem (blkOf f.blocks b) i:=blkOf_put (by rw [bsUp_len];exact hb) _
theorem insUp_at {x:DBlock}(h:(restL ls x.list)[i]?=some y):(insUp ls mem x i).list[i]?=some y:=upF_at _ h
theorem insUp_len(x:DBlock):(insUp ls mem x i).list.length=(restL ls x.list).length:=upF_len _ _ _
theorem fsC_set(hb:b<f.blocks.length)(h:(restL ls (blkOf f.blocks b).list)[i]?=some y) :
 (fsC ls mem fs k b i f).set k { ({ f with blocks := (bsUp ls mem f.blocks b).set b (insUp ls mem (blkOf f.blocks b) i) } : DFunc) with
   blocks := ((bsUp ls mem f.blocks b).set b (insUp ls mem (blkOf f.blocks b) i)).set b { blkOf ((bsUp ls mem f.blocks b).set b (insUp ls mem (blkOf f.blocks b) i)) b with list := (blkOf ((bsUp ls mem f.blocks b).set b (insUp ls mem (blkOf f.blocks b) i)) b).list.set i (doneI ls mem y) } } = fsC ls mem fs k b (i + 1) f := by
 unfold fsC;rw [List.set_set,fsC_blk ls mem hb,List.set_set];unfold insUp;dsimp only;rw [upF_set _ h]
theorem fsC_skip(h:(restL ls (blkOf f.blocks b).list)[i]?=some y)(hc:calmI ls y=false):fsC ls mem fs k b (i+1) f=fsC ls mem fs k b i f:=by
 unfold fsC insUp;rw [upF_skip _ h (by unfold doneI;rw [hc];rfl)]
end

end Go.Proofs.YtnkogppgacappaaGreatDoor
