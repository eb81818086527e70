/- The closure of still.Do: which instructions go. still.Do, plain: stores of still words go, loads of them become copies; a checked unit stays checked. A unit's functions whose instructions go or change in place. still.Do's loops, plainly: what is done up to a place. still.Do. -/
import Derived.Test.YtnkogppgacappaaGreatDoorPDelF
import Derived.Test.YtnkogppgacappaaGreatDoorPRound
import Derived.Test.YtnkogppgacappaaGreatDoorPLarge
import Derived.Test.YtnkogppgacappaaGreatDoorPCopyRU
import Derived.Test.YtnkogppgacappaaGreatDoorPKeep1
import Derived.Test.YtnkogppgacappaaGreatDoorPGlobs
import Derived.Test.YtnkogppgacappaaGreatDoorPPost
import Derived.Test.YtnkogppgacappaaGreatDoorPTidyOk
import Derived.StillTailTactics
namespace Go.Proofs.YtnkogppgacappaaGreatDoor
open Go.RowKit

def gone(ls:List Bool)(op:Int)(r:Bool)(n:Int):Bool:=decide (op=19)&&(inB r n (ls.length:Int)&&ls.getD n.toNat false)
def calm(ls:List Bool)(op:Int)(r:Bool)(n:Int):Bool:=decide (op=18)&&(inB r n (ls.length:Int)&&ls.getD n.toNat false)
def goneP (ls : List Bool) : List Value → Bool
 | .int .i64 op :: _ :: .bool r :: .int .i64 n :: _=>gone ls op r n
 | _=>false

set_option maxRecDepth 100000 in
set_option maxHeartbeats 2000000 in
theorem stillDel_any {S : Nat → Prop} (mb lb : Nat) (ma la : Option Addr) (mc n lc : Nat) (ls : List Bool) (w : World) (h1 : w.cell? ⟨mb, 0, none⟩ = some (.slice ma n mc)) (h2 : w.cell? ⟨lb, 0, none⟩ = some (.slice la n lc)) (h3 : SlAt S w 1 rBool (.slice la n lc) ls) (hl : ls.length = n) (hn : n ≤ 1048576)
 (v0 v1:Int) (v2:Bool) (v3:Int) (v4:Bool) (v5 v6:Int) (vs:Option Addr) (vm vk:Nat) :
 Calls Tryz.prog 38 #[.agg #[.int .i64 v0, .int .i64 v1, .bool v2, .int .i64 v3, .bool v4, .int .i64 v5, .int .i64 v6, .slice vs vm vk], .pointer (some ⟨mb, 0, none⟩), .pointer (some ⟨lb, 0, none⟩)] w
  fun e w'=>e = .returned (.bool (goneP ls [.int .i64 v0,.int .i64 v1,.bool v2,.int .i64 v3,.bool v4,.int .i64 v5,.int .i64 v6,.slice vs vm vk]))∧Below w.heap.size w w':=by
 show Calls _ _ _ _ fun e w'=>e = .returned (.bool (gone ls v0 v2 v3))∧_;subst hl;have H3:=hid h3;have zm:=cell_lt h1;have zl:=cell_lt h2;clear h3
 by_cases hop:v0=19
 · subst hop
   by_cases hin:inB v2 v3 (ls.length:Int)=true
   · obtain⟨hr,hn0,hn1⟩:v2=false∧0≤v3∧v3<(ls.length:Int):=by
      unfold inB at hin;simp only [Bool.and_eq_true,Bool.not_eq_true',decide_eq_true_eq] at hin;exact hin
     subst hr;obtain⟨q,hq⟩:∃q:Nat,v3=(q:Int):=⟨v3.toNat,by omega⟩
     subst hq;have hql:q<ls.length:=by omega
     obtain⟨b,off,rfl,hc⟩:=bool_at H3.out hql;have zb:=cell_lt hc;have Hg:Hid (gone ls 19 false (q:Int)=ls[q]):=by
      show _=_;unfold gone;rw [hin,Int.toNat_natCast,List.getD_eq_getElem?_getD,List.getElem?_eq_getElem hql];simp
     have Hin:=hid hin;clear hin;go_enter Tryz.func38,Tryz.ntmps38
     go_wp2_with (go_at_call 39; refine (swithin_any _ _ _ _).mono ?_; rintro e w2 ⟨rfl, hb2⟩; rw [Hin.out]
                  have hbw : Below w.heap.size w w2 := Below.trans (by (repeat (first | exact Below.refl _ _ | refine Below.alloc ?_ (by first|omega|(simp<;>omega)) _ | refine Below.setCell ?_ (by first|omega|(simp<;>omega)) _ | refine below_drewN ?_ _ | refine Below.drew ?_))) (hb2.mono (by simp))
                  have hc := cell_later' hc hbw; have h2 := cell_later' h2 hbw; have Hbw := hid hbw
                  have hn2 : w2.cell? ⟨w.heap.size, 3, none⟩ = some (.int .i64 (q : Int)) := cell_later' (by simp) hb2
                  have zw := cell_lt hn2; clear hb2 hbw)
     go_ret;exact⟨ret_bool Hg.out.symm,Hbw.out⟩
   · have hin0:inB v2 v3 (ls.length:Int)=false:=by simpa using hin
     have Hg:Hid (gone ls 19 v2 v3=false):=by show _=_;unfold gone;rw [hin0];simp
     have Hin:=hid hin0;clear hin hin0;go_enter Tryz.func38,Tryz.ntmps38;go_wp2_with (go_at_call 39;refine (swithin_any _ _ _ _).mono ?_;rintro e w2 ⟨rfl,hb2⟩;rw [Hin.out];have Hb2:=hid hb2;clear hb2);go_ret;exact⟨ret_bool Hg.out.symm,Below.trans (by (repeat (first | exact Below.refl _ _ | refine Below.alloc ?_ (by first|omega|(simp<;>omega)) _ | refine Below.setCell ?_ (by first|omega|(simp<;>omega)) _ | refine below_drewN ?_ _ | refine Below.drew ?_))) (Hb2.out.mono (by simp))⟩
 · have Hg:Hid (gone ls v0 v2 v3=false):=by show _=_;unfold gone;simp [hop]
   go_enter Tryz.func38,Tryz.ntmps38;go_wp2_with fail;go_ret;exact⟨ret_bool Hg.out.symm,by (repeat (first | exact Below.refl _ _ | refine Below.alloc ?_ (by first|omega|(simp<;>omega)) _ | refine Below.setCell ?_ (by first|omega|(simp<;>omega)) _ | refine below_drewN ?_ _ | refine Below.drew ?_))⟩

end Go.Proofs.YtnkogppgacappaaGreatDoor

namespace Go.Proofs.YtnkogppgacappaaGreatDoor
open Go.RowKit

def goneI(ls:List Bool)(y:DIns):Bool:=gone ls y.op y.a.reg y.a.n
def calmI(ls:List Bool)(y:DIns):Bool:=calm ls y.op y.a.reg y.a.n
def copyI(mem:List Int)(y:DIns):DIns:=⟨1,y.dst,⟨false,mem.getD y.a.n.toNat 0⟩,⟨false,0⟩,0,[]⟩
def doneI(ls:List Bool)(mem:List Int)(y:DIns):DIns:=if calmI ls y=true then copyI mem y else y
def restL(ls:List Bool)(l:List DIns):List DIns:=l.filter fun y=>!goneI ls y
def delB(ls:List Bool)(x:DBlock):DBlock:={ x with list:=restL ls x.list }
def doneB(ls:List Bool)(mem:List Int)(x:DBlock):DBlock:={ x with list:=(restL ls x.list).map (doneI ls mem) }
def doneFn(ls:List Bool)(mem:List Int)(f:DFunc):DFunc:={ f with blocks:=f.blocks.map (doneB ls mem) }
section
variable {ls : List Bool} {mem : List Int}
theorem done_mem {l:List DIns}{y:DIns}(h:y∈(restL ls l).map (doneI ls mem)):∃y0∈l,(y=y0∨(y0.op=18∧y=copyI mem y0)):=by
 obtain⟨y0,h0,rfl⟩:=List.mem_map.1 h;refine⟨y0,(List.mem_filter.1 h0).1,?_⟩;unfold doneI
 by_cases hc:calmI ls y0=true
 · rw [if_pos hc]
   refine .inr ⟨?_,rfl⟩;unfold calmI calm at hc;simp only [Bool.and_eq_true,decide_eq_true_eq] at hc;exact hc.1
 · rw [if_neg hc];exact .inl rfl
theorem done_len(l:List DIns):((restL ls l).map (doneI ls mem)).length≤l.length:=by
 rw [List.length_map];exact List.length_filter_le _ _
theorem i64_lit(x:Int)(h1 : -9223372036854775808≤x)(h2:x≤9223372036854775807):I64 x:=⟨h1,h2⟩
theorem mem_i64(hm:∀x∈mem,I64 x)(q:Nat):I64 (mem.getD q 0):=by
 rw [List.getD_eq_getElem?_getD];cases e:mem[q]? with
 | none=>exact⟨by decide,by decide⟩
 | some x=>exact hm x (List.mem_of_getElem? e)
theorem sum_le {α : Type} {f g : α → Nat} : ∀ {l : List α}, (∀ x ∈ l, f x ≤ g x) → (l.map f).sum ≤ (l.map g).sum
 | [],_=>Nat.le_refl _
 | x :: l,h=>by
   rw [List.map_cons,List.map_cons,List.sum_cons,List.sum_cons];exact Nat.add_le_add (h x (by simp)) (sum_le fun y hy=>h y (by simp [hy]))
theorem done_blk(bs:List DBlock){b:Nat}(hb:b<bs.length):blkOf (bs.map (doneB ls mem)) b=doneB ls mem (blkOf bs b):=blkOf_at (by rw [List.getElem?_map,blkOf_self bs hb];rfl)
theorem done_td {n:Nat}{bs:List DBlock}(h:TdOk n bs)(hm:∀x∈mem,I64 x):TdOk n (bs.map (doneB ls mem)):=by
 have hto:(bs.map (doneB ls mem)).map (·.fin.to)=bs.map (·.fin.to):=by rw [List.map_map];rfl
 have hmem:∀{x},x∈bs.map (doneB ls mem)→∃x0∈bs,x=doneB ls mem x0:=fun hx=>by
  obtain⟨x0,h0,rfl⟩:=List.mem_map.1 hx;exact⟨x0,h0,rfl⟩
 have hok:FunOk (bs.map (doneB ls mem)):=by
  refine⟨by rw [List.length_map];exact h.ok.len,fun x hx=>?_,fun x hx=>?_,fun x hx=>?_,fun x hx t ht=>?_,fun x hx=>?_,fun b hb q hq=>?_⟩
  · obtain⟨x0,h0,rfl⟩:=hmem hx
    have hn:=h.ok.num x0 h0;refine⟨hn.kind,hn.on,hn.to,hn.phi,fun y hy=>?_⟩;obtain⟨y0,h1,h2⟩:=done_mem hy;obtain⟨n1,n2,n3,n4,n5,n6⟩:=hn.ins y0 h1;rcases h2 with rfl | ⟨-,rfl⟩
    · exact⟨n1,n2,n3,n4,n5,n6⟩
    · exact⟨i64_lit 1 (by decide) (by decide),n2,mem_i64 hm _,i64_lit 0 (by decide) (by decide),i64_lit 0 (by decide) (by decide),fun v hv=>by cases hv⟩
  · obtain⟨x0,h0,rfl⟩:=hmem hx
    have hs:=h.ok.small x0 h0;refine⟨hs.phis,Nat.le_trans (done_len _) hs.list,hs.to,hs.src,fun y hy=>?_⟩;obtain⟨y0,h1,h2⟩:=done_mem hy;rcases h2 with rfl | ⟨-,rfl⟩
    · exact hs.args _ h1
    · exact Nat.zero_le _
  · obtain⟨x0,h0,rfl⟩:=hmem hx;exact h.ok.to2 x0 h0
  · obtain⟨x0,h0,rfl⟩:=hmem hx
    rw [List.length_map];exact h.ok.toIn x0 h0 t ht
  · obtain⟨x0,h0,rfl⟩:=hmem hx;exact h.ok.toNd x0 h0
  · rw [List.length_map] at hb
    rw [done_blk bs hb] at hq;rw [predsOf_tos _ _ 0 b hto];exact h.ok.src b hb q hq
 refine⟨hok,toOk_of hok (by rw [List.length_map];exact h.tok.pos),fun x hx=>?_,?_,fun x hx=>?_⟩
 · obtain⟨x0,h0,rfl⟩:=hmem hx;exact h.jump x0 h0
 · rw [List.map_map]
   exact Nat.le_trans (sum_le fun x _=>done_len (ls:=ls) (mem:=mem) x.list) h.sum
 · obtain⟨x0,h0,rfl⟩:=hmem hx
   have hr:=h.reg x0 h0;refine⟨hr.phi,fun y hy=>?_,hr.on⟩;obtain⟨y0,h1,h2⟩:=done_mem hy;obtain⟨n1,n2,n3,n4⟩:=hr.ins y0 h1;rcases h2 with rfl | ⟨-,rfl⟩
   · exact⟨n1,n2,n3,n4⟩
   · exact⟨fun (e:false=true)=>(by cases e),fun (e:false=true)=>(by cases e),fun v (hv:v∈[])=>(by cases hv),n4⟩
theorem done_ck {fs:List DFunc}{bs:List DBlock}(hc:CkOk fs bs):CkOk fs (bs.map (doneB ls mem)):=by
 refine⟨fun x hx=>?_,?_,fun x hx y hy=>?_,by rw [List.length_map];exact hc.len,?_⟩
 · obtain⟨x0,h0,rfl⟩:=List.mem_map.1 hx;exact hc.kind x0 h0
 · have h0:=hc.phi0
   cases bs with
   | nil=>rfl
   | cons x l=>exact h0
 · obtain⟨x0,h0,rfl⟩:=List.mem_map.1 hx
   obtain⟨y0,h1,h2⟩:=done_mem hy;have hi:=hc.ins x0 h0 y0 h1;rcases h2 with rfl | ⟨h3,rfl⟩
   · exact hi
   · exact⟨show (1:Int)≤1∧(1:Int)≤22 from ⟨by decide,by decide⟩,rfl,fun _ _=>hi.dst (by rw [h3];rfl) (fun e=>by rw [h3] at e;exact absurd e.1 (by decide)),fun e=>absurd (show (1:Int)=20 from e) (by decide)⟩
 · refine Nat.le_trans ?_ hc.many
   unfold manyOf;rw [List.map_map];exact sum_le fun x _=>Nat.add_le_add_left (done_len (ls:=ls) (mem:=mem) x.list) _
theorem done_num {gs gs':List DGlobal}{fs:List DFunc}(hn:NumU ⟨gs,fs⟩)(hm:∀x∈mem,I64 x):NumU ⟨gs',fs.map (doneFn ls mem)⟩:=fun f hf x hx=>by
 obtain⟨f0,h0,rfl⟩:=List.mem_map.1 hf;obtain⟨x0,h1,rfl⟩:=List.mem_map.1 (show x∈List.map _ _ from hx);have hn1:=hn f0 h0 x0 h1;refine⟨hn1.kind,hn1.on,hn1.to,hn1.phi,fun y hy=>?_⟩;obtain⟨y0,h3,h4⟩:=done_mem hy;obtain⟨n1,n2,n3,n4,n5,n6⟩:=hn1.ins y0 h3;rcases h4 with rfl | ⟨-,rfl⟩
 · exact⟨n1,n2,n3,n4,n5,n6⟩
 · exact⟨i64_lit 1 (by decide) (by decide),n2,mem_i64 hm _,i64_lit 0 (by decide) (by decide),i64_lit 0 (by decide) (by decide),fun v hv=>by cases hv⟩
theorem done_check {gs:List DGlobal}{fs:List DFunc}(h:checkF ⟨gs,fs⟩=(0,0))(hn:NumU ⟨gs,fs⟩)(hm:∀x∈mem,I64 x):checkF ⟨gs,fs.map (doneFn ls mem)⟩=(0,0):=by
 refine checkF_like (fs:=fs) h (by simp) fun k f hf=>?_;obtain⟨h1,h2,h3,h4,h5,h6⟩:=fn_td h hn hf;refine⟨f.regs.toNat,f.blocks.map (doneB ls mem),?_,done_td h1 hm,done_ck h2,by omega,h4,(done_td (ls:=ls) h1 hm).tok.pos⟩;rw [List.getElem?_map,hf,Int.toNat_of_nonneg h6];rfl
end

end Go.Proofs.YtnkogppgacappaaGreatDoor

namespace Go.Proofs.YtnkogppgacappaaGreatDoor
open Go.RowKit

theorem filter_ix {α:Type}(q:α→Bool):∀l:List α,∃g:Nat→Nat,(∀j,j<(l.filter q).length→g j<l.length∧(l.filter q)[j]?=l[g j]?)∧(∀i j,i<(l.filter q).length→j<(l.filter q).length→g i=g j→i=j) ∧
 ∀(f:Nat→α→List Value) (Q:List Value→Bool),(∀i x,l[i]?=some x→Q (f i x)=q x)→(l.mapIdx f).filter Q=(l.filter q).mapIdx fun j x=>f (g j) x
 | []=>⟨id,fun _ h=>absurd h (Nat.not_lt_zero _),fun _ _ h=>absurd h (Nat.not_lt_zero _),fun _ _ _=>rfl⟩
 | x :: l=>by
   obtain⟨g,h1,h2,h3⟩:=filter_ix q l
   by_cases hq:q x=true
   · have e:(x :: l).filter q=x :: l.filter q:=List.filter_cons_of_pos hq
     rw [e];refine⟨fun j=>match j with | 0=>0 | j+1=>g j+1,fun j hj=>?_,fun i j hi hj hg=>?_,fun f Q hQ=>?_⟩
     · cases j with
       | zero=>exact⟨Nat.succ_pos _,rfl⟩
       | succ j =>
         have:=h1 j (by simpa using hj);exact⟨Nat.succ_lt_succ this.1,by simpa using this.2⟩
     · cases i with
       | zero =>
         cases j with
         | zero=>rfl
         | succ j=>exact absurd hg (by simp)
       | succ i =>
         cases j with
         | zero=>exact absurd hg (by simp)
         | succ j=>rw [h2 i j (by simpa using hi) (by simpa using hj) (by simpa using hg)]
     · rw [List.mapIdx_cons,List.mapIdx_cons,List.filter_cons_of_pos (by rw [hQ 0 x rfl];exact hq),h3 (fun i=>f (i+1)) Q fun i y hy=>hQ (i+1) y (by simpa using hy)]
   · have e:(x :: l).filter q=l.filter q:=List.filter_cons_of_neg hq
     rw [e];refine⟨fun j=>g j+1,fun j hj=>?_,fun i j hi hj hg=>h2 i j hi hj (Nat.succ.inj hg),fun f Q hQ=>?_⟩
     · have:=h1 j hj
       exact⟨Nat.succ_lt_succ this.1,by simpa using this.2⟩
     · rw [List.mapIdx_cons,List.filter_cons_of_neg (by rw [hQ 0 x rfl];exact hq),h3 (fun i=>f (i+1)) Q fun i y hy=>hQ (i+1) y (by simpa using hy)]

def delPth (b : Nat) (g : Nat → Nat) : Pth → Pth
 | .args c i=>if c=b then .args c (g i) else .args c i
 | p=>p
theorem delPth_ty(b:Nat)(g:Nat→Nat)(p:Pth):(delPth b g p).ty=p.ty∧(delPth b g p).sz=p.sz:=by
 cases p <;> try exact⟨rfl,rfl⟩
 unfold delPth;dsimp only;split <;> exact⟨rfl,rfl⟩
theorem blkOf_put {bs:List DBlock}{b:Nat}(hb:b<bs.length)(y:DBlock):blkOf (bs.set b y) b=y:=by rw [blkOf_set hb,if_pos rfl]
theorem blkOf_other {bs:List DBlock}{b d:Nat}(hb:b<bs.length)(y:DBlock)(e:d≠b):blkOf (bs.set b y) d=blkOf bs d:=by rw [blkOf_set hb,if_neg e]

theorem FunSt.del {W W1 : World} {base : Nat} {bs : List DBlock} {V : Pth → Value} {b n c m h0 nb cb : Nat} {a : Option Addr} {ls : List Bool} (h : FunSt W base bs V) (hb : b < bs.length) (hv : V (.list b) = .slice a n c)
 (hr:Row1 W1 base 80 8 (.slice a m c) (keptP (goneP ls) (elemsP bs V (.list b)))) (hk:Kp (fun q=>(V (.list b)).ownBlock≠some q) W W1) (hg:V .blks = .slice (some ⟨h0,0,none⟩) nb cb) :
 ∃V2,FunSt (W1.setCell ⟨h0,b * 6+1,none⟩ (.slice a m c)) base (bs.set b (delB ls (blkOf bs b))) V2∧V2 .blks=V .blks∧V2 (.list b) = .slice a m c∧∀q,okP (bs.set b (delB ls (blkOf bs b))) q→∃p,okP bs p∧(V2 q).ownBlock=(V p).ownBlock:=by
 obtain⟨g,g1,g2,g3⟩:=filter_ix (fun y=>!goneI ls y) (blkOf bs b).list;have hobn:(Value.slice a m c).ownBlock=(V (.list b)).ownBlock:=by rw [hv];cases a <;> rfl
 have hgr:W.grownBy W1 (V (.list b)).ownBlock:=⟨hk.os,hk.tape,hk.output,hk.size,fun k hlt hne=>hk.block k hlt fun e=>hne e.symm⟩
 have r1:=RowsAt.turn h (p := .list b) hb (v' := .slice a m c) (xss:=keptP (goneP ls) (elemsP bs V (.list b))) hr.own hr.wid hgr (fun k hk => .inl (by rw [←hobn];exact hk));obtain⟨X,hX⟩:∃X,X=keptP (goneP ls) (elemsP bs V (.list b)):=⟨_,rfl⟩
 rw [←hX] at r1;have e0:(updP (elemsP bs V) (.list b) X) .blks=elemsP bs V .blks:=updP_ne _ _ (by simp);have hblk:(elemsP bs V .blks)[b]?=some (cellsB (blkOf bs b) (V (.phis b)) (V (.list b)) (V (.to b))):=by
  show (bs.mapIdx _)[b]?=_;rw [List.getElem?_mapIdx,blkOf_self bs hb];rfl
 have r2:=RowsAt.set r1 (p := .blks) trivial (i:=b) (j:=1) ((updP_ne _ _ (by simp)).trans hg) (e0 ▸ hblk) (by decide) (.slice a m c);rw [e0] at r2;obtain⟨y,hy⟩:∃y,y=blkOf bs b:=⟨_,rfl⟩
 rw [←hy] at g1 g2 g3 r2 hblk ⊢;have k1:=blkOf_put hb (delB ls y);have k2:∀d,d≠b→blkOf (bs.set b (delB ls y)) d=blkOf bs d:=fun d=>blkOf_other hb _;have hlen:(bs.set b (delB ls y)).length=bs.length:=List.length_set;have hin:∀p,okP (bs.set b (delB ls y)) p→okP bs (delPth b g p):=fun p hp=>by
  cases p with
  | blks=>trivial
  | phis d=>have h9:d<(bs.set b (delB ls y)).length:=hp;rw [hlen] at h9;exact h9
  | src d i =>
    show i<(blkOf bs d).phis.length
    by_cases e:d=b
    · subst e;have hp2:i<(blkOf (bs.set d (delB ls y)) d).phis.length:=hp;rw [k1] at hp2;rw [←hy];exact hp2
    · have hp2:i<(blkOf (bs.set b (delB ls y)) d).phis.length:=hp;rw [k2 d e] at hp2;exact hp2
  | list d=>have h9:d<(bs.set b (delB ls y)).length:=hp;rw [hlen] at h9;exact h9
  | args d i =>
    have hp2:i<(blkOf (bs.set b (delB ls y)) d).list.length:=hp;show okP bs (if d=b then .args d (g i) else .args d i)
    by_cases e:d=b
    · subst e;rw [if_pos rfl];rw [k1] at hp2;show g i<(blkOf bs d).list.length;rw [←hy];exact (g1 i hp2).1
    · rw [if_neg e];rw [k2 d e] at hp2;exact hp2
  | «to» d=>have h9:d<(bs.set b (delB ls y)).length:=hp;rw [hlen] at h9;exact h9
  | vBlk=>exact hp
  | vPhi=>exact hp
  | vIns=>exact hp
 have hinj:∀p q,okP (bs.set b (delB ls y)) p→okP (bs.set b (delB ls y)) q→delPth b g p=delPth b g q→p=q:=fun p q hp hq e=>by
  have hne:∀d i (r:Pth),(∀d' i',r ≠ .args d' i')→(if d=b then Pth.args d (g i) else .args d i)≠r:=fun d i r hr e=>by
   split at e
   · exact hr _ _ e.symm
   · exact hr _ _ e.symm
  cases p with
  | args d i =>
    cases q with
    | args d' i' =>
      have e2:(if d=b then Pth.args d (g i) else .args d i)=if d'=b then .args d' (g i') else .args d' i':=e
      have hp2:i<(blkOf (bs.set b (delB ls y)) d).list.length:=hp;have hq2:i'<(blkOf (bs.set b (delB ls y)) d').list.length:=hq
      by_cases e3:d=b
      · subst e3
        rw [if_pos rfl] at e2
        by_cases e4:d'=d
        · subst e4
          rw [if_pos rfl] at e2;injection e2 with e5 e6;rw [k1] at hp2 hq2;rw [g2 i i' hp2 hq2 e6]
        · rw [if_neg e4] at e2
          injection e2 with e5 e6;exact absurd e5.symm e4
      · rw [if_neg e3] at e2
        by_cases e4:d'=b
        · subst e4
          rw [if_pos rfl] at e2;injection e2 with e5 e6;exact absurd e5 e3
        · rw [if_neg e4] at e2;exact e2
    | _=>exact absurd e (hne d i _ fun _ _=>by simp [delPth])
  | _ =>
    cases q with
    | args d i=>exact absurd e.symm (hne d i _ fun _ _=>by simp [delPth])
    | _=>exact e
 have r3:=RowsAt.map r2 (ok':=okP (bs.set b (delB ls y))) (delPth b g) (delPth_ty b g) hin hinj;obtain⟨V2,hV2⟩:∃V2:Pth→Value,V2=fun p=>updP V (.list b) (.slice a m c) (delPth b g p):=⟨_,rfl⟩
 rw [←hV2] at r3;have v1:∀d,V2 (.phis d)=V (.phis d):=fun d=>by rw [hV2];exact updP_ne _ _ (by simp [delPth])
 have v2:∀d,V2 (.to d)=V (.to d):=fun d=>by rw [hV2];exact updP_ne _ _ (by simp [delPth])
 have v3:∀d i,V2 (.src d i)=V (.src d i):=fun d i=>by rw [hV2];exact updP_ne _ _ (by simp [delPth])
 have v4:V2 .blks=V .blks:=by rw [hV2];exact updP_ne _ _ (by simp [delPth])
 have v5:V2 (.list b) = .slice a m c:=by rw [hV2];exact updP_self _ _ _
 have v6:∀d,d≠b→V2 (.list d)=V (.list d):=fun d e=>by rw [hV2];exact updP_ne _ _ (by simp [delPth,e])
 have v7:∀i,V2 (.args b i)=V (.args b (g i)):=fun i=>by rw [hV2];show updP V _ _ (if b=b then _ else _)=_;rw [if_pos rfl];exact updP_ne _ _ (by simp)
 have v8:∀d i,d≠b→V2 (.args d i)=V (.args d i):=fun d i e=>by rw [hV2];show updP V _ _ (if d=b then _ else _)=_;rw [if_neg e];exact updP_ne _ _ (by simp)
 refine⟨V2,RowsAt.congr r3 (fun _ _=>rfl) (fun p hp=>?_),v4,v5,fun q hq=>?_⟩
 · cases p with
   | blks =>
     refine Eq.trans ?_ (updP_self _ _ _).symm;apply List.ext_getElem?;intro i;show (List.mapIdx _ (bs.set b (delB ls y)))[i]?=_;rw [List.getElem?_mapIdx,List.getElem?_set,List.getElem?_set]
     by_cases e:b=i
     · subst e
       rw [if_pos rfl,if_pos hb,if_pos rfl,if_pos (show b<(elemsP bs V .blks).length by show b<(bs.mapIdx _).length;rw [List.length_mapIdx];exact hb)];show some (cellsB (delB ls y) (V2 (.phis b)) (V2 (.list b)) (V2 (.to b)))=_;rw [v1,v5,v2];rfl
     · rw [if_neg e,if_neg e]
       show _=(List.mapIdx _ bs)[i]?;rw [List.getElem?_mapIdx];cases bs[i]? with
       | none=>rfl
       | some x =>
         show some (cellsB x (V2 (.phis i)) (V2 (.list i)) (V2 (.to i)))=some (cellsB x (V (.phis i)) (V (.list i)) (V (.to i)));rw [v1,v2,v6 i fun h=>e h.symm]
   | phis d =>
     refine Eq.trans ?_ ((updP_ne _ _ (by simp [delPth])).trans (updP_ne _ _ (by simp [delPth]))).symm;show (blkOf (bs.set b (delB ls y)) d).phis.mapIdx (fun i p=>[Value.int .i64 p.dst,V2 (.src d i)])=(blkOf bs d).phis.mapIdx fun i p=>[Value.int .i64 p.dst,V (.src d i)]
     have e2:(blkOf (bs.set b (delB ls y)) d).phis=(blkOf bs d).phis:=by
      by_cases e:d=b
      · subst e;rw [k1,←hy];rfl
      · rw [k2 d e]
     rw [e2];exact mapIdx_congr fun i x _=>by rw [v3]
   | src d j =>
     refine Eq.trans ?_ ((updP_ne _ _ (by simp [delPth])).trans (updP_ne _ _ (by simp [delPth]))).symm;show ((blkOf (bs.set b (delB ls y)) d).phis.getD j noPhiP).src.map cellsV=((blkOf bs d).phis.getD j noPhiP).src.map cellsV
     by_cases e:d=b
     · subst e;rw [k1,←hy];rfl
     · rw [k2 d e]
   | list d =>
     refine Eq.trans ?_ (updP_ne _ _ (by simp [delPth])).symm;show (blkOf (bs.set b (delB ls y)) d).list.mapIdx (fun i x=>cellsI x (V2 (.args d i)))=updP (elemsP bs V) (.list b) X (.list d)
     by_cases e:d=b
     · subst e
       rw [k1,updP_self,hX];show (restL ls y.list).mapIdx _=((blkOf bs d).list.mapIdx fun i x=>cellsI x (V (.args d i))).filter _;rw [←hy,g3 (fun i x=>cellsI x (V (.args d i))) (fun x=>!goneP ls x) fun i x _=>rfl];exact mapIdx_congr fun i x _=>by rw [v7]
     · rw [k2 d e,updP_ne _ _ (by simp [e])]
       show _=(blkOf bs d).list.mapIdx fun i x=>cellsI x (V (.args d i));exact mapIdx_congr fun i x _=>by rw [v8 d i e]
   | args d i =>
     have hp2:i<(blkOf (bs.set b (delB ls y)) d).list.length:=hp;show ((blkOf (bs.set b (delB ls y)) d).list.getD i noInsP).args.map cellsV=_
     by_cases e:d=b
     · subst e
       have e3:delPth d g (.args d i) = .args d (g i):=if_pos rfl;rw [e3,updP_ne _ _ (by simp),updP_ne _ _ (by simp)];show _=((blkOf bs d).list.getD (g i) noInsP).args.map cellsV;rw [k1] at hp2 ⊢;rw [←hy,List.getD_eq_getElem?_getD,List.getD_eq_getElem?_getD,←(g1 i hp2).2];rfl
     · have e3:delPth b g (.args d i) = .args d i:=if_neg e
       rw [e3,updP_ne _ _ (by simp),updP_ne _ _ (by simp),k2 d e];rfl
   | «to» d =>
     refine Eq.trans ?_ ((updP_ne _ _ (by simp [delPth])).trans (updP_ne _ _ (by simp [delPth]))).symm;show (blkOf (bs.set b (delB ls y)) d).fin.to.map (fun t=>[Value.int .i64 t])=(blkOf bs d).fin.to.map fun t=>[Value.int .i64 t]
     by_cases e:d=b
     · subst e;rw [k1,←hy];rfl
     · rw [k2 d e]
   | vBlk=>exact absurd hp id
   | vPhi=>exact absurd hp id
   | vIns=>exact absurd hp id
 · refine⟨delPth b g q,hin q hq,?_⟩
   rw [hV2];dsimp only
   by_cases e:delPth b g q = .list b
   · rw [e,updP_self,hobn]
   · rw [updP_ne _ _ e]

theorem FunSt.setIns {W:World}{base:Nat}{bs:List DBlock}{V:Pth→Value}{b i h1 n c:Nat}{z:DIns}(h:FunSt W base bs V)(hb:b<bs.length)(hi:i<(blkOf bs b).list.length)(hv:V (.list b) = .slice (some ⟨h1,0,none⟩) n c)(hz:z.args=[]) :
 ∃ V2, FunSt ((((((((W.setCell ⟨h1, i * 8, none⟩ (.int .i64 z.op)).setCell ⟨h1, i * 8 + 1, none⟩ (.int .i64 z.dst)).setCell ⟨h1, i * 8 + 2, none⟩ (.bool z.a.reg)).setCell ⟨h1, i * 8 + 3, none⟩ (.int .i64 z.a.n)).setCell ⟨h1, i * 8 + 4, none⟩ (.bool z.b.reg)).setCell ⟨h1, i * 8 + 5, none⟩ (.int .i64 z.b.n)).setCell ⟨h1, i * 8 + 6, none⟩ (.int .i64 z.fn)).setCell ⟨h1, i * 8 + 7, none⟩ (.slice none 0 0)) base
  (bs.set b { blkOf bs b with list:=(blkOf bs b).list.set i z }) V2∧V2 .blks=V .blks∧V2 (.list b)=V (.list b)∧∀q,okP (bs.set b { blkOf bs b with list:=(blkOf bs b).list.set i z }) q→∀k,(V2 q).ownBlock=some k→∃p,okP bs p∧(V p).ownBlock=some k:=by
 obtain⟨V2,hV2⟩:∃V2,V2=updP V (.args b i) (.slice none 0 0):=⟨_,rfl⟩
 have r0:=(RowsAt.put h (.args b i) (W':=W) (v' := .slice none 0 0) (xss:=[]) (row:=none) (World.ownsRow_nil _ _ _ _) (fun cs hcs=>absurd hcs (List.not_mem_nil)) ⟨rfl,rfl,rfl,Nat.le_refl _,fun _ _ _=>rfl⟩ (fun _ _ _ _ _ e=>by cases e) (fun k hk=>by cases hk)).less (ok':=okP bs) fun q hq => .inl hq;rw [←hV2] at r0;have hvl:V2 (.list b)=V (.list b):=by rw [hV2];exact updP_ne _ _ (by simp)
 have row:Row1 W base 80 8 (V (.list b)) (elemsP bs V (.list b)):=⟨RowsAt.own h (.list b) hb,RowsAt.wid h (.list b) hb⟩
 have hel:i<(elemsP bs V (.list b)).length:=by show i<(List.mapIdx _ _).length;rw [List.length_mapIdx];exact hi
 have r8:=row.set8 hv hel (.int .i64 z.op) (.int .i64 z.dst) (.bool z.a.reg) (.int .i64 z.a.n) (.bool z.b.reg) (.int .i64 z.b.n) (.int .i64 z.fn) (.slice none 0 0);obtain⟨W',hW'⟩:∃W',W'=(((((((W.setCell ⟨h1,i * 8,none⟩ (.int .i64 z.op)).setCell ⟨h1,i * 8+1,none⟩ (.int .i64 z.dst)).setCell ⟨h1,i * 8+2,none⟩ (.bool z.a.reg)).setCell ⟨h1,i * 8+3,none⟩ (.int .i64 z.a.n)).setCell ⟨h1,i * 8+4,none⟩ (.bool z.b.reg)).setCell ⟨h1,i * 8+5,none⟩ (.int .i64 z.b.n)).setCell ⟨h1,i * 8+6,none⟩ (.int .i64 z.fn)).setCell ⟨h1,i * 8+7,none⟩ (.slice none 0 0):=⟨_,rfl⟩
 have hk:Kp (fun k=>k≠h1) W W':=by
  rw [hW'];exact kp_more (kp_more (kp_more (kp_more (kp_more (kp_more (kp_more (kp_one _ h1 _ _) _ _) _ _) _ _) _ _) _ _) _ _) _ _
 rw [←hW'] at r8 ⊢;have hgr:W.grownBy W' (V2 (.list b)).ownBlock:=by
  rw [hvl,hv];exact⟨hk.os,hk.tape,hk.output,hk.size,fun k hlt hne=>hk.block k hlt fun e=>hne (by rw [e];rfl)⟩
 have r1:=r0.turn (p := .list b) hb (v':=V (.list b)) r8.own r8.wid hgr (fun k hk => .inl (by rw [hvl];exact hk));obtain⟨y,hy⟩:∃y,y=blkOf bs b:=⟨_,rfl⟩
 rw [←hy] at hi ⊢;have k1:=blkOf_put hb { y with list:=y.list.set i z };have k2:∀d,d≠b→blkOf (bs.set b { y with list:=y.list.set i z }) d=blkOf bs d:=fun d=>blkOf_other hb _;have v0:∀p,(∀d j,p ≠ .args d j)→V2 p=V p:=fun p hp=>by rw [hV2];exact updP_ne _ _ (hp b i)
 have v1:V2 (.args b i) = .slice none 0 0:=by rw [hV2];exact updP_self _ _ _
 have v2:∀d j,¬(d=b∧j=i)→V2 (.args d j)=V (.args d j):=fun d j e=>by rw [hV2];exact updP_ne _ _ fun e2=>by injection e2 with e3 e4;exact e ⟨e3,e4⟩
 have hsh:∀q,okP (bs.set b { y with list:=y.list.set i z }) q↔okP bs q:=okP_shape List.length_set (set_shape hb (by rw [hy]) (by dsimp only;rw [List.length_set,hy]));refine⟨V2,RowsAt.congr (RowsAt.less r1 fun q hq=>(hsh q).1 hq) (fun p _=>?_) (fun p hp=>?_),v0 _ (by simp),hvl,fun q hq k hk=>?_⟩
 · by_cases e:p = .list b
   · rw [e,updP_self,hvl]
   · rw [updP_ne _ _ e]
 · cases p with
   | blks =>
     refine Eq.trans ?_ ((updP_ne _ _ (by simp)).trans (updP_ne _ _ (by simp))).symm;show (List.mapIdx _ (bs.set b _))=List.mapIdx _ bs;apply List.ext_getElem?;intro j;rw [List.getElem?_mapIdx,List.getElem?_mapIdx,List.getElem?_set]
     by_cases e:b=j
     · subst e
       rw [if_pos rfl,if_pos hb,blkOf_self bs hb,←hy];show some (cellsB { y with list:=y.list.set i z } (V2 (.phis b)) (V2 (.list b)) (V2 (.to b)))=some (cellsB y (V (.phis b)) (V (.list b)) (V (.to b)));rw [v0 _ (by simp),v0 _ (by simp),v0 _ (by simp)];rfl
     · rw [if_neg e]
       cases bs[j]? with
       | none=>rfl
       | some x =>
         show some (cellsB x (V2 (.phis j)) (V2 (.list j)) (V2 (.to j)))=some (cellsB x (V (.phis j)) (V (.list j)) (V (.to j)));rw [v0 _ (by simp),v0 _ (by simp),v0 _ (by simp)]
   | phis d =>
     refine Eq.trans ?_ ((updP_ne _ _ (by simp)).trans (updP_ne _ _ (by simp))).symm;show (blkOf (bs.set b _) d).phis.mapIdx (fun i p=>[Value.int .i64 p.dst,V2 (.src d i)])=(blkOf bs d).phis.mapIdx fun i p=>[Value.int .i64 p.dst,V (.src d i)]
     have e2:(blkOf (bs.set b { y with list:=y.list.set i z }) d).phis=(blkOf bs d).phis:=by
      by_cases e:d=b
      · subst e;rw [k1,←hy]
      · rw [k2 d e]
     rw [e2];exact mapIdx_congr fun i x _=>by rw [v0 _ (by simp)]
   | src d j =>
     refine Eq.trans ?_ ((updP_ne _ _ (by simp)).trans (updP_ne _ _ (by simp))).symm;show ((blkOf (bs.set b _) d).phis.getD j noPhiP).src.map cellsV=((blkOf bs d).phis.getD j noPhiP).src.map cellsV
     by_cases e:d=b
     · subst e;rw [k1,←hy]
     · rw [k2 d e]
   | list d =>
     show (blkOf (bs.set b _) d).list.mapIdx (fun i x=>cellsI x (V2 (.args d i)))=_
     by_cases e:d=b
     · subst e
       rw [k1,updP_self];show _=((blkOf bs d).list.mapIdx fun i x=>cellsI x (V (.args d i))).set i _;rw [←hy];apply List.ext_getElem?;intro j;rw [List.getElem?_mapIdx,List.getElem?_set,List.getElem?_set,List.getElem?_mapIdx,List.length_mapIdx]
       by_cases e:i=j
       · subst e;rw [if_pos rfl,if_pos hi,if_pos rfl,if_pos hi,Option.map_some,v1];rfl
       · rw [if_neg e,if_neg e]
         cases y.list[j]? with
         | none=>rfl
         | some x =>
           show some (cellsI x (V2 (.args d j)))=some (cellsI x (V (.args d j)));rw [v2 d j fun h=>e h.2.symm]
     · rw [k2 d e,updP_ne _ _ (by simp [e]),updP_ne _ _ (by simp)]
       show _=(blkOf bs d).list.mapIdx fun i x=>cellsI x (V (.args d i));exact mapIdx_congr fun i x _=>by rw [v2 d i fun h=>e h.1]
   | args d j =>
     show ((blkOf (bs.set b _) d).list.getD j noInsP).args.map cellsV=_;rw [updP_ne _ _ (by simp)]
     by_cases e:d=b∧j=i
     · obtain⟨rfl,rfl⟩:=e
       rw [k1,updP_self];show ((y.list.set j z).getD j noInsP).args.map cellsV=[];rw [List.getD_eq_getElem?_getD,List.getElem?_set_self hi];show z.args.map cellsV=[];rw [hz];rfl
     · rw [updP_ne _ _ fun e2=>by injection e2 with e3 e4;exact e ⟨e3,e4⟩]
       show _=((blkOf bs d).list.getD j noInsP).args.map cellsV
       by_cases e3:d=b
       · subst e3
         rw [k1,←hy];show ((y.list.set i z).getD j noInsP).args.map cellsV=_;rw [List.getD_eq_getElem?_getD,List.getD_eq_getElem?_getD,List.getElem?_set_ne fun e4=>e ⟨rfl,e4.symm⟩]
       · rw [k2 d e3]
   | «to» d =>
     refine Eq.trans ?_ ((updP_ne _ _ (by simp)).trans (updP_ne _ _ (by simp))).symm;show (blkOf (bs.set b _) d).fin.to.map (fun t=>[Value.int .i64 t])=(blkOf bs d).fin.to.map fun t=>[Value.int .i64 t]
     by_cases e:d=b
     · subst e;rw [k1,←hy]
     · rw [k2 d e]
   | vBlk=>exact absurd hp id
   | vPhi=>exact absurd hp id
   | vIns=>exact absurd hp id
 · refine⟨q,(hsh q).1 hq,?_⟩
   by_cases e:q = .args b i
   · rw [e,v1] at hk;cases hk
   · rw [hV2,updP_ne _ _ e] at hk;exact hk

structure DoneSt (W0 W:World)(A HI:Nat)(v:Value)(fs:List DFunc)(V:Nat→Pth→Value):Prop where
 uni:UniSt W A v fs V
 hi:∀(k:Nat) f,fs[k]?=some f→∀p,okP f.blocks p→∀c,(V k p).ownBlock=some c→c<HI
 kept:Kp (fun c=>c<A∨HI≤c) W0 W
section
variable {W0 W W1 : World} {A HI : Nat} {v : Value} {fs : List DFunc} {V : Nat → Pth → Value} {k b : Nat} {f : DFunc}
theorem DoneSt.later(h:DoneSt W0 W A HI v fs V)(hb:Below W.heap.size W W1):DoneSt W0 W1 A HI v fs V:=⟨h.uni.later hb,h.hi,h.kept.trans (Kp.of hb)⟩
theorem DoneSt.turn {bs : List DBlock} {V2 : Pth → Value} (h : DoneSt W0 W A HI v fs V) (hx : fs[k]? = some f) (h2 : FunSt W1 A bs V2) (hb : V2 .blks = V k .blks) (hk : Kp (fun c => ∀ p, okP f.blocks p → (V k p).ownBlock ≠ some c) W W1)
 (hn:∀q,okP bs q→∀c,(V2 q).ownBlock=some c→∃p,okP f.blocks p∧(V k p).ownBlock=some c):∃V',DoneSt W0 W1 A HI v (fs.set k { f with blocks:=bs }) V'∧V' k=V2:=by
 have hkl:=(List.getElem?_eq_some_iff.1 hx).1;refine⟨_,⟨h.uni.turn hx h2 hb hk (fun c hc=>hc) fun q hq c hc => .inl (hn q hq c hc),fun j g hj p hp c hc=>?_,h.kept.trans (hk.less fun c hc p hp e=>?_)⟩,if_pos rfl⟩
 · rw [List.getElem?_set] at hj
   by_cases e:k=j
   · subst e
     rw [if_pos rfl,if_pos hkl] at hj;have e2:=(Option.some.inj hj).symm;subst e2;rw [if_pos rfl] at hc;obtain⟨p',h3,h4⟩:=hn p hp c hc;exact h.hi k f hx p' h3 c h4
   · rw [if_neg e] at hj
     rw [if_neg fun e2=>e e2.symm] at hc;exact h.hi j g hj p hp c hc
 · have h3:=(h.uni.lt.2 k f hx p hp c e).1
   have h4:=h.hi k f hx p hp c e;omega
theorem DoneSt.listCell {h0 nb cb:Nat}(h:DoneSt W0 W A HI v fs V)(hx:fs[k]?=some f)(hb:b<f.blocks.length)(hg:V k .blks = .slice (some ⟨h0,0,none⟩) nb cb) :
 W.cell? ⟨h0,b * 6+1,none⟩=some (V k (.list b))∧W.frozen? ⟨h0,b * 6+1,none⟩=false∧h0<W.heap.size:=by
 obtain⟨h0',cb',hv',-,-,hh0,hcell,hfro⟩:=RowsAt.cell (h.uni.fn k f hx) (p := .blks) trivial (i:=b) (j:=1) (cs:=cellsB (blkOf f.blocks b) (V k (.phis b)) (V k (.list b)) (V k (.to b))) (by show (f.blocks.mapIdx _)[b]?=_;rw [List.getElem?_mapIdx,blkOf_self f.blocks hb];rfl) rfl;have hh:h0=h0':=by rw [hg] at hv';injection hv' with e1;injection e1 with e2;injection e2
 subst hh;exact⟨hcell,hfro,hh0⟩
theorem DoneSt.insCells {i n c:Nat}{a:Option Addr}{y:DIns}(h:DoneSt W0 W A HI v fs V)(hx:fs[k]?=some f)(hb:b<f.blocks.length)(hy:(blkOf f.blocks b).list[i]?=some y)(hv:V k (.list b) = .slice a n c) :
 ∃h1 aa an ac,a=some ⟨h1,0,none⟩∧n≤c∧i<n∧V k (.args b i) = .slice aa an ac∧CellsAt W h1 (i * 8) [.int .i64 y.op,.int .i64 y.dst,.bool y.a.reg,.int .i64 y.a.n,.bool y.b.reg,.int .i64 y.b.n,.int .i64 y.fn,.slice aa an ac]∧(∀o,W.frozen? ⟨h1,o,none⟩=false)∧A≤h1∧h1<HI:=by
 have hfn:=h.uni.fn k f hx;have row:Row1 W A 80 8 (V k (.list b)) (elemsP f.blocks (V k) (.list b)):=⟨RowsAt.own hfn (.list b) hb,RowsAt.wid hfn (.list b) hb⟩
 obtain⟨aa,ac,ha⟩:=RowsAt.shape (p := .args b i) hfn (show i<(blkOf f.blocks b).list.length from (List.getElem?_eq_some_iff.1 hy).1);have he:(elemsP f.blocks (V k) (.list b))[i]?=some (cellsI y (V k (.args b i))):=by
  show ((blkOf f.blocks b).list.mapIdx _)[i]?=_;rw [List.getElem?_mapIdx,hy];rfl
 obtain⟨h1,c',hv',hle,-,-,hat,hz⟩:=row.at he (by decide);rw [hv] at hv';injection hv' with e1 e2 e3;have hil:=(List.getElem?_eq_some_iff.1 he).1;rw [ha] at hat;have hob:(V k (.list b)).ownBlock=some h1:=by rw [hv,e1];rfl
 exact⟨h1,aa,_,ac,e1,by omega,by omega,ha,hat,hz,(h.uni.lt.2 k f hx (.list b) hb h1 hob).1,h.hi k f hx (.list b) hb h1 hob⟩
theorem DoneSt.del {n c m h0 nb cb : Nat} {a : Option Addr} {ls : List Bool} (h : DoneSt W0 W A HI v fs V) (hx : fs[k]? = some f) (hb : b < f.blocks.length) (hv : V k (.list b) = .slice a n c)
 (hr:Row1 W1 A 80 8 (.slice a m c) (keptP (goneP ls) (elemsP f.blocks (V k) (.list b)))) (hk:Kp (fun q=>(V k (.list b)).ownBlock≠some q) W W1) (hg:V k .blks = .slice (some ⟨h0,0,none⟩) nb cb) :
 ∃V',DoneSt W0 (W1.setCell ⟨h0,b * 6+1,none⟩ (.slice a m c)) A HI v (fs.set k { f with blocks:=f.blocks.set b (delB ls (blkOf f.blocks b)) }) V'∧V' k .blks=V k .blks∧V' k (.list b) = .slice a m c:=by
 obtain⟨V2,h1,h2,h3,h4⟩:=FunSt.del (h.uni.fn k f hx) hb hv hr hk hg;obtain⟨V',h5,h6⟩:=h.turn hx h1 h2 ((hk.less fun c hc=>hc (.list b) hb).set (fun hF=>hF .blks trivial (by rw [hg];rfl)) _) fun q hq c hc=>by
  obtain⟨p,h7,h8⟩:=h4 q hq;exact⟨p,h7,by rw [←h8];exact hc⟩
 exact⟨V',h5,by rw [h6,h2],by rw [h6,h3]⟩
theorem DoneSt.setIns {i h1 n c:Nat}{z:DIns}(h:DoneSt W0 W A HI v fs V)(hx:fs[k]?=some f)(hb:b<f.blocks.length)(hi:i<(blkOf f.blocks b).list.length)(hv:V k (.list b) = .slice (some ⟨h1,0,none⟩) n c)(hz:z.args=[]) :
 ∃ V', DoneSt W0 ((((((((W.setCell ⟨h1, i * 8, none⟩ (.int .i64 z.op)).setCell ⟨h1, i * 8 + 1, none⟩ (.int .i64 z.dst)).setCell ⟨h1, i * 8 + 2, none⟩ (.bool z.a.reg)).setCell ⟨h1, i * 8 + 3, none⟩ (.int .i64 z.a.n)).setCell ⟨h1, i * 8 + 4, none⟩ (.bool z.b.reg)).setCell ⟨h1, i * 8 + 5, none⟩ (.int .i64 z.b.n)).setCell ⟨h1, i * 8 + 6, none⟩ (.int .i64 z.fn)).setCell ⟨h1, i * 8 + 7, none⟩ (.slice none 0 0)) A HI v
  (fs.set k { f with blocks:=f.blocks.set b { blkOf f.blocks b with list:=(blkOf f.blocks b).list.set i z } }) V'∧V' k .blks=V k .blks∧V' k (.list b)=V k (.list b):=by
 obtain⟨V2,g1,g2,g3,g4⟩:=FunSt.setIns (h.uni.fn k f hx) hb hi hv hz;have hk:=kp_more (kp_more (kp_more (kp_more (kp_more (kp_more (kp_more (kp_one W h1 (i * 8) (.int .i64 z.op)) (i * 8+1) (.int .i64 z.dst)) (i * 8+2) (.bool z.a.reg)) (i * 8+3) (.int .i64 z.a.n)) (i * 8+4) (.bool z.b.reg)) (i * 8+5) (.int .i64 z.b.n)) (i * 8+6) (.int .i64 z.fn)) (i * 8+7) (.slice none 0 0);obtain⟨V',h5,h6⟩:=h.turn hx g1 g2 (hk.less fun c hc e=>hc (.list b) hb (by rw [hv,e];rfl)) g4;exact⟨V',h5,by rw [h6,g2],by rw [h6,g3]⟩
end

end Go.Proofs.YtnkogppgacappaaGreatDoor

namespace Go.Proofs.YtnkogppgacappaaGreatDoor
open Go.RowKit

def upF {α:Type}(f:α→α)(l:List α)(k:Nat):List α:=l.mapIdx fun i x=>if i<k then f x else x
section
variable {α : Type} (f : α → α) {l : List α} {k : Nat} {x : α}
theorem upF_zero(l:List α):upF f l 0=l:=up_zero (fun _=>f) l
theorem upF_set(h:l[k]?=some x):(upF f l k).set k (f x)=upF f l (k+1):=up_set (fun _=>f) h
theorem upF_at(h:l[k]?=some x):(upF f l k)[k]?=some x:=up_at (fun _=>f) h
theorem upF_len(l:List α)(k:Nat):(upF f l k).length=l.length:=List.length_mapIdx
theorem upF_all(h:l.length≤k):upF f l k=l.map f:=by
 unfold upF;apply List.ext_getElem?;intro i;rw [List.getElem?_mapIdx,List.getElem?_map]
 by_cases hi:i<l.length
 · rw [List.getElem?_eq_getElem hi,Option.map_some,Option.map_some,if_pos (by omega)]
 · rw [List.getElem?_eq_none (by omega)];rfl
theorem upF_skip(h:l[k]?=some x)(hf:f x=x):upF f l (k+1)=upF f l k:=by
 rw [←upF_set f h,hf];exact list_set_self (upF_at f h)
end
section
variable (ls : List Bool) (mem : List Int)
def insUp(x:DBlock)(i:Nat):DBlock:={ x with list:=upF (doneI ls mem) (restL ls x.list) i }
def bsUp(bs:List DBlock)(b:Nat):List DBlock:=upF (doneB ls mem) bs b
def fsUp(fs:List DFunc)(k:Nat):List DFunc:=upF (doneFn ls mem) fs k
def fsB(fs:List DFunc)(k b:Nat)(f:DFunc):List DFunc:=(fsUp ls mem fs k).set k { f with blocks:=bsUp ls mem f.blocks b }
def fsC(fs:List DFunc)(k b i:Nat)(f:DFunc):List DFunc:=(fsUp ls mem fs k).set k { f with blocks:=(bsUp ls mem f.blocks b).set b (insUp ls mem (blkOf f.blocks b) i) }
variable {fs : List DFunc} {k b i : Nat} {f : DFunc} {y : DIns}
theorem fsUp_zero:fsUp ls mem fs 0=fs:=upF_zero _ _
theorem fsUp_all(h:fs.length≤k):fsUp ls mem fs k=fs.map (doneFn ls mem):=upF_all _ h
theorem fsUp_open(h:fs[k]?=some f):fsUp ls mem fs k=fsB ls mem fs k 0 f:=by
 unfold fsB bsUp;rw [upF_zero];exact (list_set_self (upF_at _ h)).symm
theorem fsB_at(h:fs[k]?=some f):(fsB ls mem fs k b f)[k]?=some { f with blocks:=bsUp ls mem f.blocks b }:=List.getElem?_set_self (by rw [fsUp,upF_len];exact (List.getElem?_eq_some_iff.1 h).1)
theorem fsC_at(h:fs[k]?=some f):(fsC ls mem fs k b i f)[k]?=some { f with blocks:=(bsUp ls mem f.blocks b).set b (insUp ls mem (blkOf f.blocks b) i) }:=List.getElem?_set_self (by rw [fsUp,upF_len];exact (List.getElem?_eq_some_iff.1 h).1)
theorem fsB_close(h:fs[k]?=some f)(hb:f.blocks.length≤b):fsB ls mem fs k b f=fsUp ls mem fs (k+1):=by
 unfold fsB bsUp;rw [upF_all _ hb];exact upF_set _ h
theorem bsUp_len(bs:List DBlock):(bsUp ls mem bs b).length=bs.length:=upF_len _ _ _
theorem bsUp_blk {bs:List DBlock}(hb:b<bs.length):blkOf (bsUp ls mem bs b) b=blkOf bs b:=blkOf_at (upF_at _ (blkOf_self bs hb))
theorem insUp_zero(x:DBlock):insUp ls mem x 0=delB ls x:=by unfold insUp delB;rw [upF_zero]
theorem insUp_all {x:DBlock}(h:(restL ls x.list).length≤i):insUp ls mem x i=doneB ls mem x:=by unfold insUp doneB;rw [upF_all _ h]
theorem fsB_open(hb:b<f.blocks.length):(fsB ls mem fs k b f).set k { ({ f with blocks:=bsUp ls mem f.blocks b }:DFunc) with blocks:=(bsUp ls mem f.blocks b).set b (delB ls (blkOf (bsUp ls mem f.blocks b) b)) }=fsC ls mem fs k b 0 f:=by
 unfold fsB fsC;rw [List.set_set,insUp_zero,bsUp_blk ls mem hb]
theorem fsC_close(hb:b<f.blocks.length)(h:(restL ls (blkOf f.blocks b).list).length≤i):fsC ls mem fs k b i f=fsB ls mem fs k (b+1) f:=by
 unfold fsB fsC;rw [insUp_all ls mem h,bsUp,bsUp,upF_set _ (blkOf_self f.blocks hb)]
theorem fsC_blk(hb:b<f.blocks.length):blkOf ((bsUp ls mem f.blocks b).set b (insUp ls mem (blkOf f.blocks b) i)) b=insUp ls mem (blkOf f.blocks b) i:=blkOf_put (by rw [bsUp_len];exact hb) _
theorem insUp_at {x:DBlock}(h:(restL ls x.list)[i]?=some y):(insUp ls mem x i).list[i]?=some y:=upF_at _ h
theorem insUp_len(x:DBlock):(insUp ls mem x i).list.length=(restL ls x.list).length:=upF_len _ _ _
theorem fsC_set(hb:b<f.blocks.length)(h:(restL ls (blkOf f.blocks b).list)[i]?=some y) :
 (fsC ls mem fs k b i f).set k { ({ f with blocks := (bsUp ls mem f.blocks b).set b (insUp ls mem (blkOf f.blocks b) i) } : DFunc) with
   blocks := ((bsUp ls mem f.blocks b).set b (insUp ls mem (blkOf f.blocks b) i)).set b { blkOf ((bsUp ls mem f.blocks b).set b (insUp ls mem (blkOf f.blocks b) i)) b with list := (blkOf ((bsUp ls mem f.blocks b).set b (insUp ls mem (blkOf f.blocks b) i)) b).list.set i (doneI ls mem y) } } = fsC ls mem fs k b (i + 1) f := by
 unfold fsC;rw [List.set_set,fsC_blk ls mem hb,List.set_set];unfold insUp;dsimp only;rw [upF_set _ h]
theorem fsC_skip(h:(restL ls (blkOf f.blocks b).list)[i]?=some y)(hc:calmI ls y=false):fsC ls mem fs k b (i+1) f=fsC ls mem fs k b i f:=by
 unfold fsC insUp;rw [upF_skip _ h (by unfold doneI;rw [hc];rfl)]
end

end Go.Proofs.YtnkogppgacappaaGreatDoor

namespace Go.Proofs.YtnkogppgacappaaGreatDoor
open Go.RowKit

def stillFs(gs:List DGlobal)(fs:List DFunc):List DFunc:=((fs.map tidyFn).map (doneFn (stillF (wordsL gs) (insU (fs.map tidyFn))) (wordsL gs))).map tidyFn
def StillPost(gs:List DGlobal)(fs:List DFunc)(w:World)(e:Ending)(w':World):Prop :=
 Below w.heap.size w w' ∧
 ((checkF ⟨gs,fs⟩).1≠0→e = .returned (.tuple #[.agg #[.slice none 0 0,.slice none 0 0],.agg #[.int .i64 (checkF ⟨gs,fs⟩).1,.int .i64 (checkF ⟨gs,fs⟩).2]])) ∧
 ((checkF ⟨gs, fs⟩).1 = 0 → ∃ ga gc fa fc, e = .returned (.tuple #[.agg #[.slice ga gs.length gc, .slice fa fs.length fc], .agg #[.int .i64 0, .int .i64 0]]) ∧
    SlAt (iv w.heap.size w'.heap.size) w' 3 rGlobal (.slice ga gs.length gc) gs ∧ SlAt (iv w.heap.size w'.heap.size) w' 4 rFunc (.slice fa fs.length fc) (stillFs gs fs))

theorem bools_lt {S:Nat→Prop}{w:World}{v:Value}{l:List Bool}(h:SlAt S w 1 rBool v l):SlAt (fun b=>S b∧b<w.heap.size) w 1 rBool v l:=by
 obtain⟨ao,c',hv,hc,hm,hx⟩:=h;refine⟨ao,c',hv,hc,hm,fun hne=>?_⟩;obtain⟨b,off,e,hS,hi⟩:=hx hne;refine⟨b,off,e,⟨hS,?_⟩,fun i x hx=>hi i x hx⟩;cases l with
 | nil=>exact absurd rfl hne
 | cons y l =>
   obtain⟨cs,hr,hl,hcs⟩:=hi 0 y rfl;have e2:cs=[.bool y]:=hr;subst e2;exact cell_lt hcs.get1
structure StBox (V:World)(TB MB LB:Nat)(go:Option Addr)(gn gc2:Nat)(fo:Option Addr)(n fc2:Nat)(ma:Option Addr)(mn mc:Nat)(la:Option Addr)(lc:Nat)(A:Nat)(mem:List Int)(ls:List Bool)(gs:List DGlobal):Prop where
 t0:V.cell? ⟨TB,0,none⟩=some (.slice go gn gc2)
 t1:V.cell? ⟨TB,1,none⟩=some (.slice fo n fc2)
 m0:V.cell? ⟨MB,0,none⟩=some (.slice ma mn mc)
 l0:V.cell? ⟨LB,0,none⟩=some (.slice la mn lc)
 mem:SlAt (fun b=>b<A) V 1 rInt (.slice ma mn mc) mem
 ls:SlAt (fun b=>b<A) V 1 rBool (.slice la mn lc) ls
 gs:SlAt (fun b=>b<A) V 3 rGlobal (.slice go gn gc2) gs
theorem StBox.kp {V W:World}{TB MB LB:Nat}{go:Option Addr}{gn gc2:Nat}{fo:Option Addr}{n fc2:Nat}{ma:Option Addr}{mn mc:Nat}{la:Option Addr}{lc A:Nat}{mem:List Int}{ls:List Bool}{gs:List DGlobal}(h:StBox V TB MB LB go gn gc2 fo n fc2 ma mn mc la lc A mem ls gs)(hM:MB<A)(hL:LB<A)(hk:Kp (fun c=>c<A∨TB≤c) V W):StBox W TB MB LB go gn gc2 fo n fc2 ma mn mc la lc A mem ls gs :=
 ⟨hk.cell (.inr (Nat.le_refl _)) h.t0,hk.cell (.inr (Nat.le_refl _)) h.t1,hk.cell (.inl hM) h.m0,hk.cell (.inl hL) h.l0,h.mem.mono rInt_mono (fun _ h=>h) (hk.stays fun _b hb => .inl hb),h.ls.mono rBool_mono (fun _ h=>h) (hk.stays fun _b hb => .inl hb),h.gs.mono rGlobal_mono (fun _ h=>h) (hk.stays fun _b hb => .inl hb)⟩

set_option maxRecDepth 100000 in
set_option maxHeartbeats 4000000 in
theorem stillDo_any {S : Nat → Prop} (ga : Option Addr) (gc : Nat) (fa : Option Addr) (fc : Nat) (gs : List DGlobal) (fs : List DFunc) (w : World)
 (hg:SlAt S w 3 rGlobal (.slice ga gs.length gc) gs) (hf:SlAt S w 4 rFunc (.slice fa fs.length fc) fs) (hw:Ways w) (hS:∀b,S b→b<w.heap.size)
 (hgl:gs.length≤1048576) (hfl:fs.length≤1048576) (hsm:∀(k:Nat) (f:DFunc),fs[k]?=some f→manyOf f.blocks≤1048576∧f.blocks.length≤1048576) (hnum:NumU ⟨gs,fs⟩) :
 Calls Tryz.prog 14 #[.agg #[.slice ga gs.length gc,.slice fa fs.length fc]] w fun e w'=>StillPost gs fs w e w':=by
 obtain⟨c,hc⟩:∃c,c=(checkF ⟨gs,fs⟩).1:=⟨_,rfl⟩
 obtain⟨d,hd⟩:∃d,d=(checkF ⟨gs,fs⟩).2:=⟨_,rfl⟩
 have Hcd:Hid (checkF ⟨gs,fs⟩=(c,d)):=by show _=_;rw [hc,hd]
 have Hck':Hid (∀V,Below w.heap.size w V→Calls Tryz.prog 8 #[.agg #[.slice ga gs.length gc,.slice fa fs.length fc]] V fun e w'=>e = .returned (.agg #[.int .i64 c,.int .i64 d])∧Below V.heap.size V w'):=fun V hV=>by
  have h:=check_any (S:=S) ga gc fa fc gs fs V (hg.later rGlobal_mono hV) (hf.later rFunc_mono hV) (Ways.below hw hV) hgl hfl hsm;rw [←hc,←hd] at h;exact h
 have Hg:=hid hg;have Hf:=hid hf;have Hww:=hid hw;have HS:=hid hS;have Hnum:=hid hnum;clear hg hf hw hsm hc hd hS hnum;go_enter Tryz.func14,Tryz.ntmps14;go_upto_region 1 with (fail)
 obtain⟨W,hW⟩:∃W,W=((w.alloc (.cells #[.slice ga gs.length gc,.slice fa fs.length fc] 25)).alloc (.cells #[.slice none 0 0,.slice none 0 0] 25)).alloc (.cells #[.int .i64 0,.int .i64 0] 27):=⟨_,rfl⟩
 obtain⟨hWs,h0,h1,h2⟩:=heap_threeF w (.cells #[.slice ga gs.length gc,.slice fa fs.length fc] 25) (.cells #[.slice none 0 0,.slice none 0 0] 25) (.cells #[.int .i64 0,.int .i64 0] 27);rw [←hW] at hWs h0 h1 h2 ⊢;have hbW:Below w.heap.size w W:=by rw [hW];(repeat (first | exact Below.refl _ _ | refine Below.alloc ?_ (by first|omega|(simp<;>omega)) _ | refine Below.setCell ?_ (by first|omega|(simp<;>omega)) _ | refine below_drewN ?_ _ | refine Below.drew ?_))
 obtain⟨UB,hUB⟩:∃UB,UB=w.heap.size:=⟨_,rfl⟩
 obtain⟨UO,hUO⟩:∃UO,UO=w.heap.size+1:=⟨_,rfl⟩
 obtain⟨UX,hUX⟩:∃UX,UX=w.heap.size+1+1:=⟨_,rfl⟩
 rw [←hUX] at h2 ⊢;rw [←hUO] at h1 ⊢;rw [←hUB] at h0 ⊢;have HUs:Hid (UB=w.heap.size∧UO=w.heap.size+1∧UX=w.heap.size+2∧W.heap.size=w.heap.size+3):=⟨hUB,hUO,hUX,hWs⟩
 have Hst:Hid (∀V,Below W.heap.size W V→Below w.heap.size w V∧V.heap[UB]?=some (.cells #[.slice ga gs.length gc,.slice fa fs.length fc] 25 (0,0))∧V.heap[UO]?=some (.cells #[.slice none 0 0,.slice none 0 0] 25 (0,0))∧V.heap[UX]?=some (.cells #[.int .i64 0,.int .i64 0] 27 (0,0))) :=
  fun V hV=>⟨hbW.trans (hV.mono hbW.size),(hV.block UB (by omega)).trans h0,(hV.block UO (by omega)).trans h1,(hV.block UX (by omega)).trans h2⟩
 have HbW:=hid hbW;obtain⟨c0,c1⟩:=(cells_of (cs:=[_,_]) h0).get2;rw [Nat.zero_add] at c1;have zB:UB<W.heap.size:=by omega
 clear hW h0 h1 h2 hbW hUB hUO hUX hWs;go_upto_region 2 with (go_at_call 8;refine (Hck'.out W HbW.out).mono ?_;rintro e w1 ⟨rfl,hb1⟩;have Hb1:=hid hb1;clear hb1)
 obtain⟨W2,hW2⟩:∃W2,W2=w1.alloc (.cells #[.int .i64 c,.int .i64 d] 27):=⟨_,rfl⟩
 have hb2:Below w1.heap.size w1 W2:=by rw [hW2];(repeat (first | exact Below.refl _ _ | refine Below.alloc ?_ (by first|omega|(simp<;>omega)) _ | refine Below.setCell ?_ (by first|omega|(simp<;>omega)) _ | refine below_drewN ?_ _ | refine Below.drew ?_))
 have Hb2:Hid (Below W.heap.size W W2):=Hb1.out.trans (hb2.mono Hb1.out.size);have x0:W2.cell? ⟨w1.heap.size,0,none⟩=some (.int .i64 c):=by rw [hW2];simp
 have x1:W2.cell? ⟨w1.heap.size,1,none⟩=some (.int .i64 d):=by rw [hW2];simp
 rw [←hW2];obtain⟨XB,hXB⟩:∃XB,XB=w1.heap.size:=⟨_,rfl⟩
 rw [←hXB] at x0 x1 ⊢;obtain⟨Hw2,s0,s1,s2⟩:=Hst.out W2 Hb2.out;have Hw2:=hid Hw2;have S1:=hid s1;have S2:=hid s2;obtain⟨a0,a1⟩:=(cells_of (cs:=[_,_]) s0).get2;rw [Nat.zero_add] at a1;have zB2:UB<W2.heap.size:=cell_lt a0;have zXB:XB<W2.heap.size:=cell_lt x0;have hne:¬UO=UX:=by have:=HUs.out;omega
 have hlo:w.heap.size≤UO∧w.heap.size≤UX:=by have:=HUs.out;omega
 have Hlo:=hid hlo;have hn3:¬XB=UO∧¬UO=XB∧¬XB=UX∧¬UX=XB:=by have:=HUs.out;have:=Hb1.out.size;omega
 have Hn3:=hid hn3;clear hW2 hb2 hXB s0 s1 s2 c0 c1 zB hlo hn3
 by_cases hc0:c=0
 · subst hc0
   have hd0:d=0:=by
    have h:=checkF_zero (u:=⟨gs,fs⟩) (by rw [Hcd.out]);rw [Hcd.out] at h;exact congrArg Prod.snd h
   subst hd0;have Hpost:Hid (∀e w' ga gc fa fc,Below w.heap.size w w'→e = .returned (.tuple #[.agg #[.slice ga gs.length gc,.slice fa fs.length fc],.agg #[.int .i64 0,.int .i64 0]])→SlAt (iv w.heap.size w'.heap.size) w' 3 rGlobal (.slice ga gs.length gc) gs→SlAt (iv w.heap.size w'.heap.size) w' 4 rFunc (.slice fa fs.length fc) (stillFs gs fs)→StillPost gs fs w e w'):=fun e w' ga gc fa fc h1 h2 h3 h4 =>
    ⟨h1,fun h=>absurd (by rw [Hcd.out]) h,fun _=>⟨ga,gc,fa,fc,h2,h3,h4⟩⟩
   have hck:checkF ⟨gs,fs⟩=(0,0):=Hcd.out;have HT1:=hid (tidy_ok (S:=S) ga gc fa fs.length fc gs fs W2 (Hg.out.later rGlobal_mono Hw2.out) (Hf.out.later rFunc_mono Hw2.out) rfl (Ways.below Hww.out Hw2.out) (fun b hb=>Nat.lt_of_lt_of_le (HS.out b hb) Hw2.out.size) hck);have Hck:=hid hck;clear hck;go_upto_region 5 with
    (go_at_call 15; refine HT1.out.mono ?_; rintro e w3 ⟨ta, tc, ua, uc, rfl, hg3, hf3, hb3⟩
     obtain ⟨Hw3, t0, t1, t2⟩ := Hst.out w3 (Hb2.out.trans (hb3.mono Hb2.out.size))
     have Hw3 := hid Hw3
     have Hg3 := hid hg3
     have Hf3 := hid hf3
     have Hb3 := hid hb3
     have f0 := thawed t0 0
     have f1 := thawed t0 1
     obtain ⟨b0, b1⟩ := (cells_of (cs := [_, _]) t0).get2
     rw [Nat.zero_add] at b1
     have T0 := hid t0
     have T1 := hid t1
     have T2 := hid t2
     have zB3 : UB < w3.heap.size := cell_lt b0
     clear hb3 hg3 hf3 t0 t1 t2)
   obtain⟨W4,hW4⟩:∃W4,W4=((w3.setCell ⟨UB,0,none⟩ (.slice ta gs.length tc)).setCell ⟨UB,1,none⟩ (.slice ua fs.length uc)).alloc (.cells #[.int .i64 0,.int .i64 0] 27):=⟨_,rfl⟩
   have hk4:Kp (fun b=>b≠UB) w3 W4:=by
    rw [hW4];exact (kp_more (kp_one w3 UB 0 _) 1 _).trans (Kp.of (by (repeat (first | exact Below.refl _ _ | refine Below.alloc ?_ (by first|omega|(simp<;>omega)) _ | refine Below.setCell ?_ (by first|omega|(simp<;>omega)) _ | refine below_drewN ?_ _ | refine Below.drew ?_))))
   have hz4:W4.heap.size=w3.heap.size+1:=by rw [hW4];simp
   have hU4:W4.heap[UB]?=some (.cells #[.slice ta gs.length tc,.slice ua fs.length uc] 25 (0,0)):=by
    have h1:=heap_set_row (i:=0) T0.out (.slice ta gs.length tc);have h2:=heap_set_row (i:=1) h1 (.slice ua fs.length uc);rw [hW4,Below.heap_alloc _ _ _ (by simpa [World.setCell] using zB3)];exact h2
   have hY4:W4.heap[w3.heap.size]?=some (.cells #[.int .i64 0,.int .i64 0] 27 (0,0)):=by
    have h1:=heap_alloc_new ((w3.setCell ⟨UB,0,none⟩ (.slice ta gs.length tc)).setCell ⟨UB,1,none⟩ (.slice ua fs.length uc)) (.cells #[.int .i64 0,.int .i64 0] 27);rw [show ((w3.setCell ⟨UB,0,none⟩ (.slice ta gs.length tc)).setCell ⟨UB,1,none⟩ (.slice ua fs.length uc)).heap.size=w3.heap.size by simp [World.setCell]] at h1;rw [hW4];exact h1
   rw [←hW4];have hb4:Below w.heap.size w W4:=Hw3.out.trans (hk4.below fun b hb=>⟨Nat.lt_of_lt_of_le hb Hw3.out.size,fun e=>by have:=HUs.out;omega⟩);have hO4:W4.heap[UO]?=some (.cells #[.slice none 0 0,.slice none 0 0] 25 (0,0)):=(hk4.block UO (Array.getElem?_eq_some_iff.1 T1.out).1 (by have:=HUs.out;omega)).trans T1.out;have hX4:W4.heap[UX]?=some (.cells #[.int .i64 0,.int .i64 0] 27 (0,0)):=(hk4.block UX (Array.getElem?_eq_some_iff.1 T2.out).1 (by have:=HUs.out;omega)).trans T2.out;have hUB:UB<W4.heap.size∧UO<W4.heap.size∧UX<W4.heap.size:=⟨(Array.getElem?_eq_some_iff.1 hU4).1,(Array.getElem?_eq_some_iff.1 hO4).1,(Array.getElem?_eq_some_iff.1 hX4).1⟩
   have Hst4:Hid (∀V,Below W4.heap.size W4 V→Below w.heap.size w V∧(V.cell? ⟨UB,0,none⟩=some (.slice ta gs.length tc)∧V.cell? ⟨UB,1,none⟩=some (.slice ua fs.length uc))∧V.heap[UO]?=some (.cells #[.slice none 0 0,.slice none 0 0] 25 (0,0))∧V.heap[UX]?=some (.cells #[.int .i64 0,.int .i64 0] 27 (0,0))) :=
    fun V hV=>⟨hb4.trans (hV.mono hb4.size),by have h:=(cells_of (cs:=[_,_]) ((hV.block UB hUB.1).trans hU4)).get2;rw [Nat.zero_add] at h;exact h,(hV.block UO hUB.2.1).trans hO4,(hV.block UX hUB.2.2).trans hX4⟩
   obtain⟨y0,y1⟩:=(cells_of (cs:=[_,_]) hY4).get2;rw [Nat.zero_add] at y1;have hS4:Stays (iv W2.heap.size w3.heap.size) w3 W4:=hk4.stays fun b hb e=>by subst e;have:=zB2;have:=hb.1;omega
   have Hg4:=hid (Hg3.out.mono rGlobal_mono (fun _ h=>h) hS4);have Hf4:=hid (Hf3.out.mono rFunc_mono (fun _ h=>h) hS4);obtain⟨-,⟨c0,c1⟩,-⟩:=Hst4.out W4 (Below.refl _ _);have zE4:w3.heap.size<W4.heap.size:=cell_lt y0;have zU4:UB<W4.heap.size:=hUB.1;have Hb4:=hid hb4;have Hz4:=hid hz4;clear hW4 hk4 hz4 hU4 hY4 hO4 hX4 hUB hS4 b0 b1 f0 f1 T0 T1 T2 zB3 hb4 a0 a1 x0 x1 zB2 zXB;obtain⟨T,hT⟩:∃T,T=fs.map tidyFn:=⟨_,rfl⟩
   have hTl:T.length=fs.length:=by rw [hT];simp
   have hckT:checkF ⟨gs,T⟩=(0,0):=by rw [hT];exact tidyU_check (u:=⟨gs,fs⟩) Hck.out Hnum.out
   have hnumT:NumU ⟨gs,T⟩:=by rw [hT];exact tidyU_num (u:=⟨gs,fs⟩) Hck.out Hnum.out
   rw [←hT] at Hf4;obtain⟨mn,hmn⟩:∃mn,mn=(wordsL gs).length:=⟨_,rfl⟩
   obtain⟨ls,hls⟩:∃ls,ls=stillF (wordsL gs) (insU T):=⟨_,rfl⟩
   have hlsl:ls.length=mn:=by
    rw [hls,hmn];unfold stillF;split
    · exact List.length_replicate
    · exact calmL_len _ _
   obtain⟨hgl10,hgsz,-,hmn200⟩:=checkF_globs (u:=⟨gs,T⟩) (by rw [hckT]);obtain⟨hsmG,hsmF⟩:=checkF_small (u:=⟨gs,T⟩) hckT;have HW0:=hid (words_any (S:=iv W2.heap.size w3.heap.size) ta ua tc fs.length uc gs W4 Hg4.out hgl10 hgsz);have HsmG:=hid hsmG;have HsmF:=hid hsmF;have Hmn:=hid hmn;have Hls:=hid hls;have Hlsl:=hid hlsl;have HT:=hid hT;have HTl:=hid hTl;have HckT:=hid hckT;have HnumT:=hid hnumT;have hmn9:mn≤1048576:=by rw [hmn];have h9:(wordsL gs).length≤200:=hmn200;omega
   clear hsmG hsmF hmn hls hlsl hT hTl hckT hnumT hgsz hmn200;go_upto_region 8 with
    (go_at_call 34; refine HW0.out.mono ?_; rintro e w5 ⟨v, rfl, hv, hb5⟩
     obtain ⟨ma, mc, rfl⟩ := hv.shape
     rw [← Hmn.out]
     rw [← Hmn.out] at hv
     have Hv5 := hid hv
     have Hb5 := hid hb5
     clear hb5 hv)
   obtain⟨W6,hW6⟩:∃W6,W6=w5.alloc (.cells #[.slice ma mn mc] 33):=⟨_,rfl⟩
   have hb6:Below w5.heap.size w5 W6:=by rw [hW6];(repeat (first | exact Below.refl _ _ | refine Below.alloc ?_ (by first|omega|(simp<;>omega)) _ | refine Below.setCell ?_ (by first|omega|(simp<;>omega)) _ | refine below_drewN ?_ _ | refine Below.drew ?_))
   obtain⟨MB,hMB⟩:∃MB,MB=w5.heap.size:=⟨_,rfl⟩
   have hM6:W6.heap[MB]?=some (.cells #[.slice ma mn mc] 33 (0,0)):=by rw [hW6,hMB];exact heap_alloc_new _ _
   rw [←hW6,←hMB];have hb46:Below W4.heap.size W4 W6:=Hb5.out.trans (hb6.mono Hb5.out.size);obtain⟨-,⟨c0,c1⟩,-⟩:=Hst4.out W6 hb46;have m0:W6.cell? ⟨MB,0,none⟩=some (.slice ma mn mc):=(cells_of (cs:=[_]) hM6).get1;have zM6:MB<W6.heap.size:=cell_lt m0;have zU6:UB<W6.heap.size:=cell_lt c0;have Hv6:=hid (Hv5.out.later hb6);have hT10:T.length≤10:=(checkF_ok (u:=⟨gs,T⟩) (by rw [HckT.out])).2.1;have HL0:=still_any (S:=iv W2.heap.size w3.heap.size) (S':=iv W4.heap.size W6.heap.size) ta ua gs.length tc uc T ma mc mn (wordsL gs) W6 (by rw [HTl.out];exact Hf4.out.later rFunc_mono hb46) (fun b hb=>by have:=hb.2;have:=Hz4.out;have:=hb46.size;omega) Hv6.out.sl Hmn.out.symm hmn9 (by omega) (fun f hf=>⟨(HsmF.out f hf).blocks,fun x hx=>((HsmF.out f hf).each x hx).list⟩);rw [HTl.out,←Hls.out] at HL0;have HL0:=hid HL0;have Hb6:=hid hb46;have HM6:=hid hM6;clear hW6 hb6 hMB hM6 hb46 y0 y1 zE4 zU4;go_upto_region 9 with
    (go_at_call 35; refine HL0.out.mono ?_; rintro e w7 ⟨la, lc, rfl, hl7, hb7⟩
     have Hl7 := hid hl7
     have Hb7 := hid hb7
     clear hb7 hl7)
   obtain⟨W8,hW8⟩:∃W8,W8=w7.alloc (.cells #[.slice la mn lc] 66):=⟨_,rfl⟩
   have hb8:Below w7.heap.size w7 W8:=by rw [hW8];(repeat (first | exact Below.refl _ _ | refine Below.alloc ?_ (by first|omega|(simp<;>omega)) _ | refine Below.setCell ?_ (by first|omega|(simp<;>omega)) _ | refine below_drewN ?_ _ | refine Below.drew ?_))
   obtain⟨LB,hLB⟩:∃LB,LB=w7.heap.size:=⟨_,rfl⟩
   have hL8:W8.heap[LB]?=some (.cells #[.slice la mn lc] 66 (0,0)):=by rw [hW8,hLB];exact heap_alloc_new _ _
   rw [←hW8,←hLB];have hb68:Below W6.heap.size W6 W8:=Hb7.out.trans (hb8.mono Hb7.out.size);have hb48:Below W4.heap.size W4 W8:=Hb6.out.trans (hb68.mono Hb6.out.size);obtain⟨-,⟨c0,c1⟩,-⟩:=Hst4.out W8 hb48;have zU8:UB<W8.heap.size:=cell_lt c0;have hc:=copyUni_rows (S:=iv W2.heap.size w3.heap.size) ta ua tc uc gs T W8 (Hg4.out.later rGlobal_mono hb48) (by rw [HTl.out];exact Hf4.out.later rFunc_mono hb48) (by omega) (by omega) HsmG.out HsmF.out;rw [HTl.out] at hc;have Hc:=hid hc;have Hb8:=hid hb48;have Hb68:=hid hb68;have Hl8:Hid (SlAt (fun b=>W6.heap.size≤b∧b<w7.heap.size) W8 1 rBool (.slice la mn lc) ls):=(bools_lt Hl7.out).later rBool_mono hb8;have Hz78:Hid (w7.heap.size≤W8.heap.size):=hb8.size;have HL8:=hid hL8;clear hW8 hb8 hLB hL8 hb68 hb48 hc zU6 zM6 m0;go_upto_region 10 with
    (go_at_call 36; refine Hc.out.mono ?_; rintro e w9 ⟨go, gc2, fo, fc2, A, V, rfl, hA1, hA2, hgo, hu9, hb9⟩
     have HA := hid (And.intro hA1 hA2)
     have Hgo := hid hgo
     have Hu9 := hid hu9
     have Hb9 := hid hb9
     clear hA1 hA2 hgo hu9 hb9)
   obtain⟨W10,hW10⟩:∃W10,W10=w9.alloc (.cells #[.slice go gs.length gc2,.slice fo fs.length fc2] 25):=⟨_,rfl⟩
   have hb10:Below w9.heap.size w9 W10:=by rw [hW10];(repeat (first | exact Below.refl _ _ | refine Below.alloc ?_ (by first|omega|(simp<;>omega)) _ | refine Below.setCell ?_ (by first|omega|(simp<;>omega)) _ | refine below_drewN ?_ _ | refine Below.drew ?_))
   obtain⟨TB,hTB⟩:∃TB,TB=w9.heap.size:=⟨_,rfl⟩
   have hT10':W10.heap[TB]?=some (.cells #[.slice go gs.length gc2,.slice fo fs.length fc2] 25 (0,0)):=by rw [hW10,hTB];exact heap_alloc_new _ _
   rw [←hW10,←hTB];have hb810:Below W8.heap.size W8 W10:=Hb9.out.trans (hb10.mono Hb9.out.size);obtain⟨mem,hmem⟩:∃mem,mem=wordsL gs:=⟨_,rfl⟩
   have HMA:Hid (MB<A∧LB<A∧A≤TB):=by
    have h1:=(Array.getElem?_eq_some_iff.1 HM6.out).1;have h2:=(Array.getElem?_eq_some_iff.1 HL8.out).1;have:=HA.out;have:=Hb68.out.size;exact⟨by omega,by omega,by omega⟩
   have hbx:StBox W10 TB MB LB go gs.length gc2 fo fs.length fc2 ma mn mc la lc A mem ls gs:=by
    have hA:=HA.out;have h48:=Hb68.out.size;obtain⟨e0,e1⟩:=(cells_of (cs:=[_,_]) hT10').get2;rw [Nat.zero_add] at e1;refine⟨e0,e1,(cells_of (cs:=[_]) ((hb810.block MB (by have:=HMA.out;have:=(Array.getElem?_eq_some_iff.1 HM6.out).1;omega)).trans ((Hb68.out.block MB (Array.getElem?_eq_some_iff.1 HM6.out).1).trans HM6.out))).get1,(cells_of (cs:=[_]) ((hb810.block LB (Array.getElem?_eq_some_iff.1 HL8.out).1).trans HL8.out)).get1,?_,?_,?_⟩
    · rw [hmem]
      exact ((Hv6.out.sl.later rInt_mono Hb68.out).later rInt_mono hb810).mono rInt_mono (fun b hb=>by have:=hb.2;omega) (Stays.refl _ _)
    · exact (Hl8.out.later rBool_mono hb810).mono rBool_mono (fun b hb=>by have:=hb.2;have:=Hz78.out;omega) (Stays.refl _ _)
    · exact (Hgo.out.toSl rGlobal_mono (by decide)).mono rGlobal_mono (fun b hb=>hb.2) (Stays.below' hb10)
   have hd0:DoneSt W10 W10 A TB (.slice fo fs.length fc2) T V:=by
    refine⟨Hu9.out.later hb10,fun k f hf p hp c hc=>by rw [hTB];exact (Hu9.out.lt.2 k f hf p hp c hc).2,Kp.refl _ _⟩
   have hpos:0<T.length:=checkF_pos (u:=⟨gs,T⟩) HckT.out;obtain⟨FB,rfl⟩:∃FB,fo=some ⟨FB,0,none⟩:=by
    obtain⟨g,c',hv,-⟩:=hd0.uni.row.at (i:=0) (by rw [List.getElem?_mapIdx,List.getElem?_eq_getElem hpos];rfl) (by decide)
    exact⟨g,by injection hv⟩
   have Hbx:=hid hbx;have Hd0:=hid hd0;have Hb810:=hid hb810;have z10:TB<W10.heap.size:=cell_lt hbx.t0;have t0:=hbx.t0;have t1:=hbx.t1;have Hmem:=hid hmem;clear hW10 hb10 hTB hT10' hb810 hmem hbx hd0 hpos c0 c1 zU8;go_wp2_with fail;go_loopw [41] (fun s41 wr=>∃(k:Nat) (V:Nat→Pth→Value),k≤fs.length∧s41 = .int .i64 (k:Int)∧DoneSt W10 wr A TB (.slice (some ⟨FB,0,none⟩) fs.length fc2) (fsUp ls mem T k) V) (fun s41 _=>fs.length - (intOf s41).toNat)
   case atStart=>exact⟨0,V,Nat.zero_le _,rfl,by rw [fsUp_zero];exact Hd0.out⟩
   case round =>
    obtain⟨wo,hwo⟩:∃wo:World,wo=wr:=⟨_,rfl⟩
    subst hwo;obtain⟨k,V1,hk,rfl,hd⟩:=hrel;have hbx:=Hbx.out.kp HMA.out.1 HMA.out.2.1 hd.kept;have t0:=hbx.t0;have t1:=hbx.t1;have zT:TB<wo.heap.size:=cell_lt t0
    by_cases hkl:k<fs.length
    · have hkT:k<T.length:=by rw [HTl.out];exact hkl
      obtain⟨f,hf⟩:∃f,T[k]?=some f:=⟨_,List.getElem?_eq_getElem hkT⟩
      have hd1:DoneSt W10 wo A TB (.slice (some ⟨FB,0,none⟩) fs.length fc2) (fsB ls mem T k 0 f) V1:=by rw [←fsUp_open ls mem hf];exact hd
      obtain⟨htd,-,-,-,-,-⟩:=fn_td (u:=⟨gs,T⟩) HckT.out HnumT.out hf;have hbpos:0<f.blocks.length:=htd.tok.pos;have hf0:(fsUp ls mem T k)[k]?=some f:=upF_at _ hf;obtain⟨g,c',hv,-,-,-,hat,-⟩:=hd.uni.row.at (i:=k) (by rw [List.getElem?_mapIdx,hf0];rfl) (by decide)
      have hg:FB=g:=by injection hv with e1;injection e1 with e2;injection e2
      subst hg;obtain⟨d0,d1,d2,d3⟩:=hat.get4;obtain⟨h0,cb,hbv,-,-,hh0,-,-⟩:=RowsAt.cell (hd.uni.fn k f hf0) (p := .blks) trivial (i:=0) (j:=0) (cs:=cellsB (blkOf f.blocks 0) (V1 k (.phis 0)) (V1 k (.list 0)) (V1 k (.to 0))) (by show (f.blocks.mapIdx _)[0]?=_;rw [List.getElem?_mapIdx,blkOf_self f.blocks hbpos];rfl) rfl;rw [show (elemsP f.blocks (V1 k) .blks).length=f.blocks.length from List.length_mapIdx] at hbv;rw [hbv] at d3;have zF:FB<wo.heap.size:=cell_lt d3;obtain⟨nb,hnb⟩:∃nb,nb=f.blocks.length:=⟨_,rfl⟩
      rw [←hnb] at d3 hbv;have hnb9:nb≤1048576:=by rw [hnb];exact htd.ok.len
      have Hd1:=hid hd1;have Hf:=hid hf;have Htd:=hid htd;have Hnb:=hid hnb;have Hbv:=hid hbv;clear hd hd1 hf htd hbpos hf0 hv hat hh0 hnb hbv hbx hkT d0 d1 d2;go_wp2_with fail;clear t0 t1 zT d3 zF;go_loopw [51] (fun s51 wr=>∃(b:Nat) (V:Nat→Pth→Value),b≤nb∧s51 = .int .i64 (b:Int)∧DoneSt W10 wr A TB (.slice (some ⟨FB,0,none⟩) fs.length fc2) (fsB ls mem T k b f) V∧V k .blks = .slice (some ⟨h0,0,none⟩) nb cb) (fun s51 _=>nb - (intOf s51).toNat)
      case atStart=>exact⟨0,V1,Nat.zero_le _,rfl,Hd1.out,Hbv.out⟩
      case round =>
       obtain⟨wp,hwp⟩:∃wp:World,wp=wr:=⟨_,rfl⟩
       subst hwp;obtain⟨b,V2,hb,rfl,hd,hbv⟩:=hrel;have hbx:=Hbx.out.kp HMA.out.1 HMA.out.2.1 hd.kept;have t0:=hbx.t0;have t1:=hbx.t1;have zT:TB<wp.heap.size:=cell_lt t0
       by_cases hbl:b<nb
       · have hblf:b<f.blocks.length:=by rw [←Hnb.out];exact hbl
         have hfat:=fsB_at ls mem (b:=b) Hf.out;have hfn:=hd.uni.fn k _ hfat;obtain⟨bsb,hbsb⟩:∃bsb,bsb=bsUp ls mem f.blocks b:=⟨_,rfl⟩
         have hbsl:bsb.length=f.blocks.length:=by rw [hbsb];exact bsUp_len ls mem _
         obtain⟨x,hx⟩:∃x,x=blkOf f.blocks b:=⟨_,rfl⟩
         have hblk:blkOf bsb b=x:=by rw [hbsb,hx];exact bsUp_blk ls mem hblf
         dsimp only at hfn;rw [←hbsb] at hfn;obtain⟨g,c',hv,-,-,-,hat,-⟩:=hd.uni.row.at (i:=k) (by rw [List.getElem?_mapIdx,hfat];rfl) (by decide)
         have hg:FB=g:=by injection hv with e1;injection e1 with e2;injection e2
         subst hg;obtain⟨d0,d1,d2,d3⟩:=hat.get4;rw [hbv] at d3;have hbb:b<bsb.length:=by rw [hbsl];exact hblf
         obtain⟨h0',cb',hv',-,-,hh0,hcell,hfro⟩:=RowsAt.cell hfn (p := .blks) trivial (i:=b) (j:=1) (cs:=cellsB x (V2 k (.phis b)) (V2 k (.list b)) (V2 k (.to b))) (by show (bsb.mapIdx _)[b]?=_;rw [List.getElem?_mapIdx,blkOf_self bsb hbb,hblk];rfl) rfl;have hh:h0=h0':=by rw [hbv] at hv';injection hv' with e1;injection e1 with e2;injection e2
         subst hh;obtain⟨E,hE⟩:∃E,E=elemsP bsb (V2 k) (.list b):=⟨_,rfl⟩
         obtain⟨xa,xc,hxv⟩:=RowsAt.shape (p := .list b) hfn hbb;rw [←hE] at hxv;obtain⟨xn,hxn⟩:∃xn,xn=E.length:=⟨_,rfl⟩
         rw [←hxn] at hxv;have hEe:E=x.list.mapIdx fun i y=>cellsI y (V2 k (.args b i)):=by rw [hE];show (blkOf bsb b).list.mapIdx _=_;rw [hblk]
         have hxl:x.list.length≤1048576:=by rw [hx];exact (Htd.out.ok.small _ (List.mem_of_getElem? (blkOf_self f.blocks hblf))).list
         have hxn9:xn≤1048576:=by rw [hxn,hEe,List.length_mapIdx];exact hxl
         have hrow:Row1 wp A 80 8 (.slice xa xn xc) E:=by
          have h1:=RowsAt.own hfn (.list b) hbb;have h2:=RowsAt.wid hfn (.list b) hbb;rw [hxv,←hE] at h1;rw [←hE] at h2;exact⟨h1,h2⟩
         have hS:∀cs∈E,InsSh cs:=fun cs hcs=>by
          obtain⟨i,hi⟩:=List.getElem?_of_mem hcs;rw [hEe,List.getElem?_mapIdx] at hi;cases hy:x.list[i]? with
          | none=>rw [hy] at hi;cases hi
          | some y =>
            rw [hy] at hi;have hi2:=Option.some.inj hi;obtain⟨aa,ac,ha⟩:=RowsAt.shape (p := .args b i) hfn (by show i<(blkOf bsb b).list.length;rw [hblk];exact (List.getElem?_eq_some_iff.1 hy).1);rw [←hi2,ha];exact⟨_,_,_,_,_,_,_,_,_,_,rfl⟩
         have hobl:∀c,(Value.slice xa xn xc).ownBlock=some c→A≤c∧c<TB:=fun c hc=>by
          rw [←hxv] at hc;exact⟨(hd.uni.lt.2 k _ hfat (.list b) (by dsimp only;rw [←hbsb];exact hbb) c hc).1,hd.hi k _ hfat (.list b) (by dsimp only;rw [←hbsb];exact hbb) c hc⟩
         have hkF:∀w',Kp (fun q=>(Value.slice xa xn xc).ownBlock≠some q) wp w'→Kp (fun c=>c<A∨TB≤c) W10 w':=fun w' hk'=>hd.kept.trans (hk'.less fun c hc e=>by have:=hobl c e;omega)
         have hDel := insDelete_any A xa xn xc E wp hrow hxn.symm hxn9 hS (goneP ls) (.pointer (some ⟨MB, 0, none⟩)) (.pointer (some ⟨LB, 0, none⟩)) (fun w' hk' => fun a0 a1 a2 a3 a4 a5 a6 a7 hmemE => by
          obtain ⟨v0, v1, v2, v3, v4, v5, v6, vs, vm, vk, he⟩ := hS _ hmemE
          have hb' := Hbx.out.kp HMA.out.1 HMA.out.2.1 (hkF w' hk')
          have h := stillDel_any MB LB ma la mc mn lc ls w' hb'.m0 hb'.l0 hb'.ls Hlsl.out hmn9 v0 v1 v2 v3 v4 v5 v6 vs vm vk
          simp only [List.cons.injEq, and_true] at he
          obtain ⟨rfl, rfl, rfl, rfl, rfl, rfl, rfl, rfl⟩ := he
          exact h)
         have hne0:(Value.slice xa xn xc).ownBlock≠some h0:=fun e=>RowsAt.apart hfn .blks (.list b) trivial hbb (by simp) h0 (by rw [hbv];rfl) (by rw [hxv];exact e);rw [hxv] at hcell;have hcell:wp.cell? ⟨h0,b * 6+1,none⟩=some (.slice xa xn xc):=hcell;have hfro:wp.frozen? ⟨h0,b * 6+1,none⟩=false:=hfro;have zF:FB<wp.heap.size:=cell_lt d3;have zh:h0<wp.heap.size:=hh0;have HDel:=hid hDel;have Hd:=hid hd;have Hbv:=hid hbv;have Hx:=hid hx;have Hxv:=hid hxv;have HE:=hid hE;have Hbsb:=hid hbsb;have Hblk:=hid hblk;have HEe:=hid hEe;have HkF:=hid hkF;have Hne0:=hid hne0;clear hDel hd hbv hbx hfat hfn hbsl hv hat hv' hh0 hE hxn hEe hxl hrow hS hobl hkF hne0 hblk hx d0 d1 d2 hbsb hxv hblf hbb;go_upto_region 18 with
          (go_at_call 37; refine HDel.out.mono ?_; rintro e w5 ⟨m, hm, rfl, hr5, hk5⟩
           have hcell := hk5.cell (F := fun q => (Value.slice xa xn xc).ownBlock ≠ some q) Hne0.out hcell
           have hfro := hk5.frozen (F := fun q => (Value.slice xa xn xc).ownBlock ≠ some q) Hne0.out zh hfro
           have zh5 := cell_lt hcell
           have Hm := hid hm
           have Hr5 := hid hr5
           have Hk5 := hid hk5
           clear hm hr5 hk5)
         obtain⟨W6',hW6'⟩:∃W6',W6'=w5.setCell ⟨h0,b * 6+1,none⟩ (.slice xa m xc):=⟨_,rfl⟩
         have hblf:b<f.blocks.length:=by rw [←Hnb.out];exact hbl
         have hfat:=fsB_at ls mem (b:=b) Hf.out;have hbsl:(bsUp ls mem f.blocks b).length=f.blocks.length:=bsUp_len ls mem _;obtain⟨V3,hd3,hb3,hl3⟩:=Hd.out.del (W1:=w5) (n:=xn) (c:=xc) (m:=m) (h0:=h0) (nb:=nb) (cb:=cb) (a:=xa) (ls:=ls) hfat (by dsimp only;rw [hbsl];exact hblf) Hxv.out (by dsimp only;rw [←Hbsb.out,←HE.out];exact Hr5.out) (by rw [Hxv.out];exact Hk5.out) Hbv.out;rw [←hW6'] at hd3;rw [fsB_open ls mem hblf] at hd3;rw [←hW6'];have hfat3:=fsC_at ls mem (b:=b) (i:=0) Hf.out;have hbl3:b<((bsUp ls mem f.blocks b).set b (insUp ls mem (blkOf f.blocks b) 0)).length:=by rw [List.length_set,hbsl];exact hblf
         obtain⟨q1,-,zh6⟩:=hd3.listCell hfat3 hbl3 (hb3.trans Hbv.out);rw [hl3] at q1;have hml:m=(restL ls x.list).length:=by
          obtain⟨a9,c9,h9⟩:=RowsAt.shape (p := .list b) (hd3.uni.fn k _ hfat3) hbl3;rw [hl3] at h9;injection h9 with e1 e2 e3;rw [e2];show (List.mapIdx _ _).length=_;rw [List.length_mapIdx];dsimp only;rw [fsC_blk ls mem hblf,insUp_len,Hx.out]
         have hm9:m≤1048576:=by
          rw [Hm.out];refine Nat.le_trans (List.length_filter_le _ _) ?_;rw [HEe.out,List.length_mapIdx,Hx.out];exact (Htd.out.ok.small _ (List.mem_of_getElem? (blkOf_self f.blocks hblf))).list
         have Hd3:=hid hd3;have Hb3':Hid (V3 k .blks = .slice (some ⟨h0,0,none⟩) nb cb):=hb3.trans Hbv.out;have Hl3:=hid hl3;have Hml:=hid hml;clear hW6' hfat hbsl hd3 hb3 hl3 hfat3 hbl3 hml hcell hfro;go_wp2_with fail;clear t0 t1 zT d3 zF zh zh5 q1 zh6;go_loopw [76] (fun s76 wr=>∃(j:Nat) (V:Nat→Pth→Value),j≤m∧s76 = .int .i64 (j:Int)∧DoneSt W10 wr A TB (.slice (some ⟨FB,0,none⟩) fs.length fc2) (fsC ls mem T k b j f) V∧V k .blks = .slice (some ⟨h0,0,none⟩) nb cb∧V k (.list b) = .slice xa m xc) (fun s76 _=>m - (intOf s76).toNat)
         case atStart=>exact⟨0,V3,Nat.zero_le _,rfl,Hd3.out,Hb3'.out,Hl3.out⟩
         case round =>
          obtain⟨wq,hwq⟩:∃wq:World,wq=wr:=⟨_,rfl⟩
          subst hwq;obtain⟨j,V4,hj,rfl,hd,hbv,hlv⟩:=hrel;have hbx:=Hbx.out.kp HMA.out.1 HMA.out.2.1 hd.kept
          by_cases hjm:j<m
          · obtain⟨y,hy⟩:∃y,(restL ls x.list)[j]?=some y:=⟨_,List.getElem?_eq_getElem (by rw [←Hml.out];exact hjm)⟩
            have hblf:b<f.blocks.length:=by rw [←Hnb.out];exact hbl
            have hfat:=fsC_at ls mem (b:=b) (i:=j) Hf.out;have hbl4:b<((bsUp ls mem f.blocks b).set b (insUp ls mem (blkOf f.blocks b) j)).length:=by rw [List.length_set,bsUp_len];exact hblf
            obtain⟨h1,aa,an,ac,hxa,-,-,hav,hat,hz,hA1,hA2⟩:=hd.insCells hfat hbl4 (i:=j) (y:=y) (by dsimp only;rw [fsC_blk ls mem hblf];exact insUp_at ls mem (by rw [←Hx.out];exact hy)) hlv;subst hxa;obtain⟨yo,yd,⟨r,yn⟩,⟨br,bn⟩,yf,yargs⟩:=y;dsimp only at hat;obtain⟨d0,d1,d2,d3,d4,d5,d6,d7⟩:=hat.get8;obtain⟨q1,-,zh⟩:=hd.listCell hfat hbl4 hbv;rw [hlv] at q1;have zg:=cell_lt d0;have m0:=hbx.m0;have l0:=hbx.l0;have Hskip:Hid (calmI ls ⟨yo,yd,⟨r,yn⟩,⟨br,bn⟩,yf,yargs⟩=false→∀wz,Below wq.heap.size wq wz→DoneSt W10 wz A TB (.slice (some ⟨FB,0,none⟩) fs.length fc2) (fsC ls mem T k b (j+1) f) V4):=fun hc wz hz=>by
             rw [fsC_skip ls mem (by rw [←Hx.out];exact hy) hc];exact hd.later hz
            have Hd:=hid hd;have Hy:=hid hy;have Hbx4:=hid hbx;have Hbv4:=hid hbv;have Hlv4:=hid hlv;have Hfat:=hid hfat;have Hbl4:=hid hbl4;have Hz:=hid hz;have HA1:=hid hA1;have HA2:=hid hA2;clear hd hbx hbv hlv hy hblf hfat hbl4 hav hat hz hA1 hA2;go_upto_region 21 with (fail)
            obtain⟨BB,hBB⟩:∃BB,BB=wq.heap.size:=⟨_,rfl⟩
            obtain⟨W7,hW7⟩:∃W7,W7=wq.alloc (.cells #[.int .i64 yo,.int .i64 yd,.bool r,.int .i64 yn,.bool br,.int .i64 bn,.int .i64 yf,.slice aa an ac] 80):=⟨_,rfl⟩
            have hl7:W7.heap[BB]?=some (.cells #[.int .i64 yo,.int .i64 yd,.bool r,.int .i64 yn,.bool br,.int .i64 bn,.int .i64 yf,.slice aa an ac] 80 (0,0)):=by rw [hW7,hBB];exact heap_alloc_new _ _
            have hb7:Below wq.heap.size wq W7:=by rw [hW7];(repeat (first | exact Below.refl _ _ | refine Below.alloc ?_ (by first|omega|(simp<;>omega)) _ | refine Below.setCell ?_ (by first|omega|(simp<;>omega)) _ | refine below_drewN ?_ _ | refine Below.drew ?_))
            rw [←hW7,←hBB];obtain⟨x0,x1,x2,x3,x4,x5,x6,x7⟩:=(cells_of (cs:=[_,_,_,_,_,_,_,_]) hl7).get8;rw [Nat.zero_add] at x1 x2 x3 x4 x5 x6 x7;have zB:=cell_lt x0;have m0:=cell_later' m0 hb7;have l0:=cell_later' l0 hb7;have q1:=cell_later' q1 hb7;have d0:=cell_later' d0 hb7;have d1:=cell_later' d1 hb7;have d2:=cell_later' d2 hb7;have d3:=cell_later' d3 hb7;have d4:=cell_later' d4 hb7;have d5:=cell_later' d5 hb7;have d6:=cell_later' d6 hb7;have d7:=cell_later' d7 hb7;have zM:=cell_lt m0;have zL:=cell_lt l0;have zh:=cell_lt q1;have zg:=cell_lt d0;have Hb7:=hid hb7;clear hBB hW7 hl7 hb7
            by_cases hop:yo=18
            · subst hop
              by_cases hin:inB r yn (mn:Int)=true
              · obtain⟨hr,hn0,hn1⟩:r=false∧0≤yn∧yn<(mn:Int):=by
                 unfold inB at hin;simp only [Bool.and_eq_true,Bool.not_eq_true',decide_eq_true_eq] at hin;exact hin
                subst hr;obtain⟨q,hq⟩:∃q:Nat,yn=(q:Int):=⟨yn.toNat,by omega⟩
                subst hq;have hqn:q<mn:=by omega
                have hql:q<ls.length:=by rw [Hlsl.out];exact hqn
                obtain⟨lb,lo,rfl,hlc⟩:=bool_at Hbx4.out.ls hql;have hlc:=cell_later' hlc Hb7.out;have zlb:=cell_lt hlc;have Hin:=hid hin;have Hcv:Hid (calmI ls ⟨18,yd,⟨false,(q:Int)⟩,⟨br,bn⟩,yf,yargs⟩=ls[q]):=by
                 show _=_;unfold calmI calm;dsimp only;rw [Hlsl.out,hin,Int.toNat_natCast,List.getD_eq_getElem?_getD,List.getElem?_eq_getElem hql];simp
                clear hin;obtain⟨u,hu⟩:∃u,u=ls[q]:=⟨_,rfl⟩
                rw [←hu] at hlc Hcv;clear hu;cases u with
                | true =>
                  have hqm:q<mem.length:=by rw [Hmem.out,←Hmn.out];exact hqn
                  obtain⟨mb,mo,rfl,hmc⟩:=int_at Hbx4.out.mem hqm;have hmc:=cell_later' hmc Hb7.out;obtain⟨mv,hmv⟩:∃mv,mv=mem[q]:=⟨_,rfl⟩
                  rw [←hmv] at hmc;have Hmv:=hid hmv;have HzF:Hid (∀V,Below wq.heap.size wq V→∀o,V.frozen? ⟨h1,o,none⟩=false):=fun V hV o=>(hV.frozen (p:=⟨h1,o,none⟩) (by dsimp only;have:=HA2.out;have:=(Hd.out.later (Below.refl _ _)).kept.size;omega)).trans (Hz.out o);clear hmv;go_upto_region 22 with
                   (go_at_call 39; refine (swithin_any _ _ _ _).mono ?_; rintro e w8 ⟨rfl, hb8⟩; rw [Hin.out]
                    have x0 := cell_later' x0 hb8
                    have x1 := cell_later' x1 hb8
                    have x2 := cell_later' x2 hb8
                    have x3 := cell_later' x3 hb8
                    have l0 := cell_later' l0 hb8
                    have m0 := cell_later' m0 hb8
                    have q1 := cell_later' q1 hb8
                    have hlc := cell_later' hlc hb8
                    have hmc := cell_later' hmc hb8
                    have d0 := cell_later' d0 hb8
                    have d1 := cell_later' d1 hb8
                    have d2 := cell_later' d2 hb8
                    have d3 := cell_later' d3 hb8
                    have d4 := cell_later' d4 hb8
                    have d5 := cell_later' d5 hb8
                    have d6 := cell_later' d6 hb8
                    have d7 := cell_later' d7 hb8
                    have hzz := HzF.out w8 (Hb7.out.trans (hb8.mono Hb7.out.size))
                    have z0 := hzz (j * 8); have z1 := hzz (j * 8 + 1); have z2 := hzz (j * 8 + 2); have z3 := hzz (j * 8 + 3); have z4 := hzz (j * 8 + 4); have z5 := hzz (j * 8 + 5); have z6 := hzz (j * 8 + 6); have z7 := hzz (j * 8 + 7)
                    have zB := cell_lt x0
                    have zg := cell_lt d0
                    have zh := cell_lt q1
                    have zM := cell_lt m0
                    have zmb := cell_lt hmc
                    have Hb8 := hid hb8
                    clear hb8 hzz)
                  clear x0 x2 x4 x5 x6 x7 l0 hlc zL zlb hxn9 hnb9 hmn9 hT10;go_still_tail 16,(by kernel_rfl);change wpList _ _ _ _ _ w8.drew;obtain⟨wz,hwz⟩:∃wz:World,wz=w8.drew:=⟨_,rfl⟩
                  have hbz:Below w8.heap.size w8 wz:=by rw [hwz];exact (Below.refl _ _).drew
                  rw [←hwz];have d0:=cell_later' d0 hbz;have d1:=cell_later' d1 hbz;have d2:=cell_later' d2 hbz;have d3:=cell_later' d3 hbz;have d4:=cell_later' d4 hbz;have d5:=cell_later' d5 hbz;have d6:=cell_later' d6 hbz;have d7:=cell_later' d7 hbz;have hbq:Below wq.heap.size wq wz:=Hb7.out.trans ((Hb8.out.trans (hbz.mono Hb8.out.size)).mono Hb7.out.size);have hzz:=HzF.out wz hbq;have z0:=hzz (j * 8);have z1:=hzz (j * 8+1);have z2:=hzz (j * 8+2);have z3:=hzz (j * 8+3);have z4:=hzz (j * 8+4);have z5:=hzz (j * 8+5);have z6:=hzz (j * 8+6);have z7:=hzz (j * 8+7);have zg:=cell_lt d0;have Hbq:=hid hbq;clear hwz hbz hbq hzz x1 x3 m0 q1 hmc zB zh zM zmb;go_wp2_with fail;have hblf:b<f.blocks.length:=by rw [←Hnb.out];exact hbl
                  have hyr:(restL ls (blkOf f.blocks b).list)[j]?=some ⟨18,yd,⟨false,(q:Int)⟩,⟨br,bn⟩,yf,yargs⟩:=by rw [←Hx.out];exact Hy.out
                  have hmvn:(copyI mem ⟨18,yd,⟨false,(q:Int)⟩,⟨br,bn⟩,yf,yargs⟩).a.n=mv:=by
                   show mem.getD (Int.toNat (q:Int)) 0=mv;rw [Int.toNat_natCast,List.getD_eq_getElem?_getD,List.getElem?_eq_getElem hqm,Hmv.out];rfl
                  have hdone:doneI ls mem ⟨18,yd,⟨false,(q:Int)⟩,⟨br,bn⟩,yf,yargs⟩=copyI mem ⟨18,yd,⟨false,(q:Int)⟩,⟨br,bn⟩,yf,yargs⟩:=by
                   unfold doneI;rw [Hcv.out];rfl
                  obtain⟨V5,hd5,hb5,hl5⟩:=(Hd.out.later Hbq.out).setIns (z:=copyI mem ⟨18,yd,⟨false,(q:Int)⟩,⟨br,bn⟩,yf,yargs⟩) (i:=j) (b:=b) (h1:=h1) (n:=m) (c:=xc) Hfat.out Hbl4.out (by dsimp only;rw [fsC_blk ls mem hblf,insUp_len,←Hx.out,←Hml.out];exact hjm) Hlv4.out rfl;have hst:=fsC_set ls mem (fs:=T) (k:=k) hblf hyr;rw [hdone] at hst;rw [hst,hmvn] at hd5;have Hd5:=hid hd5;have Hb5':=hid (hb5.trans Hbv4.out);have Hl5':=hid (hl5.trans Hlv4.out);clear hd5 hb5 hl5 hst hdone hmvn hyr;go_roundw
                  case rel=>exact⟨j+1,V5,by omega,by go_num,Hd5.out,Hb5'.out,Hl5'.out⟩
                  case measure=>simp [intOf];omega
                | false =>
                  go_wp2_with
                   (go_at_call 39; refine (swithin_any _ _ _ _).mono ?_; rintro e w8 ⟨rfl, hb8⟩; rw [Hin.out]
                    have x0 := cell_later' x0 hb8
                    have x2 := cell_later' x2 hb8
                    have x3 := cell_later' x3 hb8
                    have l0 := cell_later' l0 hb8
                    have hlc := cell_later' hlc hb8
                    have zB := cell_lt x0
                    have Hb8 := hid hb8
                    clear hb8)
                  go_roundw
                  case rel=>exact⟨j+1,V4,by omega,by go_num,Hskip.out Hcv.out _ (Hb7.out.trans (Hb8.out.mono Hb7.out.size)),Hbv4.out,Hlv4.out⟩
                  case measure=>simp [intOf];omega
              · have hin0:inB r yn (mn:Int)=false:=by simpa using hin
                have Hcv:Hid (calmI ls ⟨18,yd,⟨r,yn⟩,⟨br,bn⟩,yf,yargs⟩=false):=by
                 show _=_;unfold calmI calm;dsimp only;rw [Hlsl.out,hin0];simp
                have Hin:=hid hin0;clear hin hin0
                go_wp2_with
                 (go_at_call 39;refine (swithin_any _ _ _ _).mono ?_;rintro e w8 ⟨rfl,hb8⟩;rw [Hin.out];have Hb8:=hid hb8;clear hb8)
                go_roundw
                case rel=>exact⟨j+1,V4,by omega,by go_num,Hskip.out Hcv.out _ (Hb7.out.trans (Hb8.out.mono Hb7.out.size)),Hbv4.out,Hlv4.out⟩
                case measure=>simp [intOf];omega
            · have Hcv:Hid (calmI ls ⟨yo,yd,⟨r,yn⟩,⟨br,bn⟩,yf,yargs⟩=false):=by
               show _=_;unfold calmI calm;simp [hop]
              go_wp2_with fail;go_roundw
              case rel=>exact⟨j+1,V4,by omega,by go_num,Hskip.out Hcv.out _ Hb7.out,Hbv4.out,Hlv4.out⟩
              case measure=>simp [intOf];omega
          · have hjm2:j=m:=by omega
            have hblf:b<f.blocks.length:=by rw [←Hnb.out];exact hbl
            have hdn:DoneSt W10 wq A TB (.slice (some ⟨FB,0,none⟩) fs.length fc2) (fsB ls mem T k (b+1) f) V4:=by
             rw [←fsC_close ls mem hblf (i:=j) (by rw [hjm2,Hml.out,Hx.out];exact Nat.le_refl _)];exact hd
            have Hdn:=hid hdn;have Hbvn:=hid hbv;clear hd hbx hdn hbv hlv hjm2;go_wp2_with fail;go_roundw
            case rel=>exact⟨b+1,V4,by omega,by go_num,Hdn.out,Hbvn.out⟩
            case measure=>simp [intOf];omega
       · have hdn:DoneSt W10 wp A TB (.slice (some ⟨FB,0,none⟩) fs.length fc2) (fsUp ls mem T (k+1)) V2:=by
          rw [←fsB_close ls mem Hf.out (b:=b) (by rw [←Hnb.out];omega)];exact hd
         have Hdn:=hid hdn;clear hd hbx hdn hbv;go_wp2_with fail;go_roundw
         case rel=>exact⟨k+1,V2,by omega,by go_num,Hdn.out⟩
         case measure=>simp [intOf];omega
    · have hkn:k=fs.length:=by omega
      rw [fsUp_all ls mem (by rw [HTl.out];omega)] at hd;obtain⟨T2,hT2⟩:∃T2,T2=T.map (doneFn ls mem):=⟨_,rfl⟩
      rw [←hT2] at hd;have hmi:∀x∈mem,I64 x:=by rw [Hmem.out];exact Hv5.out.2
      have hck2:checkF ⟨gs,T2⟩=(0,0):=by rw [hT2];exact done_check HckT.out HnumT.out hmi
      have hnum2:NumU ⟨gs,T2⟩:=by rw [hT2];exact done_num HnumT.out hmi
      have hT2l:T2.length=fs.length:=by rw [hT2,List.length_map];exact HTl.out
      have hT2s:T2.map tidyFn=stillFs gs fs:=by
       unfold stillFs;rw [hT2,Hmem.out,Hls.out,HT.out]
      have hTBwo:TB<wo.heap.size:=zT
      have hfr := hd.uni.read (fun f hf => by
       obtain ⟨i, hi, rfl⟩ := List.getElem_of_mem hf
       obtain ⟨-, -, p1, p2, p3, p4⟩ := fn_td (u := ⟨gs, T2⟩) hck2 hnum2 (List.getElem?_eq_getElem hi)
       exact ⟨hnum2 _ hf, ⟨by omega, by omega⟩, ⟨by omega, by omega⟩⟩)
      obtain⟨hw10,-,hO10,hX10⟩:=Hst4.out W10 (Hb8.out.trans (Hb810.out.mono Hb8.out.size));have hwA:w.heap.size≤A∧UO<A∧UX<A:=by
       have h1:=HA.out.1;have h2:=Hb8.out.size;have h3:=Hb4.out.size;have h4:=(Array.getElem?_eq_some_iff.1 hO10).1;have h5:=Hz4.out;have h6:=Hb3.out.size;have h7:=Hw2.out.size;have h8:=HUs.out;have h9:=Hb2.out.size;omega
      have hwo:Below w.heap.size w wo:=hw10.trans (hd.kept.below fun b hb=>⟨Nat.lt_of_lt_of_le hb hw10.size,.inl (Nat.lt_of_lt_of_le hb hwA.1)⟩);have hOo:=(hd.kept.block UO (Array.getElem?_eq_some_iff.1 hO10).1 (.inl hwA.2.1)).trans hO10;have hXo:=(hd.kept.block UX (Array.getElem?_eq_some_iff.1 hX10).1 (.inl hwA.2.2)).trans hX10;have hEnd:=tidy_ok (S:=fun b=>b<wo.heap.size) go gc2 (some ⟨FB,0,none⟩) fs.length fc2 gs T2 wo (hbx.gs.mono rGlobal_mono (fun b hb=>by have:=HMA.out;omega) (Stays.refl _ _)) (hfr.mono rFunc_mono (fun b hb=>hb.2) (Stays.refl _ _)) hT2l (Ways.below Hww.out hwo) (fun b hb=>hb) hck2;rw [hT2s] at hEnd;have HE1:=hid hEnd;have Hst5:Hid (∀V,Below wo.heap.size wo V→Below w.heap.size w V∧V.heap[UO]?=some (.cells #[.slice none 0 0,.slice none 0 0] 25 (0,0))∧V.heap[UX]?=some (.cells #[.int .i64 0,.int .i64 0] 27 (0,0))) :=
       fun V hV=>⟨hwo.trans (hV.mono hwo.size),(hV.block UO (Array.getElem?_eq_some_iff.1 hOo).1).trans hOo,(hV.block UX (Array.getElem?_eq_some_iff.1 hXo).1).trans hXo⟩
      have hUW:UO<wo.heap.size∧UX<wo.heap.size:=⟨(Array.getElem?_eq_some_iff.1 hOo).1,(Array.getElem?_eq_some_iff.1 hXo).1⟩
      have HUW:=hid hUW;have zf:w.heap.size≤wo.heap.size:=hwo.size;clear hd hbx hT2 hmi hck2 hnum2 hT2l hT2s hTBwo hfr hw10 hO10 hX10 hwA hwo hOo hXo hEnd hUW
      go_wp2_with
       (go_at_call 15; refine HE1.out.mono ?_; rintro e w9' ⟨ga2, gc3, fa2, fc3, rfl, hg9, hf9, hb9⟩
        obtain ⟨Hw9, s1, s2⟩ := Hst5.out w9' hb9
        have S1 := hid s1
        have S2 := hid s2
        have Hw9 := hid Hw9
        have Hg9 := hid hg9
        have Hf9 := hid hf9
        have f0 := thawed s1 0
        have f1 := thawed s1 1
        have g0 := thawed s2 0
        have g1 := thawed s2 1
        obtain ⟨b0, b1⟩ := (cells_of (cs := [_, _]) s1).get2
        obtain ⟨d0, d1⟩ := (cells_of (cs := [_, _]) s2).get2
        rw [Nat.zero_add] at b1 d1
        have zO2 : UO < w9'.heap.size := cell_lt b0
        have zX2 : UX < w9'.heap.size := cell_lt d0
        have hne2 : ¬ UX = UO := fun e => hne e.symm
        clear hb9 hg9 hf9 s1 s2)
      have hsix:=four_cells (.slice ga2 gs.length gc3) (.slice fa2 fs.length fc3) (.int .i64 0) (.int .i64 0) (cells_of (cs:=[_,_]) S1.out) (cells_of (cs:=[_,_]) S2.out) hne;have hb6:Below w.heap.size w (fourW w9' UO UX (.slice ga2 gs.length gc3) (.slice fa2 fs.length fc3) (.int .i64 0) (.int .i64 0)):=below_fourW Hw9.out Hlo.out.1 Hlo.out.2;have hh:∀b,b≠UO→b≠UX→(fourW w9' UO UX (.slice ga2 gs.length gc3) (.slice fa2 fs.length fc3) (.int .i64 0) (.int .i64 0)).heap[b]?=w9'.heap[b]?:=fun b h1 h2=>four_heap h1 h2;have hs6:(fourW w9' UO UX (.slice ga2 gs.length gc3) (.slice fa2 fs.length fc3) (.int .i64 0) (.int .i64 0)).heap.size=w9'.heap.size:=by simp [fourW,World.setCell]
      have hiv:∀b,iv wo.heap.size w9'.heap.size b→b≠UO∧b≠UX:=fun b hb=>by have:=hb.1;have:=HUW.out;omega
      refine bodyPost_ret (unit_res rfl rfl rfl hsix.1 hsix.2) rfl (Hpost.out _ _ ga2 gc3 fa2 fc3 hb6 rfl ?_ ?_)
      · exact Hg9.out.mono rGlobal_mono (fun b hb=>⟨by have:=hb.1;omega,Nat.lt_of_lt_of_eq hb.2 hs6.symm⟩) (stays_at fun b hb _=>hh b (hiv b hb).1 (hiv b hb).2)
      · exact Hf9.out.mono rFunc_mono (fun b hb=>⟨by have:=hb.1;omega,Nat.lt_of_lt_of_eq hb.2 hs6.symm⟩) (stays_at fun b hb _=>hh b (hiv b hb).1 (hiv b hb).2)
 · have hq:((decide (c<0)||decide (0<c))||(decide (d<0)||decide (0<d)))=true:=by rw [Bool.eq_iff_iff];simp;omega
   have Hpost:Hid (∀e w',Below w.heap.size w w'→e = .returned (.tuple #[.agg #[.slice none 0 0,.slice none 0 0],.agg #[.int .i64 c,.int .i64 d]])→StillPost gs fs w e w'):=fun e w' h1 h2=>by
    refine⟨h1,fun _=>?_,fun h=>?_⟩
    · rw [Hcd.out];exact h2
    · rw [Hcd.out] at h;exact absurd h hc0
   have s1:=S1.out;have s2:=S2.out;have f0:=thawed s1 0;have f1:=thawed s1 1;have g0:=thawed s2 0;have g1:=thawed s2 1;obtain⟨b0,b1⟩:=(cells_of (cs:=[_,_]) s1).get2;obtain⟨d0,d1⟩:=(cells_of (cs:=[_,_]) s2).get2;rw [Nat.zero_add] at b1 d1;have zO2:UO<W2.heap.size:=cell_lt b0;have zX2:UX<W2.heap.size:=cell_lt d0;obtain⟨hn3,hn4,hn5,hn6⟩:=Hn3.out;have hne2:¬UX=UO:=by omega
   clear hc0 s1 s2;go_wp2_with fail;go_region;have hsix:=four_cells (.slice none 0 0) (.slice none 0 0) (.int .i64 c) (.int .i64 d) (cells_of (cs:=[_,_]) S1.out) (cells_of (cs:=[_,_]) S2.out) hne;have hb6:Below w.heap.size w (fourW W2 UO UX (.slice none 0 0) (.slice none 0 0) (.int .i64 c) (.int .i64 d)):=below_fourW Hw2.out Hlo.out.1 Hlo.out.2;obtain⟨W6,hW6⟩:∃W6,W6=fourW W2 UO UX (.slice none 0 0) (.slice none 0 0) (.int .i64 c) (.int .i64 d):=⟨_,rfl⟩
   rw [←hW6] at hsix hb6;unfold fourW at hW6;rw [←hW6];have Hsix:=hid hsix;have Hb6:=hid hb6;clear hW6 hsix hb6;go_wp2_with fail;refine bodyPost_ret (unit_res rfl rfl rfl (fun j v hj=>Hsix.out.1 j v hj) (fun j v hj=>Hsix.out.2 j v hj)) rfl (Hpost.out _ _ Hb6.out.drew rfl)

end Go.Proofs.YtnkogppgacappaaGreatDoor
