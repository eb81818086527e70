import Derived.Test.YtgekbfgplclmeaaDoorPOnce0
import Derived.Test.YtgekbfgplclmeaaDoorPCheck
import Derived.Deep.RegionHeld3
import Derived.Test.YtgekbfgplclmeaaDoorPCopy
/- The heap of blocks in memory; its five methods' contracts. The heap of blocks: Swap and Pop. container/heap over the heap of blocks. container/heap's Init and Pop over the heap of blocks. The contract of weigh.lay. The contract of weigh.Lay. turnerysame.Fault, turnerysame.Ints, turneryref6.weighIn. turnerysame.Vals, Ins, Block, Func, Globals, Units, None, where both read the same: true. turnerysame.Globals, Units, None, where both read the same: true. -/
namespace Go.Proofs.YtgekbfgplclmeaaDoor
section
open Go.RowKit
end
section
open Go.RowKit
end
section
open Go.RowKit
end
section
open Go.RowKit
end
section
open Go.RowKit
theorem aj8:(Tryd.prog.info? 4).map (fun i=>(i.zero,i.size,i.bytes))=some (some (.bool false),1,1):=by kernel_rfl
end
section
open Go.RowKit
theorem acK {u:aax}(h:(aak u).1=0):u.globals.length<=10∧u.funcs.length<=10∧(∀k,acp u.globals k=0)∧(∀k,abp u.globals u.funcs k=0)∧(∀k,aa7 u.funcs k=0):=by
 unfold aak at h
 by_cases h1:10<u.globals.length∨10<u.funcs.length
 . rw [if_pos h1] at h;simp at h
 rw [if_neg h1] at h
 by_cases h2:acd (acp u.globals) u.globals.length<u.globals.length
 . rw [if_pos h2] at h;exact absurd h (abP h2)
 rw [if_neg h2] at h
 by_cases h3:acd (abp u.globals u.funcs) u.funcs.length<u.funcs.length
 . rw [if_pos h3] at h;exact absurd h (abP h3)
 rw [if_neg h3] at h
 by_cases h4:acd (aa7 u.funcs) u.funcs.length<u.funcs.length
 . rw [if_pos h4] at h;exact absurd h (abP h4)
 refine⟨by omega,by omega,fun k=>?_,fun k=>?_,fun k=>?_⟩
 . by_cases hk:k<u.globals.length
   . exact aem h2 k hk
   . unfold acp;rw [List.getElem?_eq_none (by omega)]
 . by_cases hk:k<u.funcs.length
   . exact aem h3 k hk
   . unfold abp;rw [List.getElem?_eq_none (by omega)]
 . by_cases hk:k<u.funcs.length
   . exact aem h4 k hk
   . unfold aa7;rw [List.getElem?_eq_none (by omega)]
theorem agT {u:aax}(h:(aak u).1=0){k:Nat}{f:aal}(hf:u.funcs[k]?=some f) :
 1<=f.blocks.length∧f.blocks.length<=40∧(∀(i:Nat) (x:aad),f.blocks[i]?=some x->adp f.blocks.length f.regs x.fin=0):=by
 obtain⟨-,-,-,h2,h3⟩:=acK h;have g2:=h2 k;have g3:=h3 k;unfold abp at g2;unfold aa7 at g3;rw [hf] at g2 g3;obtain⟨-,-,-,-,-,-,e1,e2,-⟩:=acZ g2;refine⟨e1,e2,fun i x hx=>?_⟩;dsimp only at g3;unfold ab6 at g3
 by_cases h4:aba (adS f.regs f.blocks) f.blocks.length=0
 . have h5:=ab8 h4 i (Aae.1 hx).1
   unfold adS at h5;rw [hx] at h5;exact h5
 . rw [if_pos h4] at g3;exact absurd g3 h4
theorem agL {S:Nat->Prop}{w:World}{p:Addr}(v:Value)(h:∀b,S b->b≠p.block):aaD S w (w.setCell p v):=fun b o x hb hc=>by
 rw [World.cell?_of_block (w:=w) (a:=⟨b,o,none⟩) (Below.heap_setCell _ _ _ _ (h b hb))];exact hc
end
section
open Go.RowKit
theorem abq {S:Nat->Prop}{w:World}{a:Option Addr}{n c:Nat}{l:List Int}(h:SlAt S w 1 abe (.slice a n c) l){t:Nat}(ht:t<l.length):∃b off,a=some ⟨b,off,none⟩∧w.cell? ⟨b,off+t,none⟩=some (.int .i64 l[t]):=by
 obtain⟨b,off,cs,ha,-,⟨rfl,-⟩,-,ad⟩:=h.get ht;have d:=ad.get1;rw [Aam] at d;exact⟨b,off,ha,d⟩
end
section
open Go.RowKit
theorem amx {S:Nat->Prop}{w:World}{a:Option Addr}{n c:Nat}{l:List ab3}(h:SlAt S w 2 aeL (.slice a n c) l){k:Nat}(hk:k<l.length) :
 ∃b off,a=some ⟨b,off,none⟩∧w.cell? ⟨b,off+k * 2,none⟩=some (.bool l[k].reg)∧w.cell? ⟨b,off+k * 2+1,none⟩=some (.int .i64 l[k].n):=by
 obtain⟨b,off,cs,ha,-,⟨rfl,-⟩,-,ad⟩:=h.get hk;obtain⟨c0,c1⟩:=ad.get2;exact⟨b,off,ha,c0,c1⟩
end
section
open Go.RowKit
end
end Go.Proofs.YtgekbfgplclmeaaDoor
