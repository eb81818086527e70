import Derived.Test.YtgekbfgplclmeaaDoorPRefA
/- calls.Copy: a unit of the call's own memory. -/
namespace Go.Proofs.YtgekbfgplclmeaaDoor
open Go.RowKit
theorem aiR {S:Nat->Prop}{w:World}{a:Option Addr}{n c:Nat}{l:List aat}(h:SlAt S w 3 abd (.slice a n c) l){k:Nat}(hk:k<l.length) :
 ∃b off ia ic,a=some ⟨b,off,none⟩∧aaj w b (off+k * 3) [.string l[k].name,.int .i64 l[k].size,.slice ia l[k].init.length ic]∧SlAt S w 1 abe (.slice ia l[k].init.length ic) l[k].init∧I64 l[k].size:=by
 obtain⟨b,off,cs,ha,-,hr,-,ad⟩:=h.get hk;obtain⟨ia,ic,rfl,h1,-,h2⟩:=hr.opens;exact⟨b,off,ia,ic,ha,ad,h1,h2⟩
theorem acM {S:Nat->Prop}{w:World}{a:Option Addr}{n c:Nat}{l:List aal}(h:SlAt S w 4 abT (.slice a n c) l){k:Nat}(hk:k<l.length) :
 ∃b off xa xc,a=some ⟨b,off,none⟩∧aaj w b (off+k * 4) [.string l[k].name,.int .i64 l[k].params,.int .i64 l[k].regs,.slice xa l[k].blocks.length xc]∧SlAt S w 6 aa2 (.slice xa l[k].blocks.length xc) l[k].blocks∧I64 l[k].params∧I64 l[k].regs:=by
 obtain⟨b,off,cs,ha,-,hr,-,ad⟩:=h.get hk;obtain⟨xa,xc,rfl,h1,-,h2,h3⟩:=hr.opens;exact⟨b,off,xa,xc,ha,ad,h1,h2,h3⟩
structure al0 (f:aal):Prop where
 blocks:f.blocks.length<=1048576
 each:∀x∈f.blocks,alZ x
end Go.Proofs.YtgekbfgplclmeaaDoor
