import Derived.Test.YtnkfdeiigplhoaaGreatDoorPChk3
/- The readings, opened: each slice value written out. Two structs held against each other: api.Val and api.Fault. -/
namespace Go.Proofs.YtnkfdeiigplhoaaGreatDoor
section
open Go.RowKit
variable {S:Nat->Prop}{w:World}{cs:List Value}
theorem aaJ.opens{x:aad}(h:aaJ S w cs x) :
 ∃pa pc la lc ta tc,cs=[.slice pa x.phis.length pc,.slice la x.list.length lc,.int .i64 x.fin.kind,.bool x.fin.on.reg,.int .i64 x.fin.on.n,.slice ta x.fin.to.length tc] ∧
   SlAt S w 2 ag4 (.slice pa x.phis.length pc) x.phis∧SlAt S w 8 ajY (.slice la x.list.length lc) x.list∧SlAt S w 1 aaO (.slice ta x.fin.to.length tc) x.fin.to ∧
   x.phis.length<=9223372036854775807∧x.list.length<=9223372036854775807∧x.fin.to.length<=9223372036854775807∧I64 x.fin.kind∧I64 x.fin.on.n:=by
 obtain⟨p,l,e,rfl,hp,hl,t,rfl,ht,h1,h2⟩:=h;obtain⟨pa,pc,rfl,h3⟩:=hp.val;obtain⟨la,lc,rfl,h4⟩:=hl.val;obtain⟨ta,tc,rfl,h5⟩:=ht.val;exact⟨pa,pc,la,lc,ta,tc,rfl,hp,hl,ht,h3,h4,h5,h1,h2⟩
theorem aaZ.opens{x:aao}(h:aaZ S w cs x) :
 ∃ba bc,cs=[.string x.name,.int .i64 x.params,.int .i64 x.regs,.slice ba x.blocks.length bc]∧SlAt S w 6 aaJ (.slice ba x.blocks.length bc) x.blocks ∧
   x.blocks.length<=9223372036854775807∧I64 x.params∧I64 x.regs:=by
 obtain⟨v,rfl,hb,h1,h2⟩:=h;obtain⟨pa,pc,rfl,h3⟩:=hb.val;exact⟨pa,pc,rfl,hb,h3,h1,h2⟩
theorem ajY.opens{x:ad8}(h:ajY S w cs x) :
 ∃aa ac,cs=[.int .i64 x.op,.int .i64 x.dst,.bool x.a.reg,.int .i64 x.a.n,.bool x.b.reg,.int .i64 x.b.n,.int .i64 x.fn,.slice aa x.args.length ac] ∧
   SlAt S w 2 ady (.slice aa x.args.length ac) x.args∧x.args.length<=9223372036854775807∧I64 x.op∧I64 x.dst∧I64 x.a.n∧I64 x.b.n∧I64 x.fn:=by
 obtain⟨v,rfl,hb,h1⟩:=h;obtain⟨pa,pc,rfl,h3⟩:=hb.val;exact⟨pa,pc,rfl,hb,h3,h1⟩
theorem ag4.opens{x:afu}(h:ag4 S w cs x) :
 ∃aa ac,cs=[.int .i64 x.dst,.slice aa x.src.length ac]∧SlAt S w 2 ady (.slice aa x.src.length ac) x.src∧x.src.length<=9223372036854775807∧I64 x.dst:=by
 obtain⟨v,rfl,hb,h1⟩:=h;obtain⟨pa,pc,rfl,h3⟩:=hb.val;exact⟨pa,pc,rfl,hb,h3,h1⟩
theorem aaE.opens{x:aas}(h:aaE S w cs x) :
 ∃aa ac,cs=[.string x.name,.int .i64 x.size,.slice aa x.init.length ac]∧SlAt S w 1 aaO (.slice aa x.init.length ac) x.init∧x.init.length<=9223372036854775807∧I64 x.size:=by
 obtain⟨v,rfl,hb,h1⟩:=h;obtain⟨pa,pc,rfl,h3⟩:=hb.val;exact⟨pa,pc,rfl,hb,h3,h1⟩
variable {w':World}{v:Value}
theorem SlAt.later{α:Type}{r:Rp α}(hr:r.Mono){sz:Nat}{l:List α}(h:SlAt S w sz r v l)(hb:Below w.heap.size w w'):SlAt S w' sz r v l :=
 h.mono hr (fun _ h=>h) (aav.below' hb)
theorem aau{B:Nat}(hb:Below B w w'):(∀b o,b<B->w'.cell? ⟨b,o,none⟩=w.cell? ⟨b,o,none⟩)∧(∀b o,b<B->w'.frozen? ⟨b,o,none⟩=w.frozen? ⟨b,o,none⟩) :=
 ⟨fun b o h=>hb.cell (p:=⟨b,o,none⟩) h,fun b o h=>hb.frozen (p:=⟨b,o,none⟩) h⟩
variable {b:Nat}
theorem aaj.later{off:Nat}(h:aaj w b off cs)(hb:Below w.heap.size w w'):aaj w' b off cs:=fun j v hj=>by
 have h1:=h j v hj;rw [hb.cell (p:=⟨b,off+j,none⟩) (aac h1)];exact h1
theorem aab{o:Nat}(h:w.cell? ⟨b,o,none⟩=some v)(hb:Below w.heap.size w w'):w'.cell? ⟨b,o,none⟩=some v:=by
 rw [hb.cell (p:=⟨b,o,none⟩) (aac h)];exact h
variable {a:Int}
theorem aoL{b:Int}(h:a=b):(decide (a<b)||decide (b<a))=false:=by subst h;simp
theorem al5{a:Nat}(h:a=b):(decide (a<b)||decide (b<a))=false:=by subst h;simp
theorem ad1{b:Int}(h:a≠b):(decide (a<b)||decide (b<a))=true:=by simp;omega
theorem al6{a:Nat}(h:a≠b):(decide (a<b)||decide (b<a))=true:=by simp;omega
theorem aia{b:Int}(h:a=b):(decide (a<=b)&&decide (b<=a))=true:=by subst h;simp
theorem aoy{a:Nat}(h:a=b):(decide (a<=b)&&decide (b<=a))=true:=by subst h;simp
theorem ahl{b:Int}(h:a≠b):(decide (a<=b)&&decide (b<=a))=false:=by simp;omega
theorem apH{a:Nat}(h:a≠b):(decide (a<=b)&&decide (b<=a))=false:=by simp;omega
theorem aaj.nil(w:World)(b o:Nat):aaj w b o []:=fun j v hj=>by simp at hj
theorem aaj.cons{o:Nat}{r:List Value}(h:w.cell? ⟨b,o,none⟩=some v)(hr:aaj w b (o+1) r):aaj w b o (v :: r):=fun j u hj=>by
 cases j with
 | zero=>cases hj;exact h
 | succ j=>have:=hr j u hj;rw [Nat.add_assoc,Nat.add_comm 1 j] at this;exact this
end
section
open Go.RowKit
@[go_sem ↓] theorem aoT (r s:Bool) (n m:Int) (w:World) :
 (binOp .neq 55 (.agg #[.bool r,.int .i64 n]) (.agg #[.bool s,.int .i64 m])).run Tryz.prog w = .ok (.bool ((r != s)||(decide (n<m)||decide (m<n)))) w:=by
  cases r <;> cases s <;> simp [binOp,Op.equal,Op.maxDepth,go_sem,Tryz.underlying55]
  all_goals
   split
   . have:n<m∨m<n:=by omega
     rcases this with h | h <;> simp [h]
   . have h1:¬n<m:=by omega
     have h2:¬m<n:=by omega
     simp [h1,h2]
@[go_sem ↓] theorem aoS (r s:Bool) (n m:Int) (w:World) :
 (binOp .eql 55 (.agg #[.bool r,.int .i64 n]) (.agg #[.bool s,.int .i64 m])).run Tryz.prog w = .ok (.bool ((r == s)&&(decide (n<=m)&&decide (m<=n)))) w:=by
  cases r <;> cases s <;> simp [binOp,Op.equal,Op.maxDepth,go_sem,Tryz.underlying55]
  all_goals
   split
   . have:¬n<=m∨¬m<=n:=by omega
     rcases this with h | h <;> simp [h]
   . have h1:n<=m:=by omega
     have h2:m<=n:=by omega
     simp [h1,h2]
@[go_sem ↓] theorem anK (a b c d:Int) (w:World) :
 (binOp .neq 31 (.agg #[.int .i64 a,.int .i64 b]) (.agg #[.int .i64 c,.int .i64 d])).run Tryz.prog w = .ok (.bool ((decide (a<c)||decide (c<a))||(decide (b<d)||decide (d<b)))) w:=by
  simp [binOp,Op.equal,Op.maxDepth,go_sem,Tryz.underlying31]
  repeat' split
  all_goals
   refine congrArg (fun b=>Result.ok (Value.bool b) w) ?_;rw [Aa0];simp;omega
@[go_sem ↓] theorem anH (a b c d:Int) (w:World) :
 (binOp .eql 31 (.agg #[.int .i64 a,.int .i64 b]) (.agg #[.int .i64 c,.int .i64 d])).run Tryz.prog w = .ok (.bool ((decide (a<=c)&&decide (c<=a))&&(decide (b<=d)&&decide (d<=b)))) w:=by
  simp [binOp,Op.equal,Op.maxDepth,go_sem,Tryz.underlying31]
  repeat' split
  all_goals
   refine congrArg (fun b=>Result.ok (Value.bool b) w) ?_;rw [Aa0];simp;omega
end
end Go.Proofs.YtnkfdeiigplhoaaGreatDoor
