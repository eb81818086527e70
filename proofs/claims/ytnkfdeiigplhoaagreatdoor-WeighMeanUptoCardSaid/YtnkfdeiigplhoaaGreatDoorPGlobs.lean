import Derived.Test.YtnkfdeiigplhoaaGreatDoorPQuietO
/- append of a make: a row of the call's own, grown by zeros. No function of the program in sight. still.words: the words of the memory, as they are at first. The memory of a checked unit. -/
namespace Go.Proofs.YtnkfdeiigplhoaaGreatDoor
section
open Go.RowKit
theorem aca(z:Value)(m:Nat):Builtin.zeroCells #[z] m=(List.replicate m z).toArray:=by
 apply Array.ext
 . simp [Builtin.zeroCells]
 . intro i h1 h2
   simp [Builtin.zeroCells,Nat.mod_one]
theorem aka {m:Nat}(h:m<=9223372036854775807):IntKind.i64.wrap (m:Int)=(m:Int):=IntWalk.i64_in _ (by omega)
section
variable {P : Program} (w : World)
theorem afs (base : Nat) (t u ty e : TypeId) (i : TypeInfo) (z : Value) (bytes : Nat) (ht : P.underlying t = some (.slice e)) (hu : P.underlying u = some (.int .i64)) (hi : P.info? e = some i) (hz : i.zero = some z)
 (af:i.size=1) (aB:i.bytes=bytes) (ay:z.cells=#[z]) (aF:z.oneCell'=true)
 (v:Value) (n:Nat) (xs:List Value) (ad:w.ownsRow base e 1 v n xs) (m:Nat)
 (az:n+m<=maxLen) (ae:(n+m) * bytes<=140737488355328) (an:base<=w.heap.size) :
 ∃v' w',(Builtin.append_ #[t,u] ty #[v,.int .i64 (m:Int)]).run P w = .ok v' w'∧w'.ownsRow base e 1 v' (n+m) (xs++List.replicate m z)∧w.grownBy w' v.ownBlock ∧
   (v' = .slice none 0 0↔v = .slice none 0 0∧m=0)∧(∀k,v'.ownBlock=some k->v.ownBlock=some k∨k=w.heap.size):=by
 subst aB;have ax:n+m<=9223372036854775807:=by simp only [maxLen] at az;omega
 have av:=aka (m:=m) (by omega);have aJ:m * i.bytes<=140737488355328:=Aag (Nat.mul_le_mul_right _ (Nat.le_add_left m n)) ae;have aq:¬(281474976710656<(m:Int) * (i.bytes:Int)):=by
  have:((m * i.bytes:Nat):Int)=(m:Int) * (i.bytes:Int):=by simp
  omega
 have hlen:(xs++List.replicate m z).length=(n+m) * 1:=by rw [Aai,ad.1,Aa6];omega
 have aw:¬((m:Int)<0):=by omega
 have ao:IntKind.i64.wrap 0=0:=aka (m:=0) (by omega);have aI:∀W:World,(if m=0 then (pure #[]:Sem (Array Value)) else pure (Builtin.zeroCells #[z] m)).run P W = .ok (List.replicate m z).toArray W:=fun W=>by
  by_cases ak:m=0
  . subst ak;rfl
  . rw [if_neg ak,aca];rfl
 have grown:∀(old:Nat),old<n+m->∀(row:Option Nat),
  (w.drew.alloc (.cells (xs.toArray ++ (List.replicate m z).toArray ++ Builtin.zeroCells #[z] (grownCap w (n + m) old e - (n + m))) e)).ownsRow base e 1
    (.slice (some ⟨w.heap.size,0,none⟩) (n+m) (grownCap w (n+m) old e)) (n+m) (xs++List.replicate m z) ∧
  w.grownBy (w.drew.alloc (.cells (xs.toArray++(List.replicate m z).toArray++Builtin.zeroCells #[z] (grownCap w (n+m) old e - (n+m))) e)) row:=by
  intro old ho row;have aD:=grownCap_ge w (n+m) old e;have ar:grownCap w (n+m) old e<=maxLen:=grownCap_le_maxLen w (n+m) old e az;have aL:=ad.1;refine⟨⟨hlen,.inr ⟨w.heap.size,_,_,rfl,an,heap_alloc_new w.drew _,aD,ar,?_,?_⟩⟩,⟨rfl,rfl,rfl,by simp,fun k hk _=>Below.heap_alloc w.drew _ _ hk⟩⟩
  . simp only [Array.size_append,List.size_toArray,size_zeroCells,Aa6,Aao,Abn,Aab,Aan]
    omega
  . simp only [Array.toList_append,Abh]
    rw [<-Abh,<-hlen];exact List.take_left
 rcases ad.2 with⟨rfl,rfl⟩ | ⟨g,cap,cur,rfl,hbg,hg,hnc,ar,hcs,htake⟩
 . have hx:xs=[]:=Ab4 (by simpa using ad.1)
   subst hx
   by_cases hm:m=0
   . subst hm
     refine⟨.slice none 0 0,w,?_,World.ownsRow_nil w base e 1,⟨rfl,rfl,rfl,Aad _,fun _ _ _=>rfl⟩,by simp,fun k hk=>by cases hk⟩;simp [Builtin.append_,run_underlying ht,run_underlying hu,sizeOf,typeInfo,hi,asInt,asIntOf,ao]
   . have ai:¬(281474976710656<Builtin.nextslicecap m 0 * i.bytes):=by rw [nextslicecap_zero (by omega)];omega
     have al:=grown 0 (by omega) (Value.ownBlock (.slice none 0 0));simp only [Aab,Abf,Array.empty_append] at al ⊢;refine⟨_,_,?_,al.1,al.2,by simp [hm],fun k hk => .inr (Option.some.inj hk).symm⟩;have aj:¬(9223372036854775807<(m:Int)):=by omega
     simp [Builtin.append_,run_underlying ht,run_underlying hu,sizeOf,typeInfo,zeroValue,hi,hz,asInt,asIntOf,av,aq,aw,hm,af,ay,aj,ai,Question.forced,run_firstCells_none,aca,newRow,grownCap]
 . by_cases hroom:n+m<=cap
   . have au:n+(List.replicate m z).length<=cur.size:=by rw [Aa6,hcs];omega
     have aA:=run_storeCells_at P g n e (List.replicate m z) 0 cur w hg (by simpa using au) (fun u hu=>by rw [Abz hu];exact aF);simp only [Aa2] at aA;refine⟨.slice (some ⟨g,0,none⟩) (n+m) cap,w.setRow g (cur.toList.take n++List.replicate m z++cur.toList.drop (n+(List.replicate m z).length)).toArray,?_,⟨hlen,.inr ⟨g,cap,_,rfl,hbg,setRow_heap w g cur _ e _ hg,hroom,ar,?_,?_⟩⟩,⟨rfl,rfl,rfl,by simp,fun k _ hk=>setRow_other w g k _ (fun e=>hk (by simp [Value.ownBlock,e]))⟩,by simp,fun k hk => .inl hk⟩
     . by_cases ak:m=0
       . subst ak
         simp [Builtin.append_,run_underlying ht,run_underlying hu,sizeOf,typeInfo,zeroValue,hi,hz,asInt,asIntOf,ao,hnc,storeCells];rw [setRow_self w g cur e (0,0) hg]
       . simp [Builtin.append_,run_underlying ht,run_underlying hu,sizeOf,typeInfo,zeroValue,hi,hz,asInt,asIntOf,av,aq,aw,ak,af,ay,hroom,aca,Addr.add_lit,aA]
     . simp only [List.size_toArray,Aai,Aar,List.length_drop,Array.length_toList,Aa6]
       omega
     . have h2:cur.toList.take n=xs:=by simpa using htake
       show (cur.toList.take n++List.replicate m z++_).take _=_;rw [h2,<-hlen];exact List.take_left
   . have holds:∀j u,xs[j]?=some u->w.cell? ((⟨g,0,none⟩:Addr).add j)=some u:=ad.cells (g:=g) rfl
     have ak:m≠0:=by omega
     have hn:¬(n+m<=cap):=hroom;have aj:¬(9223372036854775807<((n:Int)+(m:Int))):=by omega
     have ai:¬(281474976710656<Builtin.nextslicecap (n+m) cap * i.bytes):=by
      have:=growslice_fits (need:=n+m) (old:=cap) (bytes:=i.bytes) (by omega) ae;omega
     have aC:=run_firstCells_some (P:=P) w.drew 1 n ⟨g,0,none⟩ n cap xs ad.1 (by simpa using holds);have al:=grown cap (by omega) (Value.ownBlock (.slice (some ⟨g,0,none⟩) n cap));refine⟨_,_,?_,al.1,al.2,by simp,fun k hk => .inr (Option.some.inj hk).symm⟩;simp [Builtin.append_,run_underlying ht,run_underlying hu,sizeOf,typeInfo,zeroValue,hi,hz,asInt,asIntOf,av,aq,aw,ak,af,ay,hn,aj,ai,Question.forced,aC,aca,newRow,grownCap]
end
end
section
open Go.RowKit
def aaz(base:Nat)(w:World)(v:Value)(l:List Int):Prop:=w.ownsRow base 3 1 v l.length (l.map fun x => .int .i64 x)∧∀x∈l,I64 x
theorem aaz.nil(base:Nat)(w:World):aaz base w (.slice none 0 0) []:=⟨World.ownsRow_nil w base _ 1,fun x h=>by simp at h⟩
variable {base:Nat}{w:World}{v:Value}{l:List Int}
theorem aaz.shape(h:aaz base w v l):∃a c,v = .slice a l.length c:=by
 rcases h.1.2 with⟨rfl,h2⟩ | ⟨g,cap,cur,rfl,-⟩
 . exact⟨none,0,by rw [h2]⟩
 . exact⟨_,_,rfl⟩
theorem aaz.later{w':World}(h:aaz base w v l)(hb:Below w.heap.size w w'):aaz base w' v l :=
 ⟨h.1.kept (afZ (B:=0) hb none (Aah _)) (by cases v.ownBlock <;> simp),h.2⟩
theorem aaz.sl(h:aaz base w v l):SlAt (iv base w.heap.size) w 1 aaO v l:=by
 obtain⟨h1,h2⟩:=h;have hc:=fun g hg=>h1.cells (g:=g) hg;rcases id h1.2 with⟨rfl,hl⟩ | ⟨g,cap,cur,rfl,hg,hgg,hn,hm,-⟩
 . have aE:l=[]:=Abq.1 hl
   subst aE;exact⟨none,0,rfl,Aad _,by decide,fun h=>absurd rfl h⟩
 . unfold maxLen at hm
   refine⟨_,cap,rfl,hn,by omega,fun aK=>⟨g,0,rfl,⟨hg,(Aax.1 hgg).1⟩,fun i x hx=>?_⟩⟩;obtain⟨hi,rfl⟩:=Aae.1 hx;have hb:=h2 _ (Aaf hi);refine⟨_,⟨rfl,hb.1,hb.2⟩,rfl,fun j u hj=>?_⟩
   match j,hj with
   | 0,hj =>
     cases hj;have ag:=hc g rfl i (.int .i64 l[i]) (by rw [Aak,Aaa hi];rfl);rw [show (⟨g,0,none⟩:Addr).add i=⟨g,i,none⟩ by unfold Addr.add;split <;> simp_all] at ag;rw [Aab,Aan,Aa2];exact ag
   | j+1,hj=>simp at hj
theorem aoZ{S:Nat->Prop}{b off n c:Nat}(h:SlAt S w 1 aaO (.slice (some ⟨b,off,none⟩) n c) l):∀(j:Nat) u,(l.map fun x=>Value.int .i64 x)[j]?=some u->w.cell? ((⟨b,off,none⟩:Addr).add j)=some u:=by
 intro j u hj;rw [Aak] at hj;cases hq:l[j]? with
 | none=>rw [hq] at hj;cases hj
 | some x =>
   rw [hq] at hj;cases hj;obtain⟨hi,rfl⟩:=Aae.1 hq;obtain⟨b',aG,e,hc⟩:=abb h hi;cases e;rw [show (⟨b,off,none⟩:Addr).add j=⟨b,off+j,none⟩ by unfold Addr.add;split <;> simp_all];exact hc
end
section
open Go.RowKit
theorem afb {u:aaC}(h:(aal u).1=0):u.globals.length<=10∧(∀g∈u.globals,0<=g.size∧g.size<=200∧(g.init.length:Int)<=g.size) ∧
 abe u.globals u.globals.length=((adh u.globals).length:Int)∧(adh u.globals).length<=200:=by
 obtain⟨h1,-,h2,-,-⟩:=abZ h;have h3:∀g∈u.globals,0<=g.size∧g.size<=200∧(g.init.length:Int)<=g.size:=by
  intro g hg;obtain⟨k,hk,rfl⟩:=Aa1 hg;have h4:=h2 k;unfold acN at h4;rw [Aaa hk] at h4;obtain⟨-,-,a1,a2,a3,-⟩:=aeY h4;exact⟨by omega,a2,a3⟩
 have h4:((adh u.globals).length:Int)=abe u.globals u.globals.length:=aha (fun g hg=>(h3 g hg).2.2) _ (Aad _);have h5:=agx (Aad u.globals.length) (fun j _=>h2 j);exact⟨h1,h3,h4.symm,by omega⟩
theorem ah1 {u:aaC}(h:aal u=(0,0)):∀(k:Nat) (f:aao),u.funcs[k]?=some f->aaT f.blocks<=1048576∧f.blocks.length<=1048576:=by
 intro k f hf;obtain⟨hh,-⟩:=abv h hf;obtain⟨-,-,-,-,-,-,-,aH,hm⟩:=abH hh;exact⟨by omega,by omega⟩
end
end Go.Proofs.YtnkfdeiigplhoaaGreatDoor
