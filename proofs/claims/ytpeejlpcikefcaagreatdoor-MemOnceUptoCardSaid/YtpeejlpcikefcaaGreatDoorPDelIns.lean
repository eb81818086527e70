import Derived.Test.YtpeejlpcikefcaaGreatDoorPGCopy
import Derived.Laws.CopyOwn
import Derived.Lib.Overlaps
/- append, copy and clear on a row of a call's own, in place: what the row holds behind them. No function of the program in sight. slices.Delete of one value, slices.Insert of one value, in place. -/
set_option maxHeartbeats 2000000
set_option maxRecDepth 100000
namespace Go.Proofs.YtpeejlpcikefcaaGreatDoor
section
open Go.RowKit
def adM(w:World)(g:Nat)(T:TypeId)(cur:List Value):Prop:=w.heap[g]?=some (.cells cur.toArray T (0,0))
theorem aeu {w:World}{g:Nat}{T:TypeId}{cur:List Value}(h:adM w g T cur)(c2:List Value):adM (w.setRow g c2.toArray) g T c2:=setRow_heap w g _ _ _ _ h
theorem abG(w:World)(g:Nat)(cs:Array Value):w.grownBy (w.setRow g cs) (some g):=⟨rfl,rfl,rfl,by simp [World.setRow],fun k _ au=>setRow_other w g k cs (fun e=>au (by rw [e]))⟩
theorem aa4 {a b c:World}{r:Option Nat}(h:a.grownBy b r)(k:b.grownBy c r):a.grownBy c r :=
 ⟨k.os.trans h.os,k.tape.trans h.tape,k.output.trans h.output,Aai h.size k.size,fun x hx au=>(k.block x (Aay hx h.size) au).trans (h.block x hx au)⟩
theorem acS(w:World)(r:Option Nat):w.grownBy w.drew r:=⟨rfl,rfl,rfl,Aac _,fun _ _ _=>rfl⟩
theorem aiP {w:World}{g:Nat}{T:TypeId}{cur:List Value}(h:adM w g T cur){i:Nat}{u:Value}(hi:cur[i]?=some u):w.cell? ⟨g,i,none⟩=some u:=by
 rw [aaX h,Ab7];exact hi
theorem abb {α:Type}(L:List α)(off:Nat)(cs:List α):splice L off cs=L.take off++cs++L.drop (off+cs.length):=by unfold splice;rw [Abo]
section
variable {P : Program} {w : World}
variable {T:TypeId}{cur:List Value}
theorem adA(t ty e : TypeId) (i : TypeInfo) (ht : P.underlying t = some (.slice e)) (hi : P.info? e = some i) (sz : Nat) (hz : i.size = sz)
 (g off n cap:Nat) (ad:Addr) (m c:Nat) (news:List Value) (hl:news.length=m * sz) (ae:∀(j:Nat) u,news[j]?=some u->w.cell? (ad.add j)=some u) (h1:∀u∈news,u.oneCell'=true)
   (hr:adM w g T cur) (aB:n+m<=cap) (al:off+n * sz+news.length<=cur.length) :
 (Builtin.append_ #[t,t] ty #[.slice (some ⟨g,off,none⟩) n cap,.slice (some ad) m c]).run P w = .ok (.slice (some ⟨g,off,none⟩) (n+m) cap) (w.setRow g (splice cur (off+n * sz) news).toArray):=by
 subst hz;have bf:=run_firstCells_some (P:=P) w i.size m ad m c news hl ae;have az:=run_storeCells_at P g (off+n * i.size) T news 0 cur.toArray w hr (by simpa using al) h1;rw [abb];simp only [Nat.add_zero] at az;simp [Builtin.append_,run_underlying ht,sizeOf,typeInfo,hi,Builtin.lenOf,aB,bf,Addr.add_lit,az]
theorem agA(dT sT ty elem : TypeId) (sz g o aJ aW : Nat) (ad : Addr) (aC aU : Nat)   (cs : List Value) (n : Nat)
 (hu:P.underlying dT=some (.slice elem)) (hs:(P.info? elem).map (·.size)=some sz) (hr:adM w g T cur) (hn:n=Nat.min aC aJ) (aD:cs.length=n * sz)
 (aZ:∀(j:Nat) v,cs[j]?=some v->w.cell? (ad.add j)=some v) (al:o+cs.length<=cur.length) (h1:∀v∈cs,v.oneCell'=true) :
 (Builtin.copy_ #[dT,sT] ty #[.slice (some ⟨g,o,none⟩) aJ aW,.slice (some ad) aC aU]).run P w = .ok (goInt n) (w.setRow g (splice cur o cs).toArray):=by
 have hl:=run_loadCells_list (P:=P) w ad cs aZ;have az:=run_storeCells_at P g o T cs 0 cur.toArray w hr (by simpa using al) h1;rw [abb];rw [aD] at hl;cases hq:P.info? elem with
 | none=>simp [hq] at hs
 | some i =>
   have hi:i.size=sz:=by simpa [hq] using hs
   simp [Builtin.copy_,run_underlying hu,Builtin.lenOf,Builtin.firstCells,sizeOf,typeInfo,hq,hi,<-hn,hl,az]
theorem ajo(t e ty : TypeId) (z : Value) (zs : List Value) (ht : P.underlying t = some (.slice e)) (hv : ∀ w, (zeroValue e).run P w = .ok z w) (hz : z.cells = zs.toArray) (h1 : ∀ u ∈ zs, u.oneCell' = true)
 (g o c:Nat)   (hr:adM w g T cur) (al:o+zs.length<=cur.length) :
 (Builtin.clear_ #[t] ty #[.slice (some ⟨g,o,none⟩) 1 c]).run P w = .ok (.tuple #[]) (w.setRow g (splice cur o zs).toArray):=by
 have az:=run_storeCells_at P g o T zs 0 cur.toArray w hr (by simpa using al) h1;have bg:(Builtin.zeroCells z.cells 1).toList=zs:=by
  rw [hz];apply List.ext_getElem
  . simp [Builtin.zeroCells]
  . intro i h2 h3
    simp [Builtin.zeroCells,Nat.mod_eq_of_lt h3,List.getElem?_eq_getElem h3]
 rw [abb];simp [Builtin.clear_,run_underlying ht,hv,bg,az]
theorem age {ops : Array Oper} {rest : List Oper} {o : Oper} {a : Act} {Q : Exit -> Act -> World -> Prop} (aX : o.guard = none) (d s : Operand) (t t' : TypeId)
 (ho:o.op = .call { callee := .builtin .append,args:=#[d,s],argTypes:=#[t,t'] }) (v u:Value) (hd:a.eval d=v) (hs:a.eval s=u) {v':Value} {w':World}
 (hr:(Builtin.append_ #[t,t'] o.type #[v,u]).run P w = .ok v' w') (h:wpList P ops Q rest (a.put o.dst v') w'):wpList P ops Q (o :: rest) a w:=by
 refine wpList_plain aX fun K hK=>?_;unfold Oper.wp execOp;simp only [ho,resolve,invoke,builtin,Sem.run_bind,Sem.run_pure,Result.andThen_ok,List.map_toArray,Aa3,List.map_nil,hd,hs,hr];exact hK _ _ h
theorem aev {ops : Array Oper} {o : Oper} {a : Act} {K : Act -> World -> Prop} {Q : Exit -> Act -> World -> Prop} {E : Prop} (aX : o.guard = none) (d s : Operand) (t t' : TypeId)
 (ho:o.op = .call { callee := .builtin .append,args:=#[d,s],argTypes:=#[t,t'] }) (v u:Value) (hd:a.eval d=v) (hs:a.eval s=u) {v':Value} {w':World}
 (hr:(Builtin.append_ #[t,t'] o.type #[v,u]).run P w = .ok v' w') (h:K (a.put o.dst v') w'):if Region.wanted o (yielded ops a.tmps)=true then Oper.wp P o a w K Q else E:=by
 have hw:Region.wanted o (yielded ops a.tmps)=true:=by simp [Region.wanted,aX]
 rw [if_pos hw];unfold Oper.wp execOp;simp only [ho,resolve,invoke,builtin,Sem.run_bind,Sem.run_pure,Result.andThen_ok,List.map_toArray,Aa3,List.map_nil,hd,hs,hr];exact h
end
end
section
open Go.RowKit
def atT(cur:List Value)(n k:Nat):List Value:=cur.take (k * 2)++(cur.drop ((k+1) * 2)).take ((n - (k+1)) * 2)
def aql(cur:List Value)(n j:Nat)(cs:List Value):List Value:=cur.take (j * 2)++cs++(cur.drop (j * 2)).take ((n - j) * 2)
theorem ana(g n c k:Nat)(cur:List Value)(w:World)(hr:adM w g 41 cur)(hlen:cur.length=c * 2)(aj:∀u∈cur.take (n * 2),u.oneCell'=true)(bB:k<n)(aw:n<=c)(hn:n<=1048576)(bp:c<=9223372036854775807) :
 Calls Tryz.prog 111 #[.slice (some ⟨g,0,none⟩) n c,.int .i64 (k:Int),.int .i64 ((k:Int)+1)] w fun e w' =>
  e = .returned (.slice (some ⟨g,0,none⟩) (n - 1) c)∧w.grownBy w' (some g)∧∃af,adM w' g 41 af∧af.length=c * 2∧af.take ((n - 1) * 2)=atT cur n k:=by
 obtain⟨i0,aO,bl,aM,bq⟩:=info_parts ahq;obtain⟨news,ae⟩:∃news,news=(cur.drop ((k+1) * 2)).take ((n - (k+1)) * 2):=⟨_,rfl⟩
 have av:news.length=(n - (k+1)) * 2:=by rw [ae,Aar,List.length_drop];omega
 have aN : ∀ u ∈ news, u.oneCell' = true := fun u hu => aj u (by
  rw [ae, show (n - (k + 1)) * 2 = n * 2 - (k + 1) * 2 by omega, <- List.drop_take] at hu
  exact List.mem_of_mem_drop hu)
 have ax:∀(j:Nat) u,news[j]?=some u->w.cell? ⟨g,(k+1) * 2+j,none⟩=some u:=fun j u hj=>by
  refine aiP hr ?_;rw [ae,Abh] at hj;split at hj
  . rw [List.getElem?_drop] at hj;exact hj
  . cases hj
 obtain⟨c1,ai⟩:∃c1,c1=splice cur (k * 2) news:=⟨_,rfl⟩
 have ah:c1.length=c * 2:=by rw [ai,length_splice _ _ _ (by omega),hlen]
 obtain⟨c2,an⟩:∃c2,c2=splice c1 ((n - 1) * 2) [Value.bool false,.int .i64 0]:=⟨_,rfl⟩
 have ak:c2.length=c * 2:=by rw [an,length_splice _ _ _ (by simp;omega),ah]
 have ag:c2.take ((n - 1) * 2)=atT cur n k:=by
  have aG:(cur.take (k * 2)).length=k * 2:=by rw [Aar];omega
  have e1:c2.take ((n - 1) * 2)=c1.take ((n - 1) * 2):=by
   have hl:(c1.take ((n - 1) * 2)).length=(n - 1) * 2:=by rw [Aar];omega
   rw [an,abb,Abo,Acm (by omega),List.take_take,Nat.min_self]
  rw [e1,ai,abb];have aV:(cur.take (k * 2)++news).length=(n - 1) * 2:=by rw [Aau,aG,av];omega
  rw [Acm (by omega),<-aV,Aa1,ae];rfl
 have aq:adM w.drew g 41 cur:=hr;have ao:=aeu aq c1;have aS:=aeu ao c2;have a1:w.grownBy (w.drew.setRow g c1.toArray) (some g):=aa4 (acS w (some g)) (abG _ _ _);have aP:=aa4 a1 (abG (w.drew.setRow g c1.toArray) g c2.toArray);have ay:∀ty cc,(Builtin.clear_ #[47] ty #[.slice (some ⟨g,(n - 1) * 2,none⟩) 1 cc]).run Tryz.prog (w.drew.setRow g c1.toArray) = .ok (.tuple #[]) ((w.drew.setRow g c1.toArray).setRow g c2.toArray):=fun ty cc=>by
  rw [an]
  exact ajo _ _ ty (.agg #[.bool false, .int .i64 0]) [.bool false, .int .i64 0] Tryz.underlying47 Tryz.zeroValue41 rfl (fun u hu => by
   simp only [Aam, Aao, or_false] at hu
   rcases hu with rfl | rfl <;> rfl) g _ cc ao (by simp; omega)
 have be:=hid aS;have a8:=hid aP;have aH:=hid ag;have bd:Hid (c2.length=c * 2):=ak;have bj:IntKind.i64.wrap ((k:Int)+1)=(k:Int)+1:=by rw [IntKind.wrap_i64];omega
 by_cases hck:c=k+1
 . have aE:∀ty,(Builtin.append_ #[47,47] ty #[.slice (some ⟨g,0,none⟩) k c,.slice (some ⟨g,0,none⟩) 0 0]).run Tryz.prog w.drew = .ok (.slice (some ⟨g,0,none⟩) k c) (w.drew.setRow g c1.toArray):=fun ty=>by
    have bk:news=[]:=Aa9 (by rw [av];omega);have h:=adA (P:=Tryz.prog) (w:=w.drew) 47 ty 41 i0 Tryz.underlying47 aO 2 aM g 0 k c ⟨g,0,none⟩ 0 0 news (by rw [av];omega) (fun j u hj=>by rw [bk] at hj;simp at hj) aN aq (by omega) (by rw [av];omega);rw [Aab,<-ai] at h;exact h
   clear hr hlen aj av aN ax ah ak ag aq ao aS a1 aP ai an ae;obtain rfl:n=k+1:=by omega
   subst hck;rw [Nat.add_sub_cancel] at ay;have aK:(k:Int)<=(k:Int)+1:=by omega
   have bh:(0:Int)<=(k:Int)+1:=by omega
   go_enter Tryz.func111,Tryz.ntmps111;go_wp2_with fail;go_region_law (refine aev rfl _ _ 47 47 rfl _ _ (by simp [Act.eval,Act.put]) (by simp [Act.eval,Act.put]) (aE _) ?_)
   all_goals
    go_wp2_with (at_builtin;refine wpList_clear_run rfl _ 47 rfl _ rfl (ay _ _) ?_);go_ret;exact⟨rfl,a8.out,c2,be.out,bd.out,aH.out⟩
 . have aE:∀ty,(Builtin.append_ #[47,47] ty #[.slice (some ⟨g,0,none⟩) k c,.slice (some ⟨g,(k+1) * 2,none⟩) (n - (k+1)) (c - (k+1))]).run Tryz.prog w.drew = .ok (.slice (some ⟨g,0,none⟩) (n - 1) c) (w.drew.setRow g c1.toArray):=fun ty=>by
    have h:=adA (P:=Tryz.prog) (w:=w.drew) 47 ty 41 i0 Tryz.underlying47 aO 2 aM g 0 k c ⟨g,(k+1) * 2,none⟩ (n - (k+1)) (c - (k+1)) news av (fun j u hj=>by rw [Addr.add_lit];exact ax j u hj) aN aq (by omega) (by rw [av];omega);rw [Aab,<-ai,show k+(n - (k+1))=n - 1 by omega] at h;exact h
   have aI:∀ty cc,(Builtin.clear_ #[47] ty #[.slice (some ⟨g,(n - 1) * 2,none⟩) (n - (n - 1)) cc]).run Tryz.prog (w.drew.setRow g c1.toArray) = .ok (.tuple #[]) ((w.drew.setRow g c1.toArray).setRow g c2.toArray):=fun ty cc=>by
    rw [show n - (n - 1)=1 by omega];exact ay ty cc
   clear ay;have ay:=aI;clear aI;have bm:¬c=n - 1:=by omega
   have aK:k<=c:=by omega
   have bz:(k:Int)+1<=(n:Int):=by omega
   have bA:((k:Int)+1).toNat=k+1:=by omega
   have bG:k+1<=n:=by omega
   have bh:(0:Int)<=(k:Int)+1:=by omega
   clear hr hlen aj av aN ax ah ak ag aq ao aS a1 aP ai an ae;go_enter Tryz.func111,Tryz.ntmps111;go_wp2_with fail;go_region_law (refine aev rfl _ _ 47 47 rfl _ _ (by simp [Act.eval,Act.put]) (by simp [Act.eval,Act.put]) (aE _) ?_)
   all_goals
    go_wp2_with (at_builtin;refine wpList_clear_run rfl _ 47 rfl _ rfl (ay _ _) ?_);go_ret;exact⟨rfl,a8.out,c2,be.out,bd.out,aH.out⟩
theorem ami:(Tryz.prog.info? 41).map (·.size)=some 2:=by kernel_rfl
theorem anb (g n c j b : Nat) (r : Bool) (x : Int) (cur : List Value) (w : World) (hr : adM w g 41 cur) (hlen : cur.length = c * 2) (aj : ∀ u ∈ cur.take (n * 2), u.oneCell' = true) (hj : j <= n) (aw : n + 1 <= c) (hn : n <= 1048576) (_hc63 : c <= 9223372036854775807)
 (ar:w.heap[b]?=some (.cells #[.bool r,.int .i64 x] 41 (0,0))) (au:b≠g) :
 Calls Tryz.prog 110 #[.slice (some ⟨g,0,none⟩) n c,.int .i64 (j:Int),.slice (some ⟨b,0,none⟩) 1 1] w fun e w' =>
  e = .returned (.slice (some ⟨g,0,none⟩) (n+1) c)∧w.grownBy w' (some g)∧∃af,adM w' g 41 af∧af.length=c * 2∧af.take ((n+1) * 2)=aql cur n j [.bool r,.int .i64 x]:=by
 obtain⟨i0,aO,bl,aM,bq⟩:=info_parts ahq;have aL:∀u∈[Value.bool r,.int .i64 x],u.oneCell'=true:=fun u hu=>by
  simp only [Aam,Aao,or_false] at hu;rcases hu with rfl | rfl <;> rfl
 have aR:∀(k:Nat) u,[Value.bool r,.int .i64 x][k]?=some u->w.cell? ((⟨b,0,none⟩:Addr).add k)=some u:=fun k u hk=>by
  rw [Addr.add_lit,Aab,aaX ar];simpa using hk
 by_cases hjn:j=n
 . subst hjn
   obtain⟨c1,ai⟩:∃c1,c1=splice cur (j * 2) [Value.bool r,.int .i64 x]:=⟨_,rfl⟩
   have ah:c1.length=c * 2:=by rw [ai,length_splice _ _ _ (by simp;omega),hlen]
   have aE:∀ty,(Builtin.append_ #[47,47] ty #[.slice (some ⟨g,0,none⟩) j c,.slice (some ⟨b,0,none⟩) 1 1]).run Tryz.prog w = .ok (.slice (some ⟨g,0,none⟩) (j+1) c) (w.setRow g c1.toArray):=fun ty=>by
    have h:=adA (P:=Tryz.prog) (w:=w) 47 ty 41 i0 Tryz.underlying47 aO 2 aM g 0 j c ⟨b,0,none⟩ 1 1 [.bool r,.int .i64 x] rfl aR aL hr aw (by simp;omega);rw [Aab,<-ai] at h;exact h
   have ag:c1.take ((j+1) * 2)=aql cur j j [.bool r,.int .i64 x]:=by
    unfold aql;have aG:(cur.take (j * 2)).length=j * 2:=by rw [Aar];omega
    have aV:(cur.take (j * 2)++[Value.bool r,.int .i64 x]).length=(j+1) * 2:=by rw [Aau,aG];simp;omega
    rw [ai,abb,Acm (by omega),<-aV,Aa1];simp
   have HR:=hid (aeu hr c1);have HG:=hid (abG w g c1.toArray);have HF:Hid (c1.length=c * 2∧c1.take ((j+1) * 2)=aql cur j j [.bool r,.int .i64 x]):=⟨ah,ag⟩
   have bm:¬c=j:=by omega
   clear hr hlen aj aL aR ar ai ah ag;go_enter Tryz.func110,Tryz.ntmps110;go_wp2_with (at_builtin;refine age rfl _ _ 47 47 rfl _ _ rfl rfl (aE _) ?_);go_ret;exact⟨rfl,HG.out,c1,HR.out,HF.out.1,HF.out.2⟩
 . obtain⟨ms,aF⟩:∃ms,ms=(cur.drop (j * 2)).take ((n - j) * 2):=⟨_,rfl⟩
   have aA:ms.length=(n - j) * 2:=by rw [aF,Aar,List.length_drop];omega
   have a7 : ∀ u ∈ ms, u.oneCell' = true := fun u hu => aj u (by
    rw [aF, show (n - j) * 2 = n * 2 - j * 2 by omega, <- List.drop_take] at hu
    exact List.mem_of_mem_drop hu)
   have a6:∀(k:Nat) u,ms[k]?=some u->w.drew.cell? ((⟨g,j * 2,none⟩:Addr).add k)=some u:=fun k u hk=>by
    rw [Addr.add_lit];refine aiP (show adM w.drew g 41 cur from hr) ?_;rw [aF,Abh] at hk;split at hk
    . rw [List.getElem?_drop] at hk;exact hk
    . cases hk
   obtain⟨c1,ai⟩:∃c1,c1=splice cur ((j+1) * 2) ms:=⟨_,rfl⟩
   have ah:c1.length=c * 2:=by rw [ai,length_splice _ _ _ (by rw [aA];omega),hlen]
   obtain⟨c2,an⟩:∃c2,c2=splice c1 (j * 2) [Value.bool r,.int .i64 x]:=⟨_,rfl⟩
   have ak:c2.length=c * 2:=by rw [an,length_splice _ _ _ (by simp;omega),ah]
   have aq:adM w.drew g 41 cur:=hr;obtain⟨W1,ao⟩:∃W1,W1=w.drew.setRow g c1.toArray:=⟨_,rfl⟩
   have aY:adM W1 g 41 c1:=by rw [ao];exact aeu aq c1
   have aT:∀ty dc sc,(Builtin.copy_ #[47,47] ty #[.slice (some ⟨g,(j+1) * 2,none⟩) (n - j) dc,.slice (some ⟨g,j * 2,none⟩) (n+1 - j) sc]).run Tryz.prog w.drew = .ok (goInt (n - j:Nat)) W1:=fun ty dc sc=>by
    rw [ao,ai];exact agA _ _ ty 41 2 g _ _ dc ⟨g,j * 2,none⟩ _ sc ms (n - j) Tryz.underlying47 ami aq (by simp only [Nat.min_def];split <;> omega) aA a6 (by rw [aA];omega) a7
   have aK:W1.heap[b]?=some (.cells #[.bool r,.int .i64 x] 41 (0,0)):=by
    rw [ao,setRow_other _ _ _ _ au];exact ar
   have aQ:∀ty dc,(Builtin.copy_ #[47,47] ty #[.slice (some ⟨g,j * 2,none⟩) (n+1 - j) dc,.slice (some ⟨b,0,none⟩) 1 1]).run Tryz.prog W1 = .ok (goInt (1:Nat)) (W1.setRow g c2.toArray):=fun ty dc=>by
    rw [an]
    exact agA _ _ ty 41 2 g _ _ dc ⟨b, 0, none⟩ 1 1 [.bool r, .int .i64 x] 1 Tryz.underlying47 ami aY (by simp only [Nat.min_def]; split <;> omega) rfl (fun k u hk => by
     rw [Addr.add_lit, Aab, aaX aK]
     simpa using hk) (by simp; omega) aL
   have bn:∀lb cb,(callFunc 115 #[.slice (some ⟨b,0,none⟩) 1 1,.slice (some ⟨g,(j+1) * 2,none⟩) lb cb]).run Tryz.prog w = .ok (.value (.bool false)) w:=fun lb cb=>by
    rw [run_callFunc_extern Tryz.func115 (by kernel_rfl) (by kernel_rfl) (by kernel_rfl) (e := Extern.SlicesOverlaps.overlaps #[47, 47] #[4]) (by kernel_rfl),
     Lib.run_overlaps_apart w 47 4 41 Tryz.underlying47 2 Tryz.sizeOf41 ⟨b, 0, none⟩ ⟨g, (j + 1) * 2, none⟩ 1 1 lb cb au 41 41 2 (c * 2) (by simp [World.shape?, ar]) (by simp [World.shape?, show w.heap[g]? = _ from hr, hlen]) (by omega) (by simp [World.frozen?, ar]) (by simp [World.frozen?, ar])]
    rfl
   have ag:c2.take ((n+1) * 2)=aql cur n j [.bool r,.int .i64 x]:=by
    have aG:(cur.take (j * 2)).length=j * 2:=by rw [Aar];omega
    have e1:c1.take (j * 2)=cur.take (j * 2):=by
     rw [ai,abb,Abo,Acm (by rw [Aar];omega),List.take_take,Abt (by omega)]
    have e2:(c1.drop (j * 2+2)).take ((n - j) * 2)=ms:=by
     have hl:(cur.take ((j+1) * 2)).length=j * 2+2:=by rw [Aar];omega
     rw [ai,abb,Abo,<-hl,List.drop_left,Acm (by omega),<-aA,Aa1]
    unfold aql;rw [an,abb,e1];have bo:(cur.take (j * 2)++[Value.bool r,.int .i64 x]).length=j * 2+2:=by rw [Aau,aG];rfl
    rw [List.take_append,bo,Abq (by omega),show (n+1) * 2 - (j * 2+2)=(n - j) * 2 by omega];show _++((c1.drop (j * 2+2)).take _)=_;rw [e2,aF]
   have HR:=hid (aeu aY c2);have HG:Hid (w.grownBy (W1.setRow g c2.toArray) (some g)):=by
    have h1:w.grownBy W1 (some g):=by rw [ao];exact aa4 (acS w (some g)) (abG _ _ _)
    exact aa4 h1 (abG _ _ _)
   have HF:Hid (c2.length=c * 2∧c2.take ((n+1) * 2)=aql cur n j [.bool r,.int .i64 x]):=⟨ak,ag⟩
   have bj:IntKind.i64.wrap ((j:Int)+1)=(j:Int)+1:=by rw [IntKind.wrap_i64];omega
   have bt:¬c=j:=by omega
   have bD:¬c=j+1:=by omega
   have bx:j<n:=by omega
   have bu:((j:Int)+1).toNat=j+1:=by omega
   have bw:(0:Int)<=(j:Int)+1:=by omega
   have bF:(j:Int)+1<=(n:Int)+1:=by omega
   have bC:j+1<=n+1:=by omega
   have br:(j:Int)<=(n:Int)+1:=by omega
   clear hr hlen aj aL aR ar ai ah ag aF aA a7 a6 an ak aq aY aK ao;go_enter Tryz.func110,Tryz.ntmps110;go_wp2_with (simp only [bn]);go_region_law (refine step_copy_run rfl _ _ 47 47 rfl _ _ (by simp [Act.eval,Act.put]) (by simp [Act.eval,Act.put]) (aT _ _ _) ?_)
   all_goals
    go_wp2_with (at_builtin;refine wpList_copy_run rfl _ _ 47 47 rfl _ _ rfl rfl (aQ _ _) ?_);go_ret;exact⟨rfl,HG.out,c2,HR.out,HF.out.1,HF.out.2⟩
theorem ahA {sz : Nat} : ∀ (xss : List (List Value)) (k : Nat), (∀ cs ∈ xss, cs.length = sz) -> xss.flatten.take (k * sz) = (xss.take k).flatten
 | [],k,_=>by simp
 | ys :: xss,0,_=>by simp
 | ys :: xss,k+1,h=>by
   have hy:=h ys (Aa2 ..);rw [Abv,Ab1,Abv,List.take_append,hy,Abq (by rw [hy,Nat.succ_mul];omega),show (k+1) * sz - sz=k * sz by rw [Nat.succ_mul];omega,ahA xss k (fun cs hc=>h cs (Aa0 _ hc))]
theorem ahB {sz : Nat} : ∀ (xss : List (List Value)) (k : Nat), (∀ cs ∈ xss, cs.length = sz) -> xss.flatten.drop (k * sz) = (xss.drop k).flatten
 | [],k,_=>by simp
 | ys :: xss,0,_=>by simp
 | ys :: xss,k+1,h=>by
   have hy:=h ys (Aa2 ..);rw [Abv,Acc,List.drop_append,hy,List.drop_eq_nil_of_le (by rw [hy,Nat.succ_mul];omega),Abc,show (k+1) * sz - sz=k * sz by rw [Nat.succ_mul];omega,ahB xss k (fun cs hc=>h cs (Aa0 _ hc))]
theorem ab8(l:List aay):∀cs∈l.map aaA,cs.length=2:=fun cs aD=>by
 obtain⟨x,_,rfl⟩:=Aal.1 aD;rfl
def aqm(l:List aay)(k:Nat):List aay:=l.take k++l.drop (k+1)
def arF(l:List aay)(j:Nat)(v:aay):List aay:=l.take j++[v]++l.drop j
variable {l:List aay}{k:Nat}
theorem ajp(hk:k<l.length):(aqm l k).length=l.length - 1:=by unfold aqm;rw [Aau,Aar,List.length_drop];omega
variable {j:Nat}
theorem amj(hj:j<=l.length)(v:aay):(arF l j v).length=l.length+1:=by unfold arF;rw [Aau,Aau,Aar,List.length_drop];simp;omega
variable {cur:List Value}{n:Nat}
theorem asg(h:cur.take (n * 2)=(l.map aaA).flatten)(_hl:l.length=n)(hk:k<n):atT cur n k=((aqm l k).map aaA).flatten:=by
 have e1:cur.take (k * 2)=((l.take k).map aaA).flatten:=by
  rw [List.map_take,<-ahA _ _ (ab8 l),<-h,List.take_take,Abt (by omega)]
 have e2:(cur.drop ((k+1) * 2)).take ((n - (k+1)) * 2)=((l.drop (k+1)).map aaA).flatten:=by
  rw [List.map_drop,<-ahB _ _ (ab8 l),<-h,List.drop_take,show n * 2 - (k+1) * 2=(n - (k+1)) * 2 by omega]
 unfold atT aqm;rw [e1,e2,Aa8,Abs]
theorem ash(h:cur.take (n * 2)=(l.map aaA).flatten)(_hl:l.length=n)(hj:j<=n)(v:aay):aql cur n j (aaA v)=((arF l j v).map aaA).flatten:=by
 have e1:cur.take (j * 2)=((l.take j).map aaA).flatten:=by
  rw [List.map_take,<-ahA _ _ (ab8 l),<-h,List.take_take,Abt (by omega)]
 have e2:(cur.drop (j * 2)).take ((n - j) * 2)=((l.drop j).map aaA).flatten:=by
  rw [List.map_drop,<-ahB _ _ (ab8 l),<-h,List.drop_take,show n * 2 - j * 2=(n - j) * 2 by omega]
 unfold aql arF;rw [e1,e2,Aa8,Abs,Aa8,Abs];simp
theorem akj {l:List (List Value)}(h:∀cs∈l,∀u∈cs,u.oneCell'=true):∀u∈l.flatten,u.oneCell'=true:=by
 intro u hu;obtain⟨cs,h1,h2⟩:=List.mem_flatten.1 hu;exact h cs h1 u h2
theorem akk(l:List aay):∀u∈(l.map aaA).flatten,u.oneCell'=true:=akj fun cs aD u hu=>by
 obtain⟨x,_,rfl⟩:=Aal.1 aD;simp only [aaA,Aam,Aao,or_false] at hu;rcases hu with rfl | rfl <;> rfl
variable {w:World}{base g c:Nat}
theorem amk(h:w.ownsRow base 41 2 (.slice (some ⟨g,0,none⟩) n c) n (l.map aaA).flatten):∃cur,adM w g 41 cur∧cur.length=c * 2∧cur.take (n * 2)=(l.map aaA).flatten∧l.length=n∧n<=c∧c<=9223372036854775807∧base<=g:=by
 have h1:=h.1;rw [abl (l.map aaA) (fun i cs hi=>ab8 l cs (Aae hi)),Aah] at h1;rcases h.2 with⟨e,-⟩ | ⟨g',cap,cur,e,h3,h4,h5,h6,h7,h8⟩
 . cases e
 . cases e
   unfold maxLen at h6;exact⟨cur.toList,by unfold adM;rw [Array.toArray_toList];exact h4,by simpa using h7,h8,by omega,h5,by omega,h3⟩
theorem aml(hr:adM w g 41 cur)(hl:cur.length=c * 2)(ht:cur.take (n * 2)=(l.map aaA).flatten)(hn:l.length=n)(aw:n<=c)(hc:c<=9223372036854775807)(hb:base<=g):w.ownsRow base 41 2 (.slice (some ⟨g,0,none⟩) n c) n (l.map aaA).flatten:=by
 refine⟨?_,.inr ⟨g,c,cur.toArray,rfl,hb,hr,aw,by unfold maxLen;exact hc,by simpa using hl,ht⟩⟩;rw [abl (l.map aaA) (fun i cs hi=>ab8 l cs (Aae hi)),Aah,hn]
theorem aiQ(h:w.ownsRow base 41 2 (.slice (some ⟨g,0,none⟩) n c) n (l.map aaA).flatten)(hk:k<n)(hn:n<=1048576) :
 Calls Tryz.prog 111 #[.slice (some ⟨g,0,none⟩) n c,.int .i64 (k:Int),.int .i64 ((k:Int)+1)] w fun e w' =>
  e = .returned (.slice (some ⟨g,0,none⟩) (n - 1) c)∧w.grownBy w' (some g)∧w'.ownsRow base 41 2 (.slice (some ⟨g,0,none⟩) (n - 1) c) (n - 1) ((aqm l k).map aaA).flatten:=by
 obtain⟨cur,h1,h2,h3,h4,h5,h6,h7⟩:=amk h;refine (ana g n c k cur w h1 h2 (by rw [h3];exact akk l) hk h5 hn h6).mono ?_;rintro e w' ⟨rfl,hg,af,g1,g2,g3⟩;refine⟨rfl,hg,aml g1 g2 ?_ (by rw [ajp (by omega),h4]) (by omega) h6 h7⟩;rw [g3,asg h3 h4 hk]
theorem aiR{b:Nat}  (v : aay)  (h : w.ownsRow base 41 2 (.slice (some ⟨g, 0, none⟩) n c) n (l.map aaA).flatten) (hj : j <= n) (aw : n + 1 <= c) (hn : n <= 1048576)
 (ar:w.heap[b]?=some (.cells #[.bool v.reg,.int .i64 v.n] 41 (0,0))) (au:b≠g) :
 Calls Tryz.prog 110 #[.slice (some ⟨g,0,none⟩) n c,.int .i64 (j:Int),.slice (some ⟨b,0,none⟩) 1 1] w fun e w' =>
  e = .returned (.slice (some ⟨g,0,none⟩) (n+1) c)∧w.grownBy w' (some g)∧w'.ownsRow base 41 2 (.slice (some ⟨g,0,none⟩) (n+1) c) (n+1) ((arF l j v).map aaA).flatten:=by
 obtain⟨cur,h1,h2,h3,h4,h5,h6,h7⟩:=amk h;refine (anb g n c j b v.reg v.n cur w h1 h2 (by rw [h3];exact akk l) hj aw hn h6 ar au).mono ?_;rintro e w' ⟨rfl,hg,af,g1,g2,g3⟩;refine⟨rfl,hg,aml g1 g2 ?_ (by rw [amj (by omega),h4]) aw h6 h7⟩;rw [g3];exact ash h3 h4 hj v
end
end Go.Proofs.YtpeejlpcikefcaaGreatDoor
