import Derived.Test.YtpeejlpcikefcaaGreatDoorPMany
/- mem, plain: what is known need not be loaded, what nobody reads need not be stored; the program's way and the document's come to the same. A pass over the blocks' lists, plainly: what it must keep so that a checked unit stays checked; behind it tidy gives but names. mem, plain: how many instructions of each kind are left; nobody loads what it has just loaded or stored. mem, plain: the laws MemFewer and MemOnce. -/
namespace Go.Proofs.YtpeejlpcikefcaaGreatDoor
section
open Go.RowKit
def eqV(a b:aay):Bool:=(a.reg == b.reg)&&decide (a.n=b.n)
theorem afm {a b:aay}:eqV a b=true↔a=b:=by
 obtain⟨r,n⟩:=a;obtain⟨r',n'⟩:=b;unfold eqV;simp
theorem amE(a:aay):eqV a a=true:=afm.2 rfl
def abX(a b:aay):Bool:=!a.reg&&(!b.reg&&decide (a.n≠b.n))
def ag2(words:Int)(y:aaJ):Bool:=if y.op=5∨y.op=6 then y.b.reg||decide (y.b.n=0) else if y.op=18∨y.op=19 then y.a.reg||(decide (y.a.n<0)||decide (words<=y.a.n)) else false
def abK : List (aay × aay) -> aay -> Option aay
 | [],_=>none
 | w :: W,a=>if eqV w.1 a=true then some w.2 else abK W a
def cpI(y:aaJ)(v:aay):aaJ:=⟨1,y.dst,v,⟨false,0⟩,0,[]⟩
def aaI(s:List (aay×aay)×List aaJ)(y:aaJ):List (aay×aay)×List aaJ :=
 if y.op = 18 then (match abK s.1 y.a with
  | some v => (s.1, s.2 ++ [cpI y v])
  | none => (s.1 ++ [(y.a, ⟨true, y.dst⟩)], s.2 ++ [y]))
 else if y.op=19 then (if abK s.1 y.a=some y.b then s else (s.1.filter (fun w=>abX w.1 y.a)++[(y.a,y.b)],s.2++[y]))
 else if y.op=20 then ([],s.2++[y]) else (s.1,s.2++[y])
def akw(l:List aaJ):List aaJ:=(l.foldl aaI ([],[])).2
def air(l:List aay)(a:aay):Bool:=l.any fun v=>eqV v a
def aa1(words:Int)(s:List aay×List aaJ)(y:aaJ):List aay×List aaJ :=
 if y.op=19 then (if air s.1 y.a=true then s else ((if ag2 words y=true then [] else s.1)++[y.a],s.2++[y]))
 else if y.op=18∨y.op=20∨y.op=22∨ag2 words y=true then ([],s.2++[y]) else (s.1,s.2++[y])
def agm(words:Int)(l:List aaJ):List aaJ:=(l.reverse.foldl (aa1 words) ([],[])).2.reverse
def ag3(words:Int)(l:List aaJ):List aaJ:=agm words (akw l)
def ao1(l:List aaJ)(gone:List Bool)(i:Nat):List aaJ:=((l.zip gone).take i).flatMap fun p=>if p.2=true then [] else [p.1]
theorem acA(w:aay×aay)(W:List (aay×aay))(a:aay):abK (w :: W) a=if eqV w.1 a=true then some w.2 else abK W a:=rfl
theorem ahQ (a : aay) : ∀ (W V : List (aay × aay)), abK (W ++ V) a = (match abK W a with | some v => some v | none => abK V a)
 | [],V=>rfl
 | w :: W,V=>by
   rw [Ab6,acA,acA]
   by_cases e:eqV w.1 a=true
   . rw [if_pos e,if_pos e]
   . rw [if_neg e,if_neg e];exact ahQ a W V
theorem akx(a b v:aay):abK [(b,v)] a=if b=a then some v else none:=by
 rw [acA]
 by_cases e:b=a
 . rw [if_pos e,if_pos (afm.2 e)]
 . rw [if_neg e,if_neg (fun h=>e (afm.1 h))];rfl
def anu (words : Int) (a : aay) : List (aaJ × Bool) -> Bool
 | []=>false
 | (x,c) :: r=>if c=true then anu words a r else if x.op=19∧x.a=a then true else if x.op=18∨x.op=20∨x.op=22∨ag2 words x=true then false else anu words a r
def aky (words : Int) : List aaJ -> List Bool
 | []=>[]
 | x :: l=>(decide (x.op=19)&&anu words x.a (l.zip (aky words l))) :: aky words l
theorem ajy (words : Int) : ∀ l, (aky words l).length = l.length
 | []=>rfl
 | x :: l=>by unfold aky;rw [Aba,Aba,ajy words l]
def unR(words:Int)(l:List aaJ):List aay×List aaJ:=l.reverse.foldl (aa1 words) ([],[])
theorem amF(words:Int)(x:aaJ)(l:List aaJ):unR words (x :: l)=aa1 words (unR words l) x:=by
 unfold unR;rw [List.reverse_cons,List.foldl_append];rfl
theorem ao3(l:List aay)(b a:aay):air (l++[b]) a=(air l a||eqV b a):=by unfold air;simp
variable {words:Int}{s:List aay×List aaJ}{x:aaJ}
theorem ahR(h:x.op=19)(hc:air s.1 x.a=true):aa1 words s x=s:=by unfold aa1;rw [if_pos h,if_pos hc]
theorem agG(h:x.op=19)(hc:¬air s.1 x.a=true):aa1 words s x=((if ag2 words x=true then [] else s.1)++[x.a],s.2++[x]):=by unfold aa1;rw [if_pos h,if_neg hc]
theorem ahS(h:¬x.op=19)(hc:x.op=18∨x.op=20∨x.op=22∨ag2 words x=true):aa1 words s x=([],s.2++[x]):=by unfold aa1;rw [if_neg h,if_pos hc]
theorem ahT(h:¬x.op=19)(hc:¬(x.op=18∨x.op=20∨x.op=22∨ag2 words x=true)):aa1 words s x=(s.1,s.2++[x]):=by unfold aa1;rw [if_neg h,if_neg hc]
theorem aeC(words:Int)(a:aay)(x:aaJ)(c:Bool)(r:List (aaJ×Bool)):anu words a ((x,c) :: r)=if c=true then anu words a r else if x.op=19∧x.a=a then true else if x.op=18∨x.op=20∨x.op=22∨ag2 words x=true then false else anu words a r:=rfl
theorem ahU(words:Int)(x:aaJ)(l:List aaJ):aky words (x :: l)=(decide (x.op=19)&&anu words x.a (l.zip (aky words l))) :: aky words l:=rfl
theorem amG (words : Int) : ∀ (l : List aaJ) (a : aay), air (unR words l).1 a = anu words a (l.zip (aky words l))
 | [],_=>rfl
 | x :: l,a=>by
   have ih:=amG words l;rw [amF,ahU,List.zip_cons_cons,aeC,<-ih x.a,<-ih a];obtain⟨s,hs⟩:∃s,s=unR words l:=⟨_,rfl⟩
   rw [<-hs]
   by_cases ad:x.op=19
   . by_cases hc:air s.1 x.a=true
     . have hd:(decide (x.op=19)&&air s.1 x.a)=true:=by rw [hc];simp [ad]
       rw [ahR ad hc,if_pos hd]
     . have hd:¬((decide (x.op=19)&&air s.1 x.a)=true):=by
        have:air s.1 x.a=false:=by simpa using hc
        rw [this];simp
       rw [agG ad hc,if_neg hd];dsimp only;rw [ao3]
       by_cases ha:x.a=a
       . have m1:x.op=19∧x.a=a:=⟨ad,ha⟩
         rw [afm.2 ha,Bool.or_true,if_pos m1]
       . have he:eqV x.a a=false:=by
          by_cases e:eqV x.a a=true
          . exact absurd (afm.1 e) ha
          . simpa using e
         have m2:¬(x.op=19∧x.a=a):=fun h=>ha h.2;rw [if_neg m2,he,Bool.or_false];have e1:¬x.op=18:=by omega
         have e2:¬x.op=20:=by omega
         have e3:¬x.op=22:=by omega
         by_cases hm:ag2 words x=true
         . rw [if_pos hm,if_pos (.inr (.inr (.inr hm)))];rfl
         . have m4:¬(x.op=18∨x.op=20∨x.op=22∨ag2 words x=true):=by
            rintro (h | h | h | h)
            . exact e1 h
            . exact e2 h
            . exact e3 h
            . exact hm h
           rw [if_neg hm,if_neg m4]
   . have hd:¬((decide (x.op=19)&&air s.1 x.a)=true):=by simp [ad]
     have m2:¬(x.op=19∧x.a=a):=fun h=>ad h.1;rw [if_neg hd,if_neg m2]
     by_cases hsee:x.op=18∨x.op=20∨x.op=22∨ag2 words x=true
     . rw [ahS ad hsee,if_pos hsee];rfl
     . rw [ahT ad hsee,if_neg hsee]
def ajz(l:List aaJ)(c:List Bool):List aaJ:=ao1 l c l.length
theorem akz(x:aaJ)(c:Bool)(l:List aaJ)(cs:List Bool)(_h:cs.length=l.length):ajz (x :: l) (c :: cs)=(if c=true then [] else [x])++ajz l cs:=by
 unfold ajz ao1;rw [List.zip_cons_cons,Aba,Ab1,List.flatMap_cons]
theorem afT (words : Int) : ∀ l : List aaJ, agm words l = ajz l (aky words l)
 | []=>rfl
 | x :: l=>by
   have ih:=afT words l;have aU:=amG words l x.a;have e0:agm words (x :: l)=(unR words (x :: l)).2.reverse:=rfl;have e1:agm words l=(unR words l).2.reverse:=rfl;rw [e0,amF,ahU,akz _ _ _ _ (ajy words l),<-ih,<-aU,e1];obtain⟨s,hs⟩:∃s,s=unR words l:=⟨_,rfl⟩
   rw [<-hs]
   by_cases ad:x.op=19
   . by_cases hc:air s.1 x.a=true
     . have hd:(decide (x.op=19)&&air s.1 x.a)=true:=by rw [hc];simp [ad]
       rw [ahR ad hc,if_pos hd];rfl
     . have hd:¬((decide (x.op=19)&&air s.1 x.a)=true):=by
        have:air s.1 x.a=false:=by simpa using hc
        rw [this];simp
       rw [agG ad hc,if_neg hd];dsimp only;rw [List.reverse_append];rfl
   . have hd:¬((decide (x.op=19)&&air s.1 x.a)=true):=by simp [ad]
     rw [if_neg hd]
     by_cases hsee:x.op=18∨x.op=20∨x.op=22∨ag2 words x=true
     . rw [ahS ad hsee]
       dsimp only;rw [List.reverse_append];rfl
     . rw [ahT ad hsee]
       dsimp only;rw [List.reverse_append];rfl
end
section
open Go.RowKit
def ap3(l:List aaJ)(v:aay):Prop:=(v.reg=false∧I64 v.n)∨∃y∈l,(y.op=19∧v=y.b)∨(y.op=18∧v=⟨true,y.dst⟩)
structure amH (g:List aaJ->List aaJ):Prop where
 mem:∀l,∀y∈g l,y∈l∨∃y0∈l,y0.op=18∧∃v,y=cpI y0 v∧ap3 l v
 len:∀l,(g l).length<=l.length
def acp(g:List aaJ->List aaJ)(x:DBlock):DBlock:={ x with list:=g x.list }
def acs(g:List aaJ->List aaJ)(f:aaz):aaz:={ f with blocks:=f.blocks.map (acp g) }
theorem ajA(g:List aaJ->List aaJ)(f:aaz):(acs g f).blocks=f.blocks.map (acp g):=rfl
theorem ajB(g:List aaJ->List aaJ)(f:aaz):(acs g f).params=f.params:=rfl
theorem alI(g:List aaJ->List aaJ)(f:aaz):(acs g f).regs=f.regs:=rfl
section
variable {g : List aaJ -> List aaJ} (hg : amH g)
include hg
omit hg in
theorem aqP(bs:List DBlock){b:Nat}(hb:b<bs.length):blkOf (bs.map (acp g)) b=acp g (blkOf bs b):=aa2 (by rw [Aak,aap bs hb];rfl)
variable {x:DBlock}
omit hg in
theorem asu(hn:aos x){v:aay}(h:ap3 x.list v):I64 v.n:=by
 rcases h with h | ⟨y,hy,⟨-,rfl⟩ | ⟨-,rfl⟩⟩
 . exact h.2
 . exact (hn.ins y hy).2.2.2.1
 . exact (hn.ins y hy).2.1
variable {fs:List aaz}
omit hg in
theorem ats{n:Nat}(hr:ac6 n x)(hc:∀y∈x.list,as0 fs y){v:aay}(h:ap3 x.list v):InV n v:=by
 rcases h with h | ⟨y,hy,⟨-,rfl⟩ | ⟨h18,rfl⟩⟩
 . exact fun e=>by rw [h.1] at e;cases e
 . exact (hr.ins y hy).2.1
 . exact fun _=>⟨(hc y hy).dst (by rw [h18];rfl) (fun e=>by rw [h18] at e;exact absurd e.1 (by decide)),(hr.ins y hy).2.2.2⟩
theorem akA(hn:aos x):aos (acp g x):=by
 refine⟨hn.kind,hn.on,hn.to,hn.phi,fun y hy=>?_⟩;rcases hg.mem x.list y hy with h | ⟨y0,h0,-,v,rfl,hv⟩
 . exact hn.ins y h
 . obtain⟨n1,n2,n3,n4,n5,n6⟩:=hn.ins y0 h0
   exact⟨agt 1 (by decide) (by decide),n2,asu hn hv,agt 0 (by decide) (by decide),agt 0 (by decide) (by decide),fun v hv=>by cases hv⟩
theorem ao4{n:Nat}{bs:List DBlock}(h:aen n bs)(hc:aeB fs bs):aen n (bs.map (acp g)):=by
 have hto:(bs.map (acp g)).map (·.fin.to)=bs.map (·.fin.to):=by rw [Abl];rfl
 have ae:∀{x},x∈bs.map (acp g)->∃x0∈bs,x=acp g x0:=fun hx=>by
  obtain⟨x0,h0,rfl⟩:=Aal.1 hx;exact⟨x0,h0,rfl⟩
 have aK:acU (bs.map (acp g)):=by
  refine⟨by rw [Aah];exact h.ok.len,fun x hx=>?_,fun x hx=>?_,fun x hx=>?_,fun x hx t ht=>?_,fun x hx=>?_,fun b hb q hq=>?_⟩
  . obtain⟨x0,h0,rfl⟩:=ae hx
    exact akA hg (h.ok.num x0 h0)
  . obtain⟨x0,h0,rfl⟩:=ae hx
    have hs:=h.ok.small x0 h0;refine⟨hs.phis,Aai (hg.len _) hs.list,hs.to,hs.src,fun y hy=>?_⟩;rcases hg.mem x0.list y hy with h1 | ⟨y0,h1,-,v,rfl,-⟩
    . exact hs.args _ h1
    . exact Aaj _
  . obtain⟨x0,h0,rfl⟩:=ae hx;exact h.ok.to2 x0 h0
  . obtain⟨x0,h0,rfl⟩:=ae hx
    rw [Aah];exact h.ok.toIn x0 h0 t ht
  . obtain⟨x0,h0,rfl⟩:=ae hx;exact h.ok.toNd x0 h0
  . rw [Aah] at hb
    rw [aqP bs hb] at hq;rw [acH _ _ 0 b hto];exact h.ok.src b hb q hq
 refine⟨aK,ail aK (by rw [Aah];exact h.tok.pos),fun x hx=>?_,?_,fun x hx=>?_⟩
 . obtain⟨x0,h0,rfl⟩:=ae hx;exact h.jump x0 h0
 . rw [Abl]
   exact Aai (apF fun x _=>hg.len x.list) h.sum
 . obtain⟨x0,h0,rfl⟩:=ae hx
   have hr:=h.reg x0 h0;refine⟨hr.phi,fun y hy=>?_,hr.on⟩;rcases hg.mem x0.list y hy with h1 | ⟨y0,h1,-,v,rfl,hv⟩
   . exact hr.ins y h1
   . obtain⟨n1,n2,n3,n4⟩:=hr.ins y0 h1
     exact⟨ats hr (fun y hy=>hc.ins x0 h0 y hy) hv,fun (e:false=true)=>(by cases e),fun v (hv:v∈[])=>(by cases hv),n4⟩
theorem asv{bs:List DBlock}(hc:aeB fs bs):aeB fs (bs.map (acp g)):=by
 refine⟨fun x hx=>?_,?_,fun x hx y hy=>?_,by rw [Aah];exact hc.len,?_⟩
 . obtain⟨x0,h0,rfl⟩:=Aal.1 hx;exact hc.kind x0 h0
 . have h0:=hc.phi0
   cases bs with
   | nil=>rfl
   | cons x l=>exact h0
 . obtain⟨x0,h0,rfl⟩:=Aal.1 hx
   rcases hg.mem x0.list y hy with h1 | ⟨y0,h1,h3,v,rfl,hv⟩
   . exact hc.ins x0 h0 y h1
   . have hi:=hc.ins x0 h0 y0 h1
     exact⟨show (1:Int)<=1∧(1:Int)<=22 from ⟨by decide,by decide⟩,rfl,fun _ _=>hi.dst (by rw [h3];rfl) (fun e=>by rw [h3] at e;exact absurd e.1 (by decide)),fun e=>absurd (show (1:Int)=20 from e) (by decide)⟩
 . refine Aai ?_ hc.many
   unfold aa6;rw [Abl];exact apF fun x _=>Nat.add_le_add_left (hg.len x.list) _
variable {gs:List aaF}
theorem aqQ{aQ:List aaF}(hn:ajx ⟨gs,fs⟩):ajx ⟨aQ,fs.map (acs g)⟩:=fun f hf x hx=>by
 obtain⟨f0,h0,rfl⟩:=Aal.1 hf;obtain⟨x0,h1,rfl⟩:=Aal.1 (show x∈List.map _ _ from hx);exact akA hg (hn f0 h0 x0 h1)
theorem ai1(h:aav ⟨gs,fs⟩=(0,0))(hn:ajx ⟨gs,fs⟩):aav ⟨gs,fs.map (acs g)⟩=(0,0):=by
 refine ahM (fs:=fs) h (by simp) fun k f hf=>?_;obtain⟨h1,h2,h3,h4,h5,h6⟩:=alE h hn hf;have an:=ao4 hg h1 h2;refine⟨f.regs.toNat,f.blocks.map (acp g),?_,an,asv hg h2,by omega,h4,an.tok.pos⟩;rw [Aak,hf,Abi h6];rfl
theorem asw(h:aav ⟨gs,fs⟩=(0,0))(hn:ajx ⟨gs,fs⟩){f:aaz}(hf:f∈fs.map abx) :
 ∃n:Nat,((∀x∈f.blocks.map (acp g),ac6 n x)∧f.params.toNat<=n∧n<=100)∧(abx (acs g f)).blocks=f.blocks.map fun x=>agE (ac1 (ach f.params.toNat n (f.blocks.map (acp g)))) (acp g x):=by
 obtain⟨f0,h0,rfl⟩:=Aal.1 hf;obtain⟨i,hi⟩:=List.mem_iff_getElem?.1 h0;have aV:(⟨gs,fs⟩:adL).funcs[i]?=some f0:=hi;obtain⟨h1,h2,h3,h4,h5,h6⟩:=alE h hn aV;have aB:f0.regs.toNat<=1048576:=by omega
 have aq:arJ (doB f0.params.toNat f0.regs.toNat f0.blocks):=aqO h1 (fun x hx=>(h2.kind x hx).2.2.1) h3 aB;have an:=aks h1 h3 aB;have aT:aeB fs (doB f0.params.toNat f0.regs.toNat f0.blocks):=aeB.do h1 h2 h3
 have hle:=aoV h1 h3;have ag:arJ ((doB f0.params.toNat f0.regs.toNat f0.blocks).map (acp g)):=aq.lists an.tok fun x=>⟨rfl,rfl⟩
 have ah:=ao4 hg an aT;have ak:f0.params.toNat<=(doN f0.params.toNat f0.regs.toNat f0.blocks).toNat:=by omega
 refine⟨(doN f0.params.toNat f0.regs.toNat f0.blocks).toNat,⟨?_,?_,?_⟩,?_⟩
 . rw [ad7];exact ah.reg
 . rw [afS];exact ak
 . omega
 . rw [ad7,ajA,ajB,alI,ad7,afS,alH]
   obtain⟨e,-,-⟩:=adR (bs:=(doB f0.params.toNat f0.regs.toNat f0.blocks).map (acp g)) ak ah.reg;unfold doB at e ⊢;rw [show adn ((adh f0.params.toNat f0.regs.toNat (adn f0.blocks)).map (acp g))=(adh f0.params.toNat f0.regs.toNat (adn f0.blocks)).map (acp g) from ag.kept ah.ok,e,Abl];exact Acj fun _ _=>rfl
end
def akB(g:List aaJ->List aaJ)(fs:List aaz):List aaz:=((fs.map abx).map (acs g)).map abx
theorem ao5(g:List aaJ->List aaJ)(fs:List aaz):(akB g fs).length=fs.length:=by unfold akB;simp
theorem aqR {g:List aaJ->List aaJ}(hg:amH g){gs:List aaF}{fs:List aaz}(h:aav ⟨gs,fs⟩=(0,0))(hn:ajx ⟨gs,fs⟩):aav ⟨gs,(fs.map abx).map (acs g)⟩=(0,0)∧ajx ⟨gs,(fs.map abx).map (acs g)⟩:=by
 have h1:aav ⟨gs,fs.map abx⟩=(0,0):=afl h hn;have h2:ajx ⟨gs,fs.map abx⟩:=ahN h hn;exact⟨ai1 hg h1 h2,aqQ hg h2⟩
theorem alJ {g:List aaJ->List aaJ}(hg:amH g){gs:List aaF}{fs:List aaz}(h:aav ⟨gs,fs⟩=(0,0))(hn:ajx ⟨gs,fs⟩):aav ⟨gs,akB g fs⟩=(0,0)∧ajx ⟨gs,akB g fs⟩:=by
 obtain⟨h1,h2⟩:=aqR hg h hn;exact⟨afl h1 h2,ahN h1 h2⟩
theorem ai2 (l : List aaJ) : ∀ i, i <= l.length -> (∀ y ∈ ((l.take i).foldl aaI ([], [])).2, y ∈ l ∨ ∃ y0 ∈ l, y0.op = 18 ∧ ∃ v, y = cpI y0 v ∧ ap3 l v) ∧ (∀ w ∈ ((l.take i).foldl aaI ([], [])).1, ap3 l w.2) ∧ ((l.take i).foldl aaI ([], [])).2.length <= i
 | 0,_=>⟨fun y h=>(by cases h),fun w h=>(by cases h),Aac _⟩
 | i+1,hi=>by
   have hl:i<l.length:=by omega
   have hy:l[i]?=some l[i]:=Aaa hl;have hm:l[i]∈l:=Aaq hl;obtain⟨y,au⟩:∃y,y=l[i]:=⟨_,rfl⟩
   rw [<-au] at hy hm;obtain⟨h1,h2,h3⟩:=ai2 l i (by omega);rw [abk aaI _ hy];obtain⟨s,hs⟩:∃s,s=(l.take i).foldl aaI ([],[]):=⟨_,rfl⟩
   rw [<-hs] at h1 h2 h3 ⊢;have av:∀(W:List (aay×aay)),(∀w∈W,ap3 l w.2)->∀a v,abK W a=some v->ap3 l v:=fun W=>by
    induction W with
    | nil=>intro _ a v h;cases h
    | cons w W ih =>
      intro hW a v h;rw [acA] at h
      by_cases e:eqV w.1 a=true
      . rw [if_pos e] at h
        injection h with h;rw [<-h];exact hW w (Aa2 ..)
      . rw [if_neg e] at h
        exact ih (fun w hw=>hW w (Aa0 _ hw)) a v h
   have af:∀z,(z∈l∨∃y0∈l,y0.op=18∧∃v,z=cpI y0 v∧ap3 l v)->∀x∈s.2++[z],x∈l∨∃y0∈l,y0.op=18∧∃v,x=cpI y0 v∧ap3 l v:=fun z hz x hx=>by
    rcases Aa7.1 hx with h | h
    . exact h1 x h
    . rw [Aax] at h;rw [h];exact hz
   have hlen:∀z:aaJ,(s.2++[z]).length<=i+1:=fun z=>by rw [Aau];show _+1<=_;omega
   unfold aaI
   by_cases h18:y.op=18
   . rw [if_pos h18]
     cases hf:abK s.1 y.a with
     | some v=>exact⟨af _ (.inr ⟨y,hm,h18,v,rfl,av s.1 h2 _ _ hf⟩),h2,hlen _⟩
     | none =>
       refine⟨af _ (.inl hm),fun w hw=>?_,hlen _⟩;rcases Aa7.1 hw with h | h
       . exact h2 w h
       . rw [Aax] at h;rw [h];exact .inr ⟨y,hm,.inr ⟨h18,rfl⟩⟩
   . rw [if_neg h18]
     by_cases ad:y.op=19
     . rw [if_pos ad]
       by_cases hgn:abK s.1 y.a=some y.b
       . rw [if_pos hgn];exact⟨h1,h2,by omega⟩
       . rw [if_neg hgn]
         refine⟨af _ (.inl hm),fun w hw=>?_,hlen _⟩;rcases Aa7.1 hw with h | h
         . exact h2 w (List.mem_filter.1 h).1
         . rw [Aax] at h;rw [h];exact .inr ⟨y,hm,.inl ⟨ad,rfl⟩⟩
     . rw [if_neg ad]
       by_cases h20:y.op=20
       . rw [if_pos h20]
         exact⟨af _ (.inl hm),fun w hw=>(by cases hw),hlen _⟩
       . rw [if_neg h20]
         exact⟨af _ (.inl hm),h2,hlen _⟩
theorem arK (l : List aaJ) : ∀ i, i <= l.length -> ((l.take i).foldl aaI ([], [])).1.length <= i
 | 0,_=>Aac _
 | i+1,hi=>by
   have hl:i<l.length:=by omega
   have hy:l[i]?=some l[i]:=Aaa hl;have h:=arK l i (by omega);rw [abk aaI _ hy];obtain⟨s,hs⟩:∃s,s=(l.take i).foldl aaI ([],[]):=⟨_,rfl⟩
   rw [<-hs] at h ⊢;obtain⟨y,au⟩:∃y,y=l[i]:=⟨_,rfl⟩
   rw [<-au];unfold aaI
   by_cases h18:y.op=18
   . rw [if_pos h18]
     cases abK s.1 y.a with
     | some v=>dsimp only;omega
     | none=>dsimp only;rw [Aau];show _+1<=_;omega
   . rw [if_neg h18]
     by_cases ad:y.op=19
     . rw [if_pos ad]
       by_cases hg:abK s.1 y.a=some y.b
       . rw [if_pos hg];omega
       . rw [if_neg hg]
         dsimp only;rw [Aau];have:=Aci (fun w:aay×aay=>abX w.1 y.a) s.1;show _+1<=_;omega
     . rw [if_neg ad]
       by_cases h20:y.op=20
       . rw [if_pos h20];exact Aaj _
       . rw [if_neg h20];dsimp only;omega
theorem amI(l:List aaJ)(c:List Bool):(ajz l c).Sublist l:=by
 unfold ajz ao1;have:∀(l:List aaJ) (c:List Bool),((l.zip c).flatMap fun p=>if p.2=true then [] else [p.1]).Sublist l:=fun l=>by
  induction l with
  | nil=>intro c;simp
  | cons x l ih =>
    intro c;cases c with
    | nil=>simp
    | cons b c =>
      rw [List.zip_cons_cons,List.flatMap_cons];cases b with
      | true=>exact (ih c).cons x
      | false=>exact (ih c).cons_cons x
 refine List.Sublist.trans ?_ (this l c);rw [Abq (by rw [List.length_zip];omega)];exact List.Sublist.refl _
theorem ajC(words:Int):amH (ag3 words):=by
 refine⟨fun l y hy=>?_,fun l=>?_⟩
 . unfold ag3 at hy
   rw [afT] at hy;have h1:=(amI _ _).subset hy;have h2:=(ai2 l l.length (Aac _)).1;rw [Aa1] at h2;exact h2 y h1
 . unfold ag3
   rw [afT];refine Aai (amI _ _).length_le ?_;have h2:=(ai2 l l.length (Aac _)).2.2;rw [Aa1] at h2;exact h2
end
section
open Go.RowKit
section
variable {gs : List aaF} {fs : List aaz}
theorem alK(h:agT ⟨gs,fs⟩=(0,0)):aav ⟨gs,fs⟩=(0,0)∧∀f∈fs,f.blocks.length<=(aaZ f.blocks).length:=by
 unfold agT at h
 by_cases hc:aav ⟨gs,fs⟩≠(0,0)
 . rw [if_pos hc] at h;exact absurd h hc
 . have aR:aav ⟨gs,fs⟩=(0,0):=by
    by_cases e:aav ⟨gs,fs⟩=(0,0)
    . exact e
    . exact absurd e hc
   rw [if_neg hc] at h;refine⟨aR,fun f hf=>?_⟩;dsimp only at h
   by_cases hp:ado (alV fs) fs.length<fs.length
   . rw [if_pos hp] at h
     have h1:alV fs (ado (alV fs) fs.length)=0:=congrArg Prod.fst h;exact absurd h1 (aeq hp)
   . obtain⟨k,hk⟩:=List.mem_iff_getElem?.1 hf
     have aS:=(Aad.1 hk).1;have h2:alV fs k=0:=agX hp k aS;unfold alV at h2;rw [hk] at h2;have h3:af0 f=0:=h2;unfold af0 at h3
     by_cases hl:(aaZ f.blocks).length<f.blocks.length
     . rw [if_pos hl] at h3;omega
     . omega
end
end
section
open Go.RowKit
def adu(z x:aaJ):Bool:=eqV z.a x.a&&(decide (x.op=18)||decide (z.op=19))
def adk (words : Int) : Option aaJ -> List aaJ -> Bool
 | _,[]=>true
 | last,x :: l =>
   if x.op = 18 ∨ x.op = 19 then (match last with
    | some z => if adu z x = true then false else adk words (some x) l
    | none => adk words (some x) l)
   else if 20<=x.op∨ag2 words x=true then adk words none l else adk words last l
theorem aeT(words:Int)(last:Option aaJ)(x:aaJ)(l:List aaJ):adk words last (x :: l) =
 if x.op = 18 ∨ x.op = 19 then (match last with
  | some z => if adu z x = true then false else adk words (some x) l
  | none => adk words (some x) l)
 else if 20<=x.op∨ag2 words x=true then adk words none l else adk words last l:=rfl
def arL : List (aay × aay) -> List aaJ -> Prop
 | _,[]=>True
 | W,x :: l=>(x.op=18->abK W x.a=none)∧arL (aaI (W,[]) x).1 l
theorem anv(W:List (aay×aay))(o o':List aaJ)(x:aaJ):(aaI (W,o) x).1=(aaI (W,o') x).1:=by
 unfold aaI
 by_cases h18:x.op=18
 . rw [if_pos h18,if_pos h18]
   dsimp only;cases abK W x.a <;> rfl
 . rw [if_neg h18,if_neg h18]
   by_cases ad:x.op=19
   . rw [if_pos ad,if_pos ad]
     dsimp only
     by_cases hg:abK W x.a=some x.b
     . rw [if_pos hg,if_pos hg]
     . rw [if_neg hg,if_neg hg]
   . rw [if_neg ad,if_neg ad]
     by_cases h20:x.op=20
     . rw [if_pos h20,if_pos h20]
     . rw [if_neg h20,if_neg h20]
def att(W:List (aay×aay))(l:List aaJ):List (aay×aay):=l.foldl (fun W x=>(aaI (W,[]) x).1) W
theorem adS (x : aaJ) : ∀ (l : List aaJ) (W : List (aay × aay)), arL W (l ++ [x]) ↔ arL W l ∧ (x.op = 18 -> abK (att W l) x.a = none)
 | [],W=>by
   show (_∧True)↔(True∧_);exact⟨fun h=>⟨trivial,h.1⟩,fun h=>⟨h.2,trivial⟩⟩
 | y :: l,W=>by
   show (_∧arL _ (l++[x]))↔((_∧arL _ l)∧_);rw [adS x l];constructor
   . rintro⟨a,b,c⟩;exact⟨⟨a,b⟩,c⟩
   . rintro⟨⟨a,b⟩,c⟩;exact⟨a,b,c⟩
theorem aeD(W:List (aay×aay))(l:List aaJ)(x:aaJ):att W (l++[x])=(aaI (att W l,[]) x).1:=by unfold att;rw [List.foldl_append];rfl
theorem amJ (l : List aaJ) : ∀ i, i <= l.length -> arL [] ((l.take i).foldl aaI ([], [])).2 ∧ att [] ((l.take i).foldl aaI ([], [])).2 = ((l.take i).foldl aaI ([], [])).1
 | 0,_=>⟨trivial,rfl⟩
 | i+1,hi=>by
   have hl:i<l.length:=by omega
   have hy:l[i]?=some l[i]:=Aaa hl;obtain⟨y,au⟩:∃y,y=l[i]:=⟨_,rfl⟩
   rw [<-au] at hy;obtain⟨h1,h2⟩:=amJ l i (by omega);rw [abk aaI _ hy];obtain⟨s,hs⟩:∃s,s=(l.take i).foldl aaI ([],[]):=⟨_,rfl⟩
   rw [<-hs] at h1 h2 ⊢;have aJ:∀z:aaJ,z.op≠18->(aaI (s.1,[]) z).1=(aaI (s.1,s.2) z).1:=fun z _=>anv _ _ _ _
   by_cases h18:y.op=18
   . have hk:aaI s y=match abK s.1 y.a with
      | some v=>(s.1,s.2++[cpI y v])
      | none=>(s.1++[(y.a,⟨true,y.dst⟩)],s.2++[y]):=by
      unfold aaI;exact (if_pos h18).trans (by cases abK s.1 y.a <;> rfl)
     rw [hk];cases hf:abK s.1 y.a with
     | some v =>
       dsimp only;refine⟨(adS _ _ _).2 ⟨h1,fun e=>absurd (show (1:Int)=18 from e) (by decide)⟩,?_⟩;rw [aeD,h2];unfold aaI;rw [if_neg (show ¬(cpI y v).op=18 from (by decide:¬(1:Int)=18)),if_neg (show ¬(cpI y v).op=19 from (by decide:¬(1:Int)=19)),if_neg (show ¬(cpI y v).op=20 from (by decide:¬(1:Int)=20))]
     | none =>
       dsimp only;refine⟨(adS _ _ _).2 ⟨h1,fun _=>by rw [h2];exact hf⟩,?_⟩;rw [aeD,h2];unfold aaI;rw [if_pos h18];dsimp only;rw [hf]
   . by_cases ad:y.op=19
     . by_cases hgn:abK s.1 y.a=some y.b
       . have hk:aaI s y=s:=by unfold aaI;rw [if_neg h18,if_pos ad,if_pos hgn]
         rw [hk];exact⟨h1,h2⟩
       . have hk:aaI s y=(s.1.filter (fun w=>abX w.1 y.a)++[(y.a,y.b)],s.2++[y]):=by unfold aaI;rw [if_neg h18,if_pos ad,if_neg hgn]
         rw [hk];refine⟨(adS _ _ _).2 ⟨h1,fun e=>absurd e h18⟩,?_⟩;rw [aeD,h2];unfold aaI;rw [if_neg h18,if_pos ad];dsimp only;rw [if_neg hgn]
     . by_cases h20:y.op=20
       . have hk:aaI s y=([],s.2++[y]):=by unfold aaI;rw [if_neg h18,if_neg ad,if_pos h20]
         rw [hk];refine⟨(adS _ _ _).2 ⟨h1,fun e=>absurd e h18⟩,?_⟩;rw [aeD,h2];unfold aaI;rw [if_neg h18,if_neg ad,if_pos h20]
       . have hk:aaI s y=(s.1,s.2++[y]):=by unfold aaI;rw [if_neg h18,if_neg ad,if_neg h20]
         rw [hk];refine⟨(adS _ _ _).2 ⟨h1,fun e=>absurd e h18⟩,?_⟩;rw [aeD,h2];unfold aaI;rw [if_neg h18,if_neg ad,if_neg h20]
theorem anw {W:List (aay×aay)}{x:aaJ}(h:x.op=18∨x.op=19):abK (aaI (W,[]) x).1 x.a≠none:=by
 unfold aaI
 by_cases h18:x.op=18
 . rw [if_pos h18]
   dsimp only;cases hf:abK W x.a with
   | some v=>dsimp only;rw [hf];exact fun h=>by cases h
   | none =>
     dsimp only;rw [ahQ,hf];dsimp only;rw [akx,if_pos rfl];exact fun h=>by cases h
 . have ad:x.op=19:=h.resolve_left h18
   rw [if_neg h18,if_pos ad];dsimp only
   by_cases hg:abK W x.a=some x.b
   . rw [if_pos hg]
     dsimp only;rw [hg];exact fun h=>by cases h
   . rw [if_neg hg]
     dsimp only;rw [ahQ];cases abK (W.filter fun w=>abX w.1 x.a) x.a with
     | some v=>exact fun h=>by cases h
     | none =>
       dsimp only;rw [akx,if_pos rfl];exact fun h=>by cases h
structure at5 (words:Int)(W:List (aay×aay))(last:Option aaJ)(K:List aaJ):Prop where
 at_:∀z,last=some z->abK W z.a≠none∨∃a,anu words a (K.zip (aky words K))=true
 st:∀z,last=some z->z.op=19->anu words z.a (K.zip (aky words K))=false
theorem aeE (words : Int) : ∀ (K : List aaJ) (W : List (aay × aay)) (last : Option aaJ), arL W K -> at5 words W last K -> adk words last (ajz K (aky words K)) = true
 | [],_,_,_,_=>rfl
 | x :: K,W,last,hk,hi=>by
   obtain⟨aM,aw⟩:(x.op=18->abK W x.a=none)∧arL (aaI (W,[]) x).1 K:=hk;have ha:=hi.at_;have ai:=hi.st;rw [ahU] at ha ai ⊢;rw [List.zip_cons_cons] at ha ai;rw [akz _ _ _ _ (ajy words K)];obtain⟨c,hc⟩:∃c,c=(decide (x.op=19)&&anu words x.a (K.zip (aky words K))):=⟨_,rfl⟩
   rw [<-hc] at ha ai ⊢;cases c with
   | true =>
     -- a store that goes
     have aF:=hc.symm;simp only [Abg,decide_eq_true_eq] at aF;rw [if_pos rfl,Abc];refine aeE words K _ last aw ⟨fun z hz => .inr ⟨x.a,aF.2⟩,fun z hz ad=>?_⟩;have:=ai z hz ad;rw [aeC,if_pos rfl] at this;exact this
   | false =>
     rw [if_neg (by decide)];show adk words last (x :: ajz K (aky words K))=true;rw [aeT]
     by_cases hm:x.op=18∨x.op=19
     . rw [if_pos hm]
       have ao:adk words (some x) (ajz K (aky words K))=true:=by
        refine aeE words K _ (some x) aw ⟨fun z hz=>?_,fun z hz ad=>?_⟩
        . injection hz with hz
          subst hz;exact .inl (anw hm)
        . injection hz with hz
          subst hz;have h:=hc.symm;simp only [Bool.and_eq_false_iff,decide_eq_false_iff_not] at h;exact h.resolve_left fun h=>h ad
       cases hl:last with
       | none=>exact ao
       | some z =>
         dsimp only
         by_cases aj:adu z x=true
         . exfalso
           unfold adu at aj;simp only [Abg,Bool.or_eq_true,decide_eq_true_eq] at aj;obtain⟨he,aO⟩:=aj;have aC:=afm.1 he
           by_cases h18:x.op=18
           . rcases ha z hl with h | ⟨a,h⟩
             . exact h (by rw [aC];exact aM h18)
             . rw [aeC,if_neg (by decide)] at h
               have m:¬(x.op=19∧x.a=a):=fun e=>by omega
               rw [if_neg m,if_pos (.inl h18)] at h;cases h
           . have ad:x.op=19:=hm.resolve_left h18
             have az:z.op=19:=aO.resolve_left h18;have h:=ai z hl az;rw [aeC,if_neg (by decide),if_pos ⟨ad,aC.symm⟩] at h;cases h
         . rw [if_neg aj];exact ao
     . rw [if_neg hm]
       by_cases hr:20<=x.op∨ag2 words x=true
       . rw [if_pos hr]
         exact aeE words K _ none aw ⟨fun z hz=>(by cases hz),fun z hz=>(by cases hz)⟩
       . rw [if_neg hr]
         have n18:¬x.op=18:=fun e=>hm (.inl e);have n19:¬x.op=19:=fun e=>hm (.inr e);have n20:¬x.op=20:=fun e=>hr (.inl (by omega));have ax:(aaI (W,[]) x).1=W:=by unfold aaI;rw [if_neg n18,if_neg n19,if_neg n20]
         have aD:∀a,anu words a ((x,false) :: K.zip (aky words K))=anu words a (K.zip (aky words K)):=fun a=>by
          have m1:¬(x.op=19∧x.a=a):=fun e=>n19 e.1;have m2:¬(x.op=18∨x.op=20∨x.op=22∨ag2 words x=true):=by
           rintro (e | e | e | e)
           . exact n18 e
           . exact n20 e
           . exact hr (.inl (by omega))
           . exact hr (.inr e)
          rw [aeC,if_neg (by decide),if_neg m1,if_neg m2]
         rw [ax] at aw;refine aeE words K _ last aw ⟨fun z hz=>?_,fun z hz ad=>?_⟩
         . rcases ha z hz with h | ⟨a,h⟩
           . exact .inl h
           . rw [aD] at h
             exact .inr ⟨a,h⟩
         . have h:=ai z hz ad
           rw [aD] at h;exact h
theorem aqS(words:Int)(l:List aaJ):adk words none (ag3 words l)=true:=by
 unfold ag3;rw [afT];have h:=(amJ l l.length (Aac _)).1;rw [Aa1] at h;exact aeE words _ [] none h ⟨fun z hz=>(by cases hz),fun z hz=>(by cases hz)⟩
def anx(s:Nm):Prop:=∀i j:Nat,0<=s.now.getD i (-1)->s.now.getD i (-1)=s.now.getD j (-1)->i=j
theorem agn {l:List Int}{i:Nat}(h:i<l.length)(d d':Int):l.getD i d=l.getD i d':=by
 rw [Aaf,Aaf,Aaa h];rfl
variable {n:Nat}
theorem asx{s:Nm}(hs:agL n s)(h:anx s){r:Int}(hr:0<=r∧r<n):anx (nmS s r):=by
 unfold nmS
 by_cases h0:s.now.getD r.toNat 0<0
 . rw [if_pos h0]
   have aP:r.toNat<s.now.length:=by rw [hs.len];omega
   have al:∀i,(s.now.set r.toNat s.many).getD i (-1)=if i=r.toNat then s.many else s.now.getD i (-1):=fun i=>by
    rw [Aaf,Aa5]
    by_cases e:r.toNat=i
    . subst e;rw [if_pos rfl,if_pos aP,if_pos rfl];rfl
    . rw [if_neg e,if_neg (fun e2=>e e2.symm),<-Aaf]
   have aH:∀i,s.now.getD i (-1)<s.many:=fun i=>by
    have hm:=hs.many_le;rw [Aaf];cases hi:s.now[i]? with
    | none=>show (-1:Int)<_;omega
    | some x=>exact (hs.lo x (Aae hi)).2
   intro i j hi e;dsimp only at hi e;rw [al] at hi e;rw [al] at e
   by_cases ei:i=r.toNat
   . rw [if_pos ei] at e
     by_cases ej:j=r.toNat
     . omega
     . rw [if_neg ej] at e
       have:=aH j;omega
   . rw [if_neg ei] at hi e
     by_cases ej:j=r.toNat
     . rw [if_pos ej] at e
       have:=aH i;omega
     . rw [if_neg ej] at e
       exact h i j hi e
 . rw [if_neg h0];exact h
structure Sj (n:Nat)(f:Nm->Nm):Prop where
 stp:Stp n f
 inj:∀s,agL n s->anx s->anx (f s)
theorem Sj.id(n:Nat):Sj n (fun s=>s):=⟨Stp.id n,fun _ _ h=>h⟩
theorem Sj.comp{f g:Nm->Nm}(h:Sj n f)(k:Sj n g):Sj n (fun s=>g (f s)):=⟨h.stp.comp k.stp,fun s hs hi=>k.inj _ (h.stp.ok s hs) (h.inj s hs hi)⟩
theorem Sj.fold{α : Type}  {f : Nm -> α -> Nm} : ∀ {l : List α}, (∀ x ∈ l, Sj n (fun s => f s x)) -> Sj n (fun s => l.foldl f s)
 | [],_=>Sj.id n
 | x :: l,h=>(h x (Aa2 ..)).comp (Sj.fold (l:=l) fun y hy=>h y (Aa0 _ hy))
theorem akC{r:Int}(hr:0<=r∧r<n):Sj n (fun s=>nmS s r):=⟨afk hr,fun _ hs h=>asx hs h hr⟩
theorem ahV{v:aay}(hv:InV n v):Sj n (fun s=>ael s v):=by
 unfold ael
 by_cases e:v.reg=true
 . simp only [if_pos e];exact akC (hv e)
 . simp only [if_neg e];exact Sj.id n
theorem ao6{l:List aay}(hl:∀v∈l,InV n v):Sj n (fun s=>aba s l):=Sj.fold fun v hv=>ahV (hl v hv)
theorem atu{d:Int}(hd:d<n):Sj n (fun s=>aie s d):=by
 unfold aie
 by_cases e:0<=d
 . simp only [if_pos e];exact akC ⟨e,hd⟩
 . simp only [if_neg e];exact Sj.id n
theorem atv{y:aaJ}(h:InI n y):Sj n (fun s=>acr s y):=(((ahV h.1).comp (ahV h.2.1)).comp (ao6 h.2.2.1)).comp (atu h.2.2.2)
theorem ao7{l:List aaJ}(h:∀y∈l,InI n y):Sj n (fun s=>l.foldl acr s):=Sj.fold fun y hy=>atv (h y hy)
theorem at6{x:DBlock}(h:ac6 n x):Sj n (fun s=>aiA s x):=((Sj.fold (f:=aiz) fun p hp=>(akC (h.phi p hp).1).comp (ao6 (h.phi p hp).2)).comp (ao7 fun y hy=>h.ins y hy)).comp (ahV h.on)
theorem at7{x:DBlock}(h:ac6 n x):Sj n (fun s=>anZ s x):=((Sj.fold (f:=al2) fun p hp=>akC (h.phi p hp).1).comp (ao7 fun y hy=>h.ins y hy)).comp (ahV h.on)
variable {p:Nat}
theorem atw(h:p<=n):Sj n (fun s=>agU s p):=Sj.fold (f:=fun s (r:Nat)=>nmS s (r:Int)) fun r hr=>akC (by have:=Abx.1 hr;omega)
variable {bs:List DBlock}
theorem aqT(hp:p<=n)(hr:∀x∈bs,ac6 n x):anx (ach p n bs):=by
 have h0:anx (nm0 n):=fun i j hi _=>by
  unfold nm0 at hi;rw [Aaf,Abz] at hi;split at hi
  . exact absurd hi (by decide)
  . exact absurd hi (by decide)
 have h1:=((atw hp).comp (Sj.fold (f:=anZ) fun x hx=>at7 (hr x hx))).comp (Sj.fold (f:=aiA) fun x hx=>at6 (hr x hx));exact h1.inj _ (amU n) h0
theorem asy(hp:p<=n)(hr:∀x∈bs,ac6 n x){u v:aay}(hu:InV n u)(hv:InV n v)(aN:InV (ach p n bs).many.toNat (agk (ac1 (ach p n bs)) u)):eqV (agk (ac1 (ach p n bs)) u) (agk (ac1 (ach p n bs)) v)=eqV u v:=by
 obtain⟨r,k⟩:=u;obtain⟨r',k'⟩:=v;unfold eqV agk;cases r <;> cases r' <;> simp
 have h1:0<=k∧k<n:=hu rfl;have h2:0<=k'∧k'<n:=hv rfl;have h3:0<=ac1 (ach p n bs) k:=(aN rfl).1;have hlen:=(amD hp hr).len;constructor
 . intro e
   have hi:=aqT hp hr k.toNat k'.toNat (by rw [agn (by omega) (-1) 0];exact h3) (by rw [agn (by omega) (-1) 0,agn (i:=k'.toNat) (by omega) (-1) 0];exact e);omega
 . intro e;rw [e]
theorem asz(f:Int->Int)(words:Int)(y:aaJ):ag2 words (aiY f y)=ag2 words y:=by
 obtain⟨o,d,⟨r,n⟩,⟨r2,n2⟩,fn,ar⟩:=y;unfold ag2 aiY agk;cases r <;> cases r2 <;> simp
theorem ag4(hp:p<=n)(hr:∀x∈bs,ac6 n x)(words:Int):∀(l:List aaJ) (last:Option aaJ),(∀y∈l,InV n y.a∧InV (ach p n bs).many.toNat (agk (ac1 (ach p n bs)) y.a))->(∀z,last=some z->InV n z.a∧InV (ach p n bs).many.toNat (agk (ac1 (ach p n bs)) z.a)) ->
 adk words (last.map (aiY (ac1 (ach p n bs)))) (l.map (aiY (ac1 (ach p n bs))))=adk words last l
 | [],_,_,_=>rfl
 | x :: l,last,hl,hz=>by
   have hx:=hl x (Aa2 ..);have ay:∀y∈l,_:=fun y hy=>hl y (Aa0 _ hy);rw [Aa3,aeT,aeT,asz];show (if x.op=18∨x.op=19 then _ else if 20<=x.op∨ag2 words x=true then _ else _)=_;have aI:=ag4 hp hr words l (some x) ay fun z e=>by injection e with e;rw [<-e];exact hx
   have aE:=ag4 hp hr words l none ay fun z e=>(by cases e)
   have aW:=ag4 hp hr words l last ay hz;have aj:∀z,last=some z->adu (aiY (ac1 (ach p n bs)) z) (aiY (ac1 (ach p n bs)) x)=adu z x:=fun z e=>by
    unfold adu;show (eqV (agk _ z.a) (agk _ x.a)&&_)=_;rw [asy hp hr (hz z e).1 hx.1 (hz z e).2];rfl
   cases last with
   | none =>
     rw [<-aI,<-aE];rfl
   | some z =>
     rw [<-aI,<-aE,<-aW];show (if x.op=18∨x.op=19 then (if adu (aiY _ z) (aiY _ x)=true then false else _) else _)=(if x.op=18∨x.op=19 then (if adu z x=true then false else _) else _);rw [aj z rfl];rfl
theorem ao8 {gs:List aaF}{fs:List aaz}(hc:aav ⟨gs,fs⟩=(0,0))(hn:ajx ⟨gs,fs⟩)(words:Int):∀f∈akB (ag3 words) fs,∀x∈f.blocks,adk words none x.list=true:=by
 intro f hf x hx;unfold akB at hf;rw [Abl] at hf;obtain⟨f1,aX,rfl⟩:=Aal.1 hf;obtain⟨n,⟨hr,hp,-⟩,hb⟩:=asw (ajC words) hc hn aX;have aG:x∈(abx (acs (ag3 words) f1)).blocks:=hx;rw [hb] at aG;obtain⟨x0,aL,rfl⟩:=Aal.1 aG;have aA:acp (ag3 words) x0∈f1.blocks.map (acp (ag3 words)):=Aal.2 ⟨x0,aL,rfl⟩;obtain⟨-,hE,-⟩:=adR hp hr;have h:=ag4 hp hr words (ag3 words x0.list) none (fun y hy=>⟨((hr _ aA).ins y hy).1,?_⟩) (fun z e=>(by cases e))
 . show adk words none (List.map _ (ag3 words x0.list))=true
   rw [show (none:Option aaJ)=none.map (aiY (ac1 (ach f1.params.toNat n (f1.blocks.map (acp (ag3 words)))))) from rfl,h];exact aqS words x0.list
 . exact ((hE _ aA).ins (aiY _ y) (Aal.2 ⟨y,hy,rfl⟩)).1
end
end Go.Proofs.YtpeejlpcikefcaaGreatDoor
