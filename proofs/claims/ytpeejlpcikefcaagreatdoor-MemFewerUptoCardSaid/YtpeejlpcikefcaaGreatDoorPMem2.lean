import Derived.Test.YtpeejlpcikefcaaGreatDoorPMany
/- mem, plain: what is known need not be loaded, what nobody reads need not be stored; the program's way and the document's come to the same. A pass over the blocks' lists, plainly: what it must keep so that a checked unit stays checked; behind it tidy gives but names. mem, plain: how many instructions of each kind are left; nobody loads what it has just loaded or stored. mem, plain: the laws MemFewer and MemOnce. -/
namespace Go.Proofs.YtpeejlpcikefcaaGreatDoor
section
open Go.RowKit
def eqV(a b:aaA):Bool:=(a.reg == b.reg)&&decide (a.n=b.n)
theorem ajr {a b:aaA}:eqV a b=true↔a=b:=by
 obtain⟨r,n⟩:=a;obtain⟨r',n'⟩:=b;unfold eqV;simp
theorem amD(a:aaA):eqV a a=true:=ajr.2 rfl
def acb(a b:aaA):Bool:=!a.reg&&(!b.reg&&decide (a.n≠b.n))
def anV(words:Int)(y:aaK):Bool:=if y.op=5∨y.op=6 then y.b.reg||decide (y.b.n=0) else if y.op=18∨y.op=19 then y.a.reg||(decide (y.a.n<0)||decide (words<=y.a.n)) else false
def adG : List (aaA × aaA) -> aaA -> Option aaA
 | [],_=>none
 | w :: W,a=>if eqV w.1 a=true then some w.2 else adG W a
def cpI(y:aaK)(v:aaA):aaK:=⟨1,y.dst,v,⟨false,0⟩,0,[]⟩
def aaX(s:List (aaA×aaA)×List aaK)(y:aaK):List (aaA×aaA)×List aaK :=
 if y.op = 18 then (match adG s.1 y.a with
  | some v => (s.1, s.2 ++ [cpI y v])
  | none => (s.1 ++ [(y.a, ⟨true, y.dst⟩)], s.2 ++ [y]))
 else if y.op=19 then (if adG s.1 y.a=some y.b then s else (s.1.filter (fun w=>acb w.1 y.a)++[(y.a,y.b)],s.2++[y]))
 else if y.op=20 then ([],s.2++[y]) else (s.1,s.2++[y])
def ae8(l:List aaK):List aaK:=(l.foldl aaX ([],[])).2
def ain(l:List aaA)(a:aaA):Bool:=l.any fun v=>eqV v a
def aa0(words:Int)(s:List aaA×List aaK)(y:aaK):List aaA×List aaK :=
 if y.op=19 then (if ain s.1 y.a=true then s else ((if anV words y=true then [] else s.1)++[y.a],s.2++[y]))
 else if y.op=18∨y.op=20∨y.op=22∨anV words y=true then ([],s.2++[y]) else (s.1,s.2++[y])
def ac2(words:Int)(l:List aaK):List aaK:=(l.reverse.foldl (aa0 words) ([],[])).2.reverse
def agS(words:Int)(l:List aaK):List aaK:=ac2 words (ae8 l)
def ao0(l:List aaK)(gone:List Bool)(i:Nat):List aaK:=((l.zip gone).take i).flatMap fun p=>if p.2=true then [] else [p.1]
theorem aeU(w:aaA×aaA)(W:List (aaA×aaA))(a:aaA):adG (w :: W) a=if eqV w.1 a=true then some w.2 else adG W a:=rfl
def arU (words : Int) (a : aaA) : List (aaK × Bool) -> Bool
 | []=>false
 | (x,c) :: r=>if c=true then arU words a r else if x.op=19∧x.a=a then true else if x.op=18∨x.op=20∨x.op=22∨anV words x=true then false else arU words a r
def ap6 (words : Int) : List aaK -> List Bool
 | []=>[]
 | x :: l=>(decide (x.op=19)&&arU words x.a (l.zip (ap6 words l))) :: ap6 words l
theorem ajs (words : Int) : ∀ l, (ap6 words l).length = l.length
 | []=>rfl
 | x :: l=>by unfold ap6;rw [Aa8,Aa8,ajs words l]
def unR(words:Int)(l:List aaK):List aaA×List aaK:=l.reverse.foldl (aa0 words) ([],[])
theorem amE(words:Int)(x:aaK)(l:List aaK):unR words (x :: l)=aa0 words (unR words l) x:=by
 unfold unR;rw [List.reverse_cons,List.foldl_append];rfl
theorem ao1(l:List aaA)(b a:aaA):ain (l++[b]) a=(ain l a||eqV b a):=by unfold ain;simp
variable {words:Int}{s:List aaA×List aaK}{x:aaK}
theorem ahO(h:x.op=19)(hc:ain s.1 x.a=true):aa0 words s x=s:=by unfold aa0;rw [if_pos h,if_pos hc]
theorem agH(h:x.op=19)(hc:¬ain s.1 x.a=true):aa0 words s x=((if anV words x=true then [] else s.1)++[x.a],s.2++[x]):=by unfold aa0;rw [if_pos h,if_neg hc]
theorem ahP(h:¬x.op=19)(hc:x.op=18∨x.op=20∨x.op=22∨anV words x=true):aa0 words s x=([],s.2++[x]):=by unfold aa0;rw [if_neg h,if_pos hc]
theorem ahQ(h:¬x.op=19)(hc:¬(x.op=18∨x.op=20∨x.op=22∨anV words x=true)):aa0 words s x=(s.1,s.2++[x]):=by unfold aa0;rw [if_neg h,if_neg hc]
theorem ao3(words:Int)(a:aaA)(x:aaK)(c:Bool)(r:List (aaK×Bool)):arU words a ((x,c) :: r)=if c=true then arU words a r else if x.op=19∧x.a=a then true else if x.op=18∨x.op=20∨x.op=22∨anV words x=true then false else arU words a r:=rfl
theorem ahR(words:Int)(x:aaK)(l:List aaK):ap6 words (x :: l)=(decide (x.op=19)&&arU words x.a (l.zip (ap6 words l))) :: ap6 words l:=rfl
theorem amF (words : Int) : ∀ (l : List aaK) (a : aaA), ain (unR words l).1 a = arU words a (l.zip (ap6 words l))
 | [],_=>rfl
 | x :: l,a=>by
   have ih:=amF words l;rw [amE,ahR,List.zip_cons_cons,ao3,<-ih x.a,<-ih a];obtain⟨s,hs⟩:∃s,s=unR words l:=⟨_,rfl⟩
   rw [<-hs]
   by_cases h19:x.op=19
   . by_cases hc:ain s.1 x.a=true
     . have hd:(decide (x.op=19)&&ain s.1 x.a)=true:=by rw [hc];simp [h19]
       rw [ahO h19 hc,if_pos hd]
     . have hd:¬((decide (x.op=19)&&ain s.1 x.a)=true):=by
        have:ain s.1 x.a=false:=by simpa using hc
        rw [this];simp
       rw [agH h19 hc,if_neg hd];dsimp only;rw [ao1]
       by_cases ha:x.a=a
       . have m1:x.op=19∧x.a=a:=⟨h19,ha⟩
         rw [ajr.2 ha,Bool.or_true,if_pos m1]
       . have he:eqV x.a a=false:=by
          by_cases e:eqV x.a a=true
          . exact absurd (ajr.1 e) ha
          . simpa using e
         have m2:¬(x.op=19∧x.a=a):=fun h=>ha h.2;rw [if_neg m2,he,Bool.or_false];have e1:¬x.op=18:=by omega
         have e2:¬x.op=20:=by omega
         have e3:¬x.op=22:=by omega
         by_cases hm:anV words x=true
         . rw [if_pos hm,if_pos (.inr (.inr (.inr hm)))];rfl
         . have m4:¬(x.op=18∨x.op=20∨x.op=22∨anV words x=true):=by
            rintro (h | h | h | h)
            . exact e1 h
            . exact e2 h
            . exact e3 h
            . exact hm h
           rw [if_neg hm,if_neg m4]
   . have hd:¬((decide (x.op=19)&&ain s.1 x.a)=true):=by simp [h19]
     have m2:¬(x.op=19∧x.a=a):=fun h=>h19 h.1;rw [if_neg hd,if_neg m2]
     by_cases hsee:x.op=18∨x.op=20∨x.op=22∨anV words x=true
     . rw [ahP h19 hsee,if_pos hsee];rfl
     . rw [ahQ h19 hsee,if_neg hsee]
def alJ(l:List aaK)(c:List Bool):List aaK:=ao0 l c l.length
theorem aky(x:aaK)(c:Bool)(l:List aaK)(cs:List Bool)(_h:cs.length=l.length):alJ (x :: l) (c :: cs)=(if c=true then [] else [x])++alJ l cs:=by
 unfold alJ ao0;rw [List.zip_cons_cons,Aa8,Ab2,List.flatMap_cons]
theorem afU (words : Int) : ∀ l : List aaK, ac2 words l = alJ l (ap6 words l)
 | []=>rfl
 | x :: l=>by
   have ih:=afU words l;have aJ:=amF words l x.a;have e0:ac2 words (x :: l)=(unR words (x :: l)).2.reverse:=rfl;have e1:ac2 words l=(unR words l).2.reverse:=rfl;rw [e0,amE,ahR,aky _ _ _ _ (ajs words l),<-ih,<-aJ,e1];obtain⟨s,hs⟩:∃s,s=unR words l:=⟨_,rfl⟩
   rw [<-hs]
   by_cases h19:x.op=19
   . by_cases hc:ain s.1 x.a=true
     . have hd:(decide (x.op=19)&&ain s.1 x.a)=true:=by rw [hc];simp [h19]
       rw [ahO h19 hc,if_pos hd];rfl
     . have hd:¬((decide (x.op=19)&&ain s.1 x.a)=true):=by
        have:ain s.1 x.a=false:=by simpa using hc
        rw [this];simp
       rw [agH h19 hc,if_neg hd];dsimp only;rw [List.reverse_append];rfl
   . have hd:¬((decide (x.op=19)&&ain s.1 x.a)=true):=by simp [h19]
     rw [if_neg hd]
     by_cases hsee:x.op=18∨x.op=20∨x.op=22∨anV words x=true
     . rw [ahP h19 hsee]
       dsimp only;rw [List.reverse_append];rfl
     . rw [ahQ h19 hsee]
       dsimp only;rw [List.reverse_append];rfl
end
section
open Go.RowKit
def ap7(l:List aaK)(v:aaA):Prop:=(v.reg=false∧I64 v.n)∨∃y∈l,(y.op=19∧v=y.b)∨(y.op=18∧v=⟨true,y.dst⟩)
structure akz (g:List aaK->List aaK):Prop where
 mem:∀l,∀y∈g l,y∈l∨∃y0∈l,y0.op=18∧∃v,y=cpI y0 v∧ap7 l v
 len:∀l,(g l).length<=l.length
def acj(g:List aaK->List aaK)(x:DBlock):DBlock:={ x with list:=g x.list }
def ack(g:List aaK->List aaK)(f:aav):aav:={ f with blocks:=f.blocks.map (acj g) }
theorem ajt(g:List aaK->List aaK)(f:aav):(ack g f).blocks=f.blocks.map (acj g):=rfl
theorem aju(g:List aaK->List aaK)(f:aav):(ack g f).params=f.params:=rfl
theorem alK(g:List aaK->List aaK)(f:aav):(ack g f).regs=f.regs:=rfl
section
variable {g : List aaK -> List aaK} (hg : akz g)
include hg
omit hg in
theorem aqZ(bs:List DBlock){b:Nat}(hb:b<bs.length):blkOf (bs.map (acj g)) b=acj g (blkOf bs b):=aaZ (by rw [Aak,aan bs hb];rfl)
variable {x:DBlock}
omit hg in
theorem asE(hn:aoq x){v:aaA}(h:ap7 x.list v):I64 v.n:=by
 rcases h with h | ⟨y,hy,⟨-,rfl⟩ | ⟨-,rfl⟩⟩
 . exact h.2
 . exact (hn.ins y hy).2.2.2.1
 . exact (hn.ins y hy).2.1
variable {fs:List aav}
omit hg in
theorem atB{n:Nat}(hr:aee n x)(hc:∀y∈x.list,as7 fs y){v:aaA}(h:ap7 x.list v):InV n v:=by
 rcases h with h | ⟨y,hy,⟨-,rfl⟩ | ⟨h18,rfl⟩⟩
 . exact fun e=>by rw [h.1] at e;cases e
 . exact (hr.ins y hy).2.1
 . exact fun _=>⟨(hc y hy).dst (by rw [h18];rfl) (fun e=>by rw [h18] at e;exact absurd e.1 (by decide)),(hr.ins y hy).2.2.2⟩
theorem akA(hn:aoq x):aoq (acj g x):=by
 refine⟨hn.kind,hn.on,hn.to,hn.phi,fun y hy=>?_⟩;rcases hg.mem x.list y hy with h | ⟨y0,h0,-,v,rfl,hv⟩
 . exact hn.ins y h
 . obtain⟨n1,n2,n3,n4,n5,n6⟩:=hn.ins y0 h0
   exact⟨agw 1 (by decide) (by decide),n2,asE hn hv,agw 0 (by decide) (by decide),agw 0 (by decide) (by decide),fun v hv=>by cases hv⟩
theorem ao4{n:Nat}{bs:List DBlock}(h:aen n bs)(hc:aeE fs bs):aen n (bs.map (acj g)):=by
 have hto:(bs.map (acj g)).map (·.fin.to)=bs.map (·.fin.to):=by rw [Abb];rfl
 have ae:∀{x},x∈bs.map (acj g)->∃x0∈bs,x=acj g x0:=fun hx=>by
  obtain⟨x0,h0,rfl⟩:=Aal.1 hx;exact⟨x0,h0,rfl⟩
 have ad:acC (bs.map (acj g)):=by
  refine⟨by rw [Aah];exact h.ok.len,fun x hx=>?_,fun x hx=>?_,fun x hx=>?_,fun x hx t ht=>?_,fun x hx=>?_,fun b hb q hq=>?_⟩
  . obtain⟨x0,h0,rfl⟩:=ae hx
    exact akA hg (h.ok.num x0 h0)
  . obtain⟨x0,h0,rfl⟩:=ae hx
    have hs:=h.ok.small x0 h0;refine⟨hs.phis,Aai (hg.len _) hs.list,hs.to,hs.src,fun y hy=>?_⟩;rcases hg.mem x0.list y hy with h1 | ⟨y0,h1,-,v,rfl,-⟩
    . exact hs.args _ h1
    . exact Aaj _
  . obtain⟨x0,h0,rfl⟩:=ae hx;exact h.ok.to2 x0 h0
  . obtain⟨x0,h0,rfl⟩:=ae hx
    rw [Aah];exact h.ok.toIn x0 h0 t ht
  . obtain⟨x0,h0,rfl⟩:=ae hx;exact h.ok.toNd x0 h0
  . rw [Aah] at hb
    rw [aqZ bs hb] at hq;rw [acH _ _ 0 b hto];exact h.ok.src b hb q hq
 refine⟨ad,aii ad (by rw [Aah];exact h.tok.pos),fun x hx=>?_,?_,fun x hx=>?_⟩
 . obtain⟨x0,h0,rfl⟩:=ae hx;exact h.jump x0 h0
 . rw [Abb]
   exact Aai (agM fun x _=>hg.len x.list) h.sum
 . obtain⟨x0,h0,rfl⟩:=ae hx
   have hr:=h.reg x0 h0;refine⟨hr.phi,fun y hy=>?_,hr.on⟩;rcases hg.mem x0.list y hy with h1 | ⟨y0,h1,-,v,rfl,hv⟩
   . exact hr.ins y h1
   . obtain⟨n1,n2,n3,n4⟩:=hr.ins y0 h1
     exact⟨atB hr (fun y hy=>hc.ins x0 h0 y hy) hv,fun (e:false=true)=>(by cases e),fun v (hv:v∈[])=>(by cases hv),n4⟩
theorem asF{bs:List DBlock}(hc:aeE fs bs):aeE fs (bs.map (acj g)):=by
 refine⟨fun x hx=>?_,?_,fun x hx y hy=>?_,by rw [Aah];exact hc.len,?_⟩
 . obtain⟨x0,h0,rfl⟩:=Aal.1 hx;exact hc.kind x0 h0
 . have h0:=hc.phi0
   cases bs with
   | nil=>rfl
   | cons x l=>exact h0
 . obtain⟨x0,h0,rfl⟩:=Aal.1 hx
   rcases hg.mem x0.list y hy with h1 | ⟨y0,h1,h3,v,rfl,hv⟩
   . exact hc.ins x0 h0 y h1
   . have hi:=hc.ins x0 h0 y0 h1
     exact⟨show (1:Int)<=1∧(1:Int)<=22 from ⟨by decide,by decide⟩,rfl,fun _ _=>hi.dst (by rw [h3];rfl) (fun e=>by rw [h3] at e;exact absurd e.1 (by decide)),fun e=>absurd (show (1:Int)=20 from e) (by decide)⟩
 . refine Aai ?_ hc.many
   unfold aa5;rw [Abb];exact agM fun x _=>Nat.add_le_add_left (hg.len x.list) _
variable {gs:List aaG}
theorem aq0{aH:List aaG}(hn:ais ⟨gs,fs⟩):ais ⟨aH,fs.map (ack g)⟩:=fun f hf x hx=>by
 obtain⟨f0,h0,rfl⟩:=Aal.1 hf;obtain⟨x0,h1,rfl⟩:=Aal.1 (show x∈List.map _ _ from hx);exact akA hg (hn f0 h0 x0 h1)
theorem aiV(h:aat ⟨gs,fs⟩=(0,0))(hn:ais ⟨gs,fs⟩):aat ⟨gs,fs.map (ack g)⟩=(0,0):=by
 refine ahK (fs:=fs) h (by simp) fun k f hf=>?_;obtain⟨h1,h2,h3,h4,h5,h6⟩:=aks h hn hf;have au:=ao4 hg h1 h2;refine⟨f.regs.toNat,f.blocks.map (acj g),?_,au,asF hg h2,by omega,h4,au.tok.pos⟩;rw [Aak,hf,Abf h6];rfl
theorem asG(h:aat ⟨gs,fs⟩=(0,0))(hn:ais ⟨gs,fs⟩){f:aav}(hf:f∈fs.map abi) :
 ∃n:Nat,((∀x∈f.blocks.map (acj g),aee n x)∧f.params.toNat<=n∧n<=100)∧(abi (ack g f)).blocks=f.blocks.map fun x=>afB (adE (aeD f.params.toNat n (f.blocks.map (acj g)))) (acj g x):=by
 obtain⟨f0,h0,rfl⟩:=Aal.1 hf;obtain⟨i,hi⟩:=Acl.1 h0;have aA:(⟨gs,fs⟩:adz).funcs[i]?=some f0:=hi;obtain⟨h1,h2,h3,h4,h5,h6⟩:=aks h hn aA;have aD:f0.regs.toNat<=1048576:=by omega
 have al:arT (doB f0.params.toNat f0.regs.toNat f0.blocks):=aqU h1 (fun x hx=>(h2.kind x hx).2.2.1) h3 aD;have au:=akt h1 h3 aD;have aL:aeE fs (doB f0.params.toNat f0.regs.toNat f0.blocks):=aeE.do h1 h2 h3
 have hle:=aoU h1 h3;have ai:arT ((doB f0.params.toNat f0.regs.toNat f0.blocks).map (acj g)):=al.lists au.tok fun x=>⟨rfl,rfl⟩
 have aj:=ao4 hg au aL;have aw:f0.params.toNat<=(doN f0.params.toNat f0.regs.toNat f0.blocks).toNat:=by omega
 refine⟨(doN f0.params.toNat f0.regs.toNat f0.blocks).toNat,⟨?_,?_,?_⟩,?_⟩
 . rw [adb];exact aj.reg
 . rw [afT];exact aw
 . omega
 . rw [adb,ajt,aju,alK,adb,afT,alI]
   obtain⟨e,-,-⟩:=adT (bs:=(doB f0.params.toNat f0.regs.toNat f0.blocks).map (acj g)) aw aj.reg;unfold doB at e ⊢;rw [show ac3 ((adm f0.params.toNat f0.regs.toNat (ac3 f0.blocks)).map (acj g))=(adm f0.params.toNat f0.regs.toNat (ac3 f0.blocks)).map (acj g) from ai.kept aj.ok,e,Abb];exact Abx fun _ _=>rfl
end
def afV(g:List aaK->List aaK)(fs:List aav):List aav:=((fs.map abi).map (ack g)).map abi
theorem ao5(g:List aaK->List aaK)(fs:List aav):(afV g fs).length=fs.length:=by unfold afV;simp
theorem aq1 {g:List aaK->List aaK}(hg:akz g){gs:List aaG}{fs:List aav}(h:aat ⟨gs,fs⟩=(0,0))(hn:ais ⟨gs,fs⟩):aat ⟨gs,(fs.map abi).map (ack g)⟩=(0,0)∧ais ⟨gs,(fs.map abi).map (ack g)⟩:=by
 have h1:aat ⟨gs,fs.map abi⟩=(0,0):=afn h hn;have h2:ais ⟨gs,fs.map abi⟩:=ahL h hn;exact⟨aiV hg h1 h2,aq0 hg h2⟩
theorem alL {g:List aaK->List aaK}(hg:akz g){gs:List aaG}{fs:List aav}(h:aat ⟨gs,fs⟩=(0,0))(hn:ais ⟨gs,fs⟩):aat ⟨gs,afV g fs⟩=(0,0)∧ais ⟨gs,afV g fs⟩:=by
 obtain⟨h1,h2⟩:=aq1 hg h hn;exact⟨afn h1 h2,ahL h1 h2⟩
theorem aiW (l : List aaK) : ∀ i, i <= l.length -> (∀ y ∈ ((l.take i).foldl aaX ([], [])).2, y ∈ l ∨ ∃ y0 ∈ l, y0.op = 18 ∧ ∃ v, y = cpI y0 v ∧ ap7 l v) ∧ (∀ w ∈ ((l.take i).foldl aaX ([], [])).1, ap7 l w.2) ∧ ((l.take i).foldl aaX ([], [])).2.length <= i
 | 0,_=>⟨fun y h=>(by cases h),fun w h=>(by cases h),Aac _⟩
 | i+1,hi=>by
   have hl:i<l.length:=by omega
   have hy:l[i]?=some l[i]:=Aaa hl;have hm:l[i]∈l:=Aas hl;obtain⟨y,an⟩:∃y,y=l[i]:=⟨_,rfl⟩
   rw [<-an] at hy hm;obtain⟨h1,h2,h3⟩:=aiW l i (by omega);rw [abo aaX _ hy];obtain⟨s,hs⟩:∃s,s=(l.take i).foldl aaX ([],[]):=⟨_,rfl⟩
   rw [<-hs] at h1 h2 h3 ⊢;have aq:∀(W:List (aaA×aaA)),(∀w∈W,ap7 l w.2)->∀a v,adG W a=some v->ap7 l v:=fun W=>by
    induction W with
    | nil=>intro _ a v h;cases h
    | cons w W ih =>
      intro hW a v h;rw [aeU] at h
      by_cases e:eqV w.1 a=true
      . rw [if_pos e] at h
        injection h with h;rw [<-h];exact hW w (Aa3 ..)
      . rw [if_neg e] at h
        exact ih (fun w hw=>hW w (Aa2 _ hw)) a v h
   have ag:∀z,(z∈l∨∃y0∈l,y0.op=18∧∃v,z=cpI y0 v∧ap7 l v)->∀x∈s.2++[z],x∈l∨∃y0∈l,y0.op=18∧∃v,x=cpI y0 v∧ap7 l v:=fun z hz x hx=>by
    rcases Aa7.1 hx with h | h
    . exact h1 x h
    . rw [Aax] at h;rw [h];exact hz
   have hlen:∀z:aaK,(s.2++[z]).length<=i+1:=fun z=>by rw [Aau];show _+1<=_;omega
   unfold aaX
   by_cases h18:y.op=18
   . rw [if_pos h18]
     cases hf:adG s.1 y.a with
     | some v=>exact⟨ag _ (.inr ⟨y,hm,h18,v,rfl,aq s.1 h2 _ _ hf⟩),h2,hlen _⟩
     | none =>
       refine⟨ag _ (.inl hm),fun w hw=>?_,hlen _⟩;rcases Aa7.1 hw with h | h
       . exact h2 w h
       . rw [Aax] at h;rw [h];exact .inr ⟨y,hm,.inr ⟨h18,rfl⟩⟩
   . rw [if_neg h18]
     by_cases h19:y.op=19
     . rw [if_pos h19]
       by_cases hgn:adG s.1 y.a=some y.b
       . rw [if_pos hgn];exact⟨h1,h2,by omega⟩
       . rw [if_neg hgn]
         refine⟨ag _ (.inl hm),fun w hw=>?_,hlen _⟩;rcases Aa7.1 hw with h | h
         . exact h2 w (List.mem_filter.1 h).1
         . rw [Aax] at h;rw [h];exact .inr ⟨y,hm,.inl ⟨h19,rfl⟩⟩
     . rw [if_neg h19]
       by_cases h20:y.op=20
       . rw [if_pos h20]
         exact⟨ag _ (.inl hm),fun w hw=>(by cases hw),hlen _⟩
       . rw [if_neg h20]
         exact⟨ag _ (.inl hm),h2,hlen _⟩
theorem arV (l : List aaK) : ∀ i, i <= l.length -> ((l.take i).foldl aaX ([], [])).1.length <= i
 | 0,_=>Aac _
 | i+1,hi=>by
   have hl:i<l.length:=by omega
   have hy:l[i]?=some l[i]:=Aaa hl;have h:=arV l i (by omega);rw [abo aaX _ hy];obtain⟨s,hs⟩:∃s,s=(l.take i).foldl aaX ([],[]):=⟨_,rfl⟩
   rw [<-hs] at h ⊢;obtain⟨y,an⟩:∃y,y=l[i]:=⟨_,rfl⟩
   rw [<-an];unfold aaX
   by_cases h18:y.op=18
   . rw [if_pos h18]
     cases adG s.1 y.a with
     | some v=>dsimp only;omega
     | none=>dsimp only;rw [Aau];show _+1<=_;omega
   . rw [if_neg h18]
     by_cases h19:y.op=19
     . rw [if_pos h19]
       by_cases hg:adG s.1 y.a=some y.b
       . rw [if_pos hg];omega
       . rw [if_neg hg]
         dsimp only;rw [Aau];have:=Ack (fun w:aaA×aaA=>acb w.1 y.a) s.1;show _+1<=_;omega
     . rw [if_neg h19]
       by_cases h20:y.op=20
       . rw [if_pos h20];exact Aaj _
       . rw [if_neg h20];dsimp only;omega
theorem ajv(l:List aaK)(c:List Bool):(alJ l c).Sublist l:=by
 unfold alJ ao0;have:∀(l:List aaK) (c:List Bool),((l.zip c).flatMap fun p=>if p.2=true then [] else [p.1]).Sublist l:=fun l=>by
  induction l with
  | nil=>intro c;simp
  | cons x l ih =>
    intro c;cases c with
    | nil=>simp
    | cons b c =>
      rw [List.zip_cons_cons,List.flatMap_cons];cases b with
      | true=>exact (ih c).cons x
      | false=>exact (ih c).cons_cons x
 refine List.Sublist.trans ?_ (this l c);rw [Abr (by rw [List.length_zip];omega)];exact List.Sublist.refl _
theorem ajw(words:Int):akz (agS words):=by
 refine⟨fun l y hy=>?_,fun l=>?_⟩
 . unfold agS at hy
   rw [afU] at hy;have h1:=(ajv _ _).subset hy;have h2:=(aiW l l.length (Aac _)).1;rw [Aa0] at h2;exact h2 y h1
 . unfold agS
   rw [afU];refine Aai (ajv _ _).length_le ?_;have h2:=(aiW l l.length (Aac _)).2.2;rw [Aa0] at h2;exact h2
end
section
open Go.RowKit
def agT(op:Int)(x:DBlock):Nat:=x.list.countP fun y=>decide (y.op=op)
def ag2(op:Int)(bs:List DBlock):Nat:=(bs.map (agT op)).sum
theorem acU(op:Int)(fs:List aav):manyO op fs=(fs.map fun f=>ag2 op f.blocks).sum:=amB op fs
variable {bs:List DBlock}
theorem aq2(ht:aem bs)(ah:bs.length<=(aaT bs).length)(op:Int):ag2 op (aa1 bs (ordL bs))=ag2 op bs:=by
 have ho:=aef ht;have hl:(ordL bs).length=(aaT bs).length:=by unfold ordL;exact Ace
 have ao:∀x∈ordL bs,x∈abx bs.length:=fun x hx=>by
  have:=ho.inn x hx;unfold abx;exact Aal.2 ⟨x.toNat,Abv.2 (by omega),by omega⟩
 have aQ:(abx bs.length).length=bs.length:=by unfold abx;simp
 have hp:(ordL bs).Perm (abx bs.length):=by
  refine (List.perm_ext_iff_of_nodup ho.nd (ahN _)).2 fun x=>⟨ao x,fun hx=>?_⟩
  by_cases hm:x∈ordL bs
  . exact hm
  . have := List.Nodup.length_le_of_subset (l₁ := x :: ordL bs) (l₂ := abx bs.length) (List.nodup_cons.2 ⟨hm, ho.nd⟩) (fun y hy => by
     rcases Aam.1 hy with h | h
     . rw [h]; exact hx
     . exact ao y h)
    rw [Aa8] at this;omega
 have e1:(aa1 bs (ordL bs)).map (agT op)=(ordL bs).map fun b=>agT op (blkOf bs b.toNat):=by
  unfold aa1;rw [Abb];exact Abx fun b _=>rfl
 have e2:bs.map (agT op)=(abx bs.length).map fun b=>agT op (blkOf bs b.toNat):=by
  apply Aao;intro i;rw [Aak,Aak]
  by_cases hi:i<bs.length
  . rw [aan bs hi,aeF hi];rfl
  . rw [Aap (by omega),Aap (by unfold abx;simp;omega)];rfl
 unfold ag2;rw [e1,e2];exact (hp.map _).sum_nat
theorem ao6{b:Nat}(ad:ae4 bs)(hb:b<bs.length)(h:acd bs b=true)(op:Int):ag2 op (aaJ bs b)=ag2 op bs:=by
 obtain⟨h1,h2,-,-,h5,-⟩:=aba ad hb h;have ak:b<(ac7 bs (toJ bs b) b).length:=by rw [aa7];exact hb
 have aC:toJ bs b<((ac7 bs (toJ bs b) b).set b (afZ bs (toJ bs b) b)).length:=by rw [Aar,aa7];exact h5
 have hc:∀i,agT op (blkOf (ac7 bs (toJ bs b) b) i)=agT op (blkOf bs i):=fun i=>by unfold agT;rw [(aaN ad.ok h5 i).2.1]
 have hr:(ac7 bs (toJ bs b) b).map (agT op)=bs.map (agT op):=by
  apply Aao;intro i;rw [Aak,Aak]
  by_cases hi:i<bs.length
  . rw [aan bs hi,aan (ac7 bs (toJ bs b) b) (by rw [aa7];exact hi),Aaw,Aaw,hc]
  . rw [Aap (by rw [aa7];omega),Aap (by omega)]
 have s1:=ab6 (agT op) (ac7 bs (toJ bs b) b) b (afZ bs (toJ bs b) b) ak;have s2:=ab6 (agT op) ((ac7 bs (toJ bs b) b).set b (afZ bs (toJ bs b) b)) (toJ bs b) ac6 aC;rw [ab0 ak,hc,hr] at s1;rw [ab0 aC,aaR ak,if_neg h2,hc] at s2;have s3:agT op (afZ bs (toJ bs b) b)=agT op (blkOf bs b)+agT op (blkOf bs (toJ bs b)):=by simp [afZ,agT]
 have s4:agT op ac6=0:=rfl;unfold ag2 aaJ;omega
theorem ans(ad:ae4 bs)(op:Int):ag2 op (acm bs)=ag2 op bs :=
 abI (P:=fun l=>ag2 op l=ag2 op bs) (fun l b ad hb hm h=>by rw [ao6 ad hb hm];exact h) ad rfl _ (Aac _)
theorem ao7(f:Int->Int)(op:Int)(bs:List DBlock):ag2 op (bs.map (afB f))=ag2 op bs:=by
 unfold ag2;rw [Abb]
 congr 1
 refine Abx fun x _=>?_;show (List.map (aoS f) x.list).countP _=_;rw [List.countP_map];rfl
theorem ao8(ht:aem bs)(aB:∀c,c<bs.length->¬(c:Int)∈aaT bs->(blkOf bs c).list=[])(op:Int):ag2 op (aa1 bs (ordL bs))=ag2 op bs:=by
 have ho:=aef ht;have e1:(aa1 bs (ordL bs)).map (agT op)=(ordL bs).map fun b=>agT op (blkOf bs b.toNat):=by
  unfold aa1;rw [Abb];exact Abx fun b _=>rfl
 have e2:bs.map (agT op)=(abx bs.length).map fun b=>agT op (blkOf bs b.toNat):=by
  apply Aao;intro i;rw [Aak,Aak]
  by_cases hi:i<bs.length
  . rw [aan bs hi,aeF hi];rfl
  . rw [Aap (by omega),Aap (by unfold abx;simp;omega)];rfl
 have hp:((abx bs.length).filter fun x=>decide (x∈aaT bs)).Perm (ordL bs):=by
  refine (List.perm_ext_iff_of_nodup ((ahN _).filter _) ho.nd).2 fun x=>?_;rw [List.mem_filter,decide_eq_true_iff];constructor
  . exact fun h=>Abs.2 h.2
  . intro h
    have:=ho.inn x h;refine⟨?_,Abs.1 h⟩;unfold abx;exact Aal.2 ⟨x.toNat,Abv.2 (by omega),by omega⟩
 have hz:∀l:List Int,(∀x∈l,0<=x∧x.toNat<bs.length)->(l.map fun b=>agT op (blkOf bs b.toNat)).sum=((l.filter fun x=>decide (x∈aaT bs)).map fun b=>agT op (blkOf bs b.toNat)).sum:=fun l=>by
  induction l with
  | nil=>intro _;rfl
  | cons x l ih =>
    intro hl;have hx:=hl x (Aa3 ..);have aF:=ih fun y hy=>hl y (Aa2 _ hy)
    by_cases hm:x∈aaT bs
    . rw [List.filter_cons,if_pos (by simpa using hm),Aa1,Aa1,Abj,Abj,aF]
    . rw [List.filter_cons,if_neg (by simpa using hm),Aa1,Abj,aF]
      have h0:agT op (blkOf bs x.toNat)=0:=by
       have:=aB x.toNat hx.2 (by rw [Abf hx.1];exact hm);unfold agT;rw [this];rfl
      omega
 unfold ag2;have hr:=hz (abx bs.length) fun x hx=>by
  unfold abx at hx;obtain⟨i,hi,rfl⟩:=Aal.1 hx;have:=Abv.1 hi;omega
 rw [e1,e2,hr];exact (hp.map _).sum_nat.symm
structure as8 (bs:List DBlock):Prop where
 r:aoW bs
 emp:∀c,c<bs.length->Rch bs c∨(blkOf bs c).list=[]
theorem as8.merge{b:Nat}(h:as8 bs)(ad:ae4 bs)(hb:b<bs.length)(hm:acd bs b=true):as8 (aaJ bs b):=by
 refine⟨h.r.merge ad hb hm,fun c hc=>?_⟩;obtain⟨h1,h2,h3,h4,h5,h6⟩:=aba ad hb hm;have ay:=aeI hb h5;rw [aaQ] at hc;have hto:∀c,c≠toJ bs b->c≠b->(blkOf (aaJ bs b) c).fin.to=(blkOf bs c).fin.to:=fun c n1 n2=>by
  rw [ay,if_neg n1,if_neg n2,(aaN ad.ok h5 c).1]
 have aK:(blkOf (aaJ bs b) b).fin.to=(blkOf bs (toJ bs b)).fin.to:=by
  rw [ay,if_neg (fun e=>h2 e.symm),if_pos rfl];rfl
 have aT:1<=toJ bs b:=by
  have:=h.r.one _ (aar hb) ((toJ bs b:Nat):Int) (by rw [h4];exact Aax.2 rfl);omega
 have av:∀c,Rch bs c->(c≠toJ bs b->Rch (aaJ bs b) c)∧(c=toJ bs b->Rch (aaJ bs b) b):=fun c hc=>by
  induction hc with
  | zero=>exact⟨fun _ => .zero,fun e=>by omega⟩
  | @step c u _ hcl hu ih =>
    by_cases hct:c=toJ bs b
    . have ak:=ih.2 hct
      have aM:(u:Int)∈(blkOf (aaJ bs b) b).fin.to:=by rw [aK,<-hct];exact hu
      refine⟨fun _=>ak.step (by rw [aaQ];exact hb) aM,fun e=>ak⟩
    . have aE:=ih.1 hct
      refine⟨fun aR=>?_,fun e=>?_⟩
      . by_cases hcb:c=b
        . subst hcb
          rw [h4,Aax] at hu;omega
        . exact aE.step (by rw [aaQ];exact hcl) (by rw [hto c hct hcb];exact hu)
      . have:=h6 c hcl (by rw [<-e];exact hu)
        subst this;exact aE
 by_cases n1:c=toJ bs b
 . right
   rw [ay,if_pos n1];rfl
 . by_cases n2:c=b
   . left
     refine (av c ?_).1 n1;subst n2;exact h.r.all c hb (by rw [h4];simp)
   . rcases h.emp c hc with h7 | h7
     . exact .inl ((av c h7).1 n1)
     . right
       rw [ay,if_neg n1,if_neg n2,(aaN ad.ok h5 c).2.1];exact h7
theorem ao9(ad:acC bs)(ht:aem bs)(h1:∀x∈bs,∀t∈x.fin.to,1<=t):as8 (aa1 bs (ordL bs)):=by
 have ho:=aef ht;have hlen:(abj bs).length=(ordL bs).length:=by unfold abj;rw [Aah]
 have ar:∀j (hj:j<(ordL bs).length),(ordL bs)[j]?=some (((abj bs)[j]'(by omega):Nat):Int):=fun j hj=>by
  have:=ho.inn _ (Aas hj);rw [Aaa hj];unfold abj;rw [Acc,Abf this.1]
 refine⟨akw ad ht h1,fun c hc => .inl ?_⟩;rw [abg] at hc
 induction c using Nat.strongRecOn with
 | _ c ih =>
   by_cases h0:c=0
   . subst h0;exact .zero
   . obtain⟨y,hy,j',aS,aP,rfl⟩:=al1 ht (j:=c) (by omega) (by omega)
     have az:j'<(ordL bs).length:=by omega
     refine (ih j' aP az).step (by rw [abg];exact az) ?_;rw [acY (ar j' az),Aan];show _∈List.map _ _;unfold aeo at hy;obtain⟨z,hz,ez⟩:=Aal.1 hy;obtain⟨i,w,k1,k2,k3⟩:=ab5.1 hz;have ei:i=(abj bs)[j']'(by omega):=by omega
     refine Aal.2 ⟨(((abj bs)[c]'(by omega):Nat):Int),?_,?_⟩
     . rw [<-ei,aaZ k1];exact k2
     . rw [Aan]
       exact adK ho.nd (ar c hc)
theorem aq3{p n:Nat}(h:aen n bs)(h1:∀x∈bs,∀t∈x.fin.to,1<=t)(hp:p<=n)(ah:bs.length<=(aaT bs).length)(op:Int):ag2 op (doB p n bs)=ag2 op bs:=by
 have hk:=h.kept;have hE:as8 (amT bs):=abI (P:=as8) (fun _ _ ad hb hm h=>h.merge ad hb hm) h.keep.ch (ao9 h.ok h.tok h1) _ (Aac _);obtain⟨eB,-,-⟩:=adT hp hk.reg;have aO:doB p n bs=(ac3 bs).map (afB (adE (aeD p n (ac3 bs)))):=eB;rw [aO,ao7]
 have e1 : ag2 op (ac3 bs) = ag2 op (amT bs) := ao8 h.pre.tok (fun c hc hn => by
  rcases hE.emp c hc with h7 | h7
  . exact absurd (h7.post h.pre.tok) hn
  . exact h7) op
 rw [e1];unfold amT;rw [ans h.keep.ch,aq2 h.tok ah]
def adN(op:Int)(l:List aaK):Nat:=l.countP fun y=>decide (y.op=op)
theorem aaH(op:Int)(l:List aaK)(y:aaK):adN op (l++[y])=adN op l+if y.op=op then 1 else 0:=by
 unfold adN;rw [List.countP_append,List.countP_cons,List.countP_nil]
 by_cases h:y.op=op <;> simp [h]
theorem amG(l:List aaK):∀i,i<=l.length->(∀op,op≠1->op≠18->op≠19->adN op ((l.take i).foldl aaX ([],[])).2=adN op (l.take i))∧adN 18 ((l.take i).foldl aaX ([],[])).2<=adN 18 (l.take i)∧adN 19 ((l.take i).foldl aaX ([],[])).2<=adN 19 (l.take i) ∧
 adN 18 ((l.take i).foldl aaX ([],[])).2+adN 1 ((l.take i).foldl aaX ([],[])).2=adN 18 (l.take i)+adN 1 (l.take i)
 | 0,_=>⟨fun _ _ _ _=>rfl,Aac _,Aac _,rfl⟩
 | i+1,hi=>by
   have hl:i<l.length:=by omega
   have hy:l[i]?=some l[i]:=Aaa hl;obtain⟨y,an⟩:∃y,y=l[i]:=⟨_,rfl⟩
   rw [<-an] at hy;obtain⟨h1,h2,h3,h4⟩:=amG l i (by omega);rw [abo aaX _ hy];have aI:l.take (i+1)=l.take i++[y]:=by rw [Ab7,hy];rfl
   rw [aI];obtain⟨s,hs⟩:∃s,s=(l.take i).foldl aaX ([],[]):=⟨_,rfl⟩
   rw [<-hs] at h1 h2 h3 h4 ⊢;have ax:∀v,(cpI y v).op=1:=fun _=>rfl;unfold aaX
   by_cases h18:y.op=18
   . rw [if_pos h18]
     cases adG s.1 y.a with
     | some v =>
       dsimp only;refine⟨fun op o1 o2 o3=>?_,?_,?_,?_⟩
       . rw [aaH,aaH,ax,h18,if_neg (fun e=>o1 e.symm),if_neg (fun e=>o2 e.symm),h1 op o1 o2 o3]
       . rw [aaH,aaH,ax,h18,if_neg (by decide),if_pos rfl];omega
       . rw [aaH,aaH,ax,h18,if_neg (by decide),if_neg (by decide)];omega
       . rw [aaH,aaH,aaH,aaH,ax,h18,if_neg (by decide),if_pos rfl,if_pos rfl,if_neg (by decide)];omega
     | none =>
       dsimp only;refine⟨fun op o1 o2 o3=>?_,?_,?_,?_⟩
       . rw [aaH,aaH,h1 op o1 o2 o3]
       . rw [aaH,aaH];omega
       . rw [aaH,aaH];omega
       . rw [aaH,aaH,aaH,aaH];omega
   . rw [if_neg h18]
     have af:∀W:List (aaA×aaA),(∀op,op≠1->op≠18->op≠19->adN op (W,s.2++[y]).2=adN op (l.take i++[y]))∧adN 18 (W,s.2++[y]).2<=adN 18 (l.take i++[y])∧adN 19 (W,s.2++[y]).2<=adN 19 (l.take i++[y])∧adN 18 (W,s.2++[y]).2+adN 1 (W,s.2++[y]).2=adN 18 (l.take i++[y])+adN 1 (l.take i++[y]):=fun W=>by
      dsimp only;refine⟨fun op o1 o2 o3=>?_,?_,?_,?_⟩
      . rw [aaH,aaH,h1 op o1 o2 o3]
      . rw [aaH,aaH];omega
      . rw [aaH,aaH];omega
      . rw [aaH,aaH,aaH,aaH];omega
     by_cases h19:y.op=19
     . rw [if_pos h19]
       by_cases hgn:adG s.1 y.a=some y.b
       . rw [if_pos hgn]
         refine⟨fun op o1 o2 o3=>?_,?_,?_,?_⟩
         . rw [aaH,h19,if_neg (fun e=>o3 e.symm),h1 op o1 o2 o3];rfl
         . rw [aaH,h19,if_neg (by decide)];omega
         . rw [aaH,h19,if_pos rfl];omega
         . rw [aaH,aaH,h19,if_neg (by decide),if_neg (by decide)];omega
       . rw [if_neg hgn];exact af _
     . rw [if_neg h19]
       by_cases h20:y.op=20
       . rw [if_pos h20];exact af _
       . rw [if_neg h20];exact af _
theorem amH (P : aaK -> Bool) : ∀ (l : List aaK) (c : List Bool), c.length = l.length -> (∀ p ∈ l.zip c, p.2 = true -> P p.1 = false) -> (alJ l c).countP P = l.countP P
 | [],[],_,_=>rfl
 | x :: l,b :: c,h,hp=>by
   have hl:c.length=l.length:=by simpa using h
   rw [aky _ _ _ _ hl,List.countP_append,amH P l c hl fun p hm=>hp p (by rw [List.zip_cons_cons];exact Aa2 _ hm),List.countP_cons];cases b with
   | true =>
     have:=hp (x,true) (by rw [List.zip_cons_cons];exact Aa3 ..) rfl;dsimp only at this;rw [this];simp
   | false=>simp [List.countP_cons];omega
theorem akB (words : Int) : ∀ (l : List aaK), ∀ p ∈ l.zip (ap6 words l), p.2 = true -> p.1.op = 19
 | [],p,h,_=>(by cases h)
 | x :: l,p,h,e=>by
   rw [ahR,List.zip_cons_cons] at h;rcases Aam.1 h with h | h
   . subst h
     dsimp only at e ⊢;simp only [Ab0,decide_eq_true_eq] at e;exact e.1
   . exact akB words l p h e
theorem akC(words:Int)(l:List aaK):(∀op,op≠19->adN op (ac2 words l)=adN op l)∧adN 19 (ac2 words l)<=adN 19 l:=by
 rw [afU];refine⟨fun op ho=>amH _ _ _ (ajs _ _) fun p hp he=>?_,(ajv _ _).countP_le⟩;rw [akB words l p hp he];simp;exact fun e=>ho e.symm
theorem afW(words:Int)(l:List aaK):(∀op,op≠1->op≠18->op≠19->adN op (agS words l)=adN op l)∧adN 18 (agS words l)<=adN 18 l∧adN 19 (agS words l)<=adN 19 l∧adN 18 (agS words l)+adN 1 (agS words l)=adN 18 l+adN 1 l:=by
 have h:=amG l l.length (Aac _);rw [Aa0] at h;obtain⟨h1,h2,h3,h4⟩:=h;obtain⟨u1,u2⟩:=akC words (ae8 l);refine⟨fun op o1 o2 o3=>?_,?_,?_,?_⟩
 . show adN op (ac2 words (ae8 l))=_
   rw [u1 op o3];exact h1 op o1 o2 o3
 . show adN 18 (ac2 words (ae8 l))<=_
   rw [u1 18 (by decide)];exact h2
 . exact Aai u2 h3
 . show adN 18 (ac2 words (ae8 l))+adN 1 (ac2 words (ae8 l))=_
   rw [u1 18 (by decide),u1 1 (by decide)];exact h4
section
variable {gs : List aaG} {fs : List aav}
theorem ahS(h:agu ⟨gs,fs⟩=(0,0)):aat ⟨gs,fs⟩=(0,0)∧∀f∈fs,f.blocks.length<=(aaT f.blocks).length:=by
 unfold agu at h
 by_cases hc:aat ⟨gs,fs⟩≠(0,0)
 . rw [if_pos hc] at h;exact absurd h hc
 . have aN:aat ⟨gs,fs⟩=(0,0):=by
    by_cases e:aat ⟨gs,fs⟩=(0,0)
    . exact e
    . exact absurd e hc
   rw [if_neg hc] at h;refine⟨aN,fun f hf=>?_⟩;dsimp only at h
   by_cases hp:adq (alV fs) fs.length<fs.length
   . rw [if_pos hp] at h
     have h1:alV fs (adq (alV fs) fs.length)=0:=congrArg Prod.fst h;exact absurd h1 (aes hp)
   . obtain⟨k,hk⟩:=Acl.1 hf
     have aG:=(Aad.1 hk).1;have h2:alV fs k=0:=agX hp k aG;unfold alV at h2;rw [hk] at h2;have h3:af4 f=0:=h2;unfold af4 at h3
     by_cases hl:(aaT f.blocks).length<f.blocks.length
     . rw [if_pos hl] at h3;omega
     . omega
end
end
section
open Go.RowKit
section
variable {gs : List aaG} {fs : List aav}
theorem afX {α:Type}{f g:α->Nat}{l:List α}(h:∀x∈l,f x=g x):(l.map f).sum=(l.map g).sum:=by rw [Abx h]
theorem apa(h:agu ⟨gs,fs⟩=(0,0))(hn:ais ⟨gs,fs⟩)(op:Int):manyO op (fs.map abi)=manyO op fs:=by
 obtain⟨hc,ah⟩:=ahS h;rw [acU,acU,Abb];refine afX fun f hf=>?_;obtain⟨i,hi⟩:=Acl.1 hf;have aA:(⟨gs,fs⟩:adz).funcs[i]?=some f:=hi;obtain⟨h1,h2,h3,h4,h5,h6⟩:=aks hc hn aA;show ag2 op (abi f).blocks=_;rw [adb];exact aq3 h1 (fun x hx=>(h2.kind x hx).2.2.1) h3 (ah f hf) op
theorem apb {g:List aaK->List aaK}(hg:akz g)(hc:aat ⟨gs,fs⟩=(0,0))(hn:ais ⟨gs,fs⟩)(op:Int):manyO op (afV g fs)=((fs.map abi).map fun f=>(f.blocks.map fun x=>adN op (g x.list)).sum).sum:=by
 rw [acU];have e:afV g fs=(fs.map abi).map fun f=>abi (ack g f):=by
  unfold afV;rw [Abb];rfl
 rw [e,Abb];refine afX fun f hf=>?_;obtain⟨n,-,hb⟩:=asG hg hc hn hf;show ag2 op (abi (ack g f)).blocks=_;rw [hb];have e2:(f.blocks.map fun x=>afB (adE (aeD f.params.toNat n (f.blocks.map (acj g)))) (acj g x))=(f.blocks.map (acj g)).map (afB (adE (aeD f.params.toNat n (f.blocks.map (acj g))))):=by rw [Abb];rfl
 rw [e2,ao7];unfold ag2;rw [Abb];rfl
theorem aub {α : Type} {f g f' g' : α -> Nat} : ∀ {l : List α}, (∀ x ∈ l, f x + g x = f' x + g' x) -> (l.map f).sum + (l.map g).sum = (l.map f').sum + (l.map g').sum
 | [],_=>rfl
 | x :: l,h=>by
   have h1:=h x (Aa3 ..);have h2:=aub (l:=l) fun y hy=>h y (Aa2 _ hy);simp only [Aa1,Abj];omega
theorem apc(h:agu ⟨gs,fs⟩=(0,0))(hn:ais ⟨gs,fs⟩)(words:Int):(∀op,op≠1->op≠18->op≠19->manyO op (afV (agS words) fs)=manyO op fs)∧manyO 18 (afV (agS words) fs)<=manyO 18 fs∧manyO 19 (afV (agS words) fs)<=manyO 19 fs ∧
 manyO 18 (afV (agS words) fs)+manyO 1 (afV (agS words) fs)=manyO 18 fs+manyO 1 fs:=by
 obtain⟨hc,-⟩:=ahS h;have ht:=apa h hn;have hp:=apb (ajw words) hc hn;refine⟨fun op o1 o2 o3=>?_,?_,?_,?_⟩
 . rw [hp,<-ht,acU]
   exact afX fun f _=>afX fun x _=>(afW words x.list).1 op o1 o2 o3
 . rw [hp,<-ht,acU]
   exact agM fun f _=>agM fun x _=>(afW words x.list).2.1
 . rw [hp,<-ht,acU]
   exact agM fun f _=>agM fun x _=>(afW words x.list).2.2.1
 . rw [hp,hp,<-ht,<-ht,acU,acU]
   exact aub fun f _=>aub fun x _=>(afW words x.list).2.2.2
end
end
end Go.Proofs.YtpeejlpcikefcaaGreatDoor
