import Derived.Test.YtkegaaonpekkgaaGreatXqEt
import Derived.Test.YtkegaaonpekkgaaGreatXqTl
import Derived.Test.YtkegaaonpekkgaaGreatXqSxMg
import Derived.Test.YtkegaaonpekkgaaGreatXqHq
import Derived.Test.YtkegaaonpekkgaaGreatXqKa
import Derived.Test.YtkegaaonpekkgaaGreatXqSxY
import Derived.Shelf.RegionOpenPlain
import Derived.Lib.Walk
import Derived.Lib.SliceRun
import Derived.Lib.Overlaps
import Derived.Laws.Externs
import Derived.Laws.IdiomCopy
import Derived.Lib.AppendZerosOnto
import Derived.Laws.NewBlocks
import Derived.Test.YtkegaaonpekkgaaGreatXqMe
import Derived.Test.YtkegaaonpekkgaaGreatXqHg
namespace Go.Proofs.YtkegaaonpekkgaaGreat.Sx
open Go.RowKit
set_option maxHeartbeats 4000000
structure ItemP where
 ref:cT
 prop:PropP
 deriving DecidableEq
structure BoxP where
 enc:cT
 box:cT
 deriving DecidableEq
structure StpP where
 box:cT
 to:List BoxP
 deriving DecidableEq
structure WayP where
 leaf:Leaf
 steps:List StpP
 deriving DecidableEq
structure ComP where
 items:List ItemP
 has:Bool
 way:WayP
 deriving DecidableEq
structure MesP where
 group:cT
 epoch:Nat
 frm:Int
 kind:UInt8
 prop:PropP
 com:ComP
 sig:cT
 tag:cT
 mem:cT
 deriving DecidableEq
abbrev ItemP.c(i:ItemP):List RV:=[bs i.ref,U8 i.prop.kind,bs i.prop.pack.init,bs i.prop.pack.leaf.box,bs i.prop.pack.leaf.sign,bs i.prop.pack.leaf.ident,U8 i.prop.pack.leaf.src,bs i.prop.pack.leaf.parent,bs i.prop.pack.leaf.sig,bs i.prop.pack.sig,bs i.prop.leaf.box,bs i.prop.leaf.sign,bs i.prop.leaf.ident,U8 i.prop.leaf.src,bs i.prop.leaf.parent,bs i.prop.leaf.sig,I i.prop.at_]
abbrev BoxP.c(b:BoxP):List RV:=[bs b.enc,bs b.box]
def ae(l:List BoxP):RV:= .sl 2 l.length (l.flatMap BoxP.c)
abbrev StpP.c(s:StpP):List RV:=[bs s.box,ae s.to]
def nG(l:List StpP):RV:= .sl 2 l.length (l.flatMap StpP.c)
def uo(l:List ItemP):RV:= .sl 17 l.length (l.flatMap ItemP.c)
abbrev WayP.c(w:WayP):List RV:=[bs w.leaf.box,bs w.leaf.sign,bs w.leaf.ident,U8 w.leaf.src,bs w.leaf.parent,bs w.leaf.sig,nG w.steps]
abbrev ComP.c(c:ComP):List RV:=[uo c.items,.b c.has,bs c.way.leaf.box,bs c.way.leaf.sign,bs c.way.leaf.ident,U8 c.way.leaf.src,bs c.way.leaf.parent,bs c.way.leaf.sig,nG c.way.steps]
abbrev MesP.c(m:MesP):List RV:=[bs m.group,.i .u64 m.epoch,I m.frm,U8 m.kind,U8 m.prop.kind,bs m.prop.pack.init,bs m.prop.pack.leaf.box,bs m.prop.pack.leaf.sign,bs m.prop.pack.leaf.ident,U8 m.prop.pack.leaf.src,bs m.prop.pack.leaf.parent,bs m.prop.pack.leaf.sig,bs m.prop.pack.sig,bs m.prop.leaf.box,bs m.prop.leaf.sign,bs m.prop.leaf.ident,U8 m.prop.leaf.src,bs m.prop.leaf.parent,bs m.prop.leaf.sig,I m.prop.at_,
 uo m.com.items,.b m.com.has,bs m.com.way.leaf.box,bs m.com.way.leaf.sign,bs m.com.way.leaf.ident,U8 m.com.way.leaf.src,bs m.com.way.leaf.parent,bs m.com.way.leaf.sig,nG m.com.way.steps,bs m.sig,bs m.tag,bs m.mem]
theorem vf{l:List ItemP}{i:Int}{j:Nat}(h:i=j)(hj:j<l.length):((l.flatMap ItemP.c).drop (i.toNat*17)).take 17=l[j].c:=uK (f:=ItemP.c) (sz:=17) (λ_=>rfl) h hj
theorem vo{l:List StpP}{i:Int}{j:Nat}(h:i=j)(hj:j<l.length):((l.flatMap StpP.c).drop (i.toNat*2)).take 2=l[j].c:=uK (f:=StpP.c) (sz:=2) (λ_=>rfl) h hj
theorem vJ{l:List BoxP}{i:Int}{j:Nat}(h:i=j)(hj:j<l.length):((l.flatMap BoxP.c).drop (i.toNat*2)).take 2=l[j].c:=uK (f:=BoxP.c) (sz:=2) (λ_=>rfl) h hj
def tY(l:Leaf):Bool:=decide (l=zl)
def PackP.none(p:PackP):Bool:=decide (p.init.length=0)&&tY p.leaf&&decide (p.sig.length=0)
def PropP.none(p:PropP):Bool:=decide (p.kind=0)&&p.pack.none&&tY p.leaf&&decide (p.at_=0)
def PropP.right(p:PropP):Bool:=
 if p.kind=1 then p.pack.right&&tY p.leaf&&decide (p.at_=0)
 else if p.kind=2 then p.pack.none&&(p.leaf.right&&decide (p.leaf.src=2))&&decide (p.at_=0)
 else if p.kind=3 then p.pack.none&&tY p.leaf&&decide (0<=p.at_/\p.at_<65536)
 else false
def ItemP.right(i:ItemP):Bool:=if i.ref.length=0 then i.prop.right else decide (i.ref.length=32)&&i.prop.none
def jq(b:BoxP):Bool:=decide (b.enc.length≠32)||decide (b.box.length≠48)
def lK(s:StpP):Bool:=decide (s.box.length≠32)||s.to.any jq
def WayP.right(w:WayP):Bool:=(w.leaf.right&&decide (w.leaf.src=3))&&decide (w.steps.length<=16)&& !(w.steps.any lK)
def ComP.right(c:ComP):Bool:=decide (c.items.length<=64)&& !(c.items.any λi=> !i.right)&&(if c.has then c.way.right else tY c.way.leaf&&decide (c.way.steps.length=0))
def ComP.none(c:ComP):Bool:=decide (c.items.length=0)&& !c.has&&tY c.way.leaf&&decide (c.way.steps.length=0)
def MesP.right(m:MesP):Bool:=
 decide (m.group.length<=64)&&decide (0<=m.frm/\m.frm<65536)&&decide (m.sig.length=64)&&decide (m.mem.length=32)&&
 (if m.kind=2 then m.prop.right&&m.com.none&&decide (m.tag.length=0)else if m.kind=3 then m.prop.none&&m.com.right&&decide (m.tag.length=32)else false)
def pI(p:PackP):cT:=uw p++zZ p.sig
def xZ(p:PropP):cT:=if p.kind=1 then[1]++pI p.pack else if p.kind=2 then[2]++xA p.leaf else[3]++yg 4 (xy p.at_)
def tw(i:ItemP):cT:=if i.ref.length=0 then[1]++xZ i.prop else[2]++zZ i.ref
def mK(b:BoxP):cT:=zZ b.enc++zZ b.box
def rz(s:StpP):cT:=zZ s.box++zZ (s.to.flatMap mK)
def vT(c:ComP):cT:=if c.has then zZ (c.items.flatMap tw)++[1]++xA c.way.leaf++zZ (c.way.steps.flatMap rz)else zZ (c.items.flatMap tw)++[0]
def xQ(m:MesP):cT:=zZ m.group++yg 8 m.epoch++[1]++(yg 4 (xy m.frm)++[m.kind])++(if m.kind=2 then xZ m.prop else vT m.com)
def wz(m:MesP):cT:=yg 2 1++yg 2 1++xQ m
def pQ(m:MesP):cT:=if m.kind=3 then zZ m.sig++zZ m.tag else zZ m.sig
def tT(m:MesP):cT:=wz m++(pQ m++zZ m.mem)
def xh(m:MesP)(x:CtxP):cT:=wz m++yV x
def vG(m:MesP)(x:CtxP):cT:=xh m x++pQ m
def np(m:MesP):cT:=yg 2 1++xQ m++zZ m.sig
def nS(p:PackP):Bool:=decide (p.init.length<=100)&&decide (p.sig.length<=100)&&oP p.leaf
def pS(p:PropP):Bool:=nS p.pack&&oP p.leaf
def sQ(b:BoxP):Bool:=decide (b.enc.length<=100)&&decide (b.box.length<=100)
def td(s:StpP):Bool:=decide (s.box.length<=100)&&decide (s.to.length<=20)&&s.to.all sQ
def sS(i:ItemP):Bool:=decide (i.ref.length<=100)&&pS i.prop
def uj(c:ComP):Bool:=decide (c.items.length<=70)&&decide (c.way.steps.length<=20)&&oP c.way.leaf&&c.items.all sS&&c.way.steps.all td
def sU(m:MesP):Bool:=decide (m.group.length<=200)&&pS m.prop&&uj m.com&&decide (m.sig.length<=100)&&decide (m.tag.length<=100)&&decide (m.mem.length<=100)
structure Leaf.sml (l:Leaf):Prop where
 box:l.box.length<=200
 sign:l.sign.length<=200
 ident:l.ident.length<=200
 parent:l.parent.length<=200
 sig:l.sig.length<=200
theorem Leaf.sml.fit{l:Leaf}(h:l.sml):l.fit:=⟨by have:=h.box;omega,by have:=h.sign;omega,by have:=h.ident;omega,by have:=h.parent;omega,by have:=h.sig;omega⟩
theorem i6{l:Leaf}(h:oP l=true):l.sml:=by
 simp only[oP,decide_eq_true_eq]at h
 exact⟨h.1,h.2.1,h.2.2.1,h.2.2.2.1,h.2.2.2.2⟩
structure PropP.sml (p:PropP):Prop where
 init:p.pack.init.length<=100
 sig:p.pack.sig.length<=100
 pl:p.pack.leaf.sml
 leaf:p.leaf.sml
structure StpP.sml (s:StpP):Prop where
 box:s.box.length<=100
 to:s.to.length<=20
 all: ∀b∈s.to,b.enc.length<=100/\b.box.length<=100
structure ComP.sml (c:ComP):Prop where
 items:c.items.length<=70
 steps:c.way.steps.length<=20
 leaf:c.way.leaf.sml
 item: ∀i∈c.items,i.ref.length<=100/\i.prop.sml
 step: ∀s∈c.way.steps,s.sml
structure MesP.sml (m:MesP):Prop where
 group:m.group.length<=200
 prop:m.prop.sml
 com:m.com.sml
 sig:m.sig.length<=100
 tag:m.tag.length<=100
 mem:m.mem.length<=100
theorem eU{p:PropP}(h:pS p=true):p.sml:=by
 simp only[pS,nS,bB,decide_eq_true_eq]at h
 exact⟨h.1.1.1,h.1.1.2,i6 h.1.2,i6 h.2⟩
theorem S9{s:StpP}(h:td s=true):s.sml:=by
 simp only[td,sQ,bB,decide_eq_true_eq,List.all_eq_true]at h
 exact⟨h.1.1,h.1.2,h.2⟩
theorem S8{c:ComP}(h:uj c=true):c.sml:=by
 simp only[uj,sS,bB,decide_eq_true_eq,List.all_eq_true]at h
 obtain⟨⟨⟨⟨h1,h2⟩,h3⟩,h4⟩,h5⟩:=h
 exact⟨h1,h2,i6 h3,λi hi=>⟨(h4 i hi).1,eU (h4 i hi).2⟩,λs hs=>S9 (h5 s hs)⟩
theorem eT{m:MesP}(h:sU m=true):m.sml:=by
 simp only[sU,bB,decide_eq_true_eq]at h
 obtain⟨⟨⟨⟨⟨h1,h2⟩,h3⟩,h4⟩,h5⟩,h6⟩:=h
 exact⟨h1,eU h2,S8 h3,h4,h5,h6⟩
theorem j9{α β:Type}{f:α->List β}{b:Nat}: ∀(l:List α),(∀x∈l,(f x).length<=b)->(l.flatMap f).length<=b*l.length
 |[],_=>by simp
 |x::r,h=>by
  have ih:=j9 r λy hy=>h y (cK _ hy)
  have:=h x (by simp)
  rw[List.flatMap_cons,aL,bJ,Nat.mul_add]
  omega
theorem sA{l:Leaf}(h:l.sml):(xA l).length<=1021:=by
 have h1:=rM l
 obtain⟨k1,k2,k3,k4,k5⟩:=h
 omega
theorem fX{p:PropP}(h:p.sml):(pI p.pack).length<=1300:=by
 have h1:=yf p.pack.init
 have h2:=yf p.pack.sig
 have h3:=sA h.pl
 obtain⟨k1,k2,_,_⟩:=h
 simp only[pI,uw,aL,yj]
 omega
theorem pJ{p:PropP}(h:p.sml):(xZ p).length<=1400:=by
 have h1:=fX h
 have h2:=sA h.leaf
 unfold xZ
 split
 ·simp only[aL,bJ,bO];omega
 ·split
  ·simp only[aL,bJ,bO];omega
  ·simp only[aL,bJ,bO,yj];omega
theorem K6{i:ItemP}(h:i.ref.length<=100/\i.prop.sml):(tw i).length<=1500:=by
 have h1:=pJ h.2
 have h2:=yf i.ref
 have h3:=h.1
 unfold tw
 split
 ·simp only[aL,bJ,bO];omega
 ·simp only[aL,bJ,bO];omega
theorem HD{b:BoxP}(h:b.enc.length<=100/\b.box.length<=100):(mK b).length<=210:=by
 have h1:=yf b.enc
 have h2:=yf b.box
 rw[mK,aL]
 omega
theorem Vn{s:StpP}(h:s.sml)(n:Nat):((s.to.take n).flatMap mK).length<=4200:=by
 have h1:=j9 (f:=mK) (b:=210) (s.to.take n) λx hx=>HD (h.all x (List.mem_of_mem_take hx))
 have h2:=h.to
 have h3:(s.to.take n).length<=20:=by rw[bL];omega
 omega
theorem Jq{s:StpP}(h:s.sml):(rz s).length<=4400:=by
 have h1:=Vn h s.to.length
 rw[List.take_length]at h1
 have h2:=yf s.box
 have h3:=yf (s.to.flatMap mK)
 have h4:=h.box
 rw[rz,aL]
 omega
theorem Uk{c:ComP}(h:c.sml)(n:Nat):((c.items.take n).flatMap tw).length<=105000:=by
 have h1:=j9 (f:=tw) (b:=1500) (c.items.take n) λx hx=>K6 (h.item x (List.mem_of_mem_take hx))
 have h2:=h.items
 have h3:(c.items.take n).length<=70:=by rw[bL];omega
 omega
theorem Tx{c:ComP}(h:c.sml)(n:Nat):((c.way.steps.take n).flatMap rz).length<=88000:=by
 have h1:=j9 (f:=rz) (b:=4400) (c.way.steps.take n) λx hx=>Jq (h.step x (List.mem_of_mem_take hx))
 have h2:=h.steps
 have h3:(c.way.steps.take n).length<=20:=by rw[bL];omega
 omega
theorem dv{c:ComP}(h:c.sml):(vT c).length<=195000:=by
 have h1:=Uk h c.items.length
 have h2:=Tx h c.way.steps.length
 rw[List.take_length]at h1 h2
 have h3:=sA h.leaf
 have h4:=yf (c.items.flatMap tw)
 have h5:=yf (c.way.steps.flatMap rz)
 unfold vT
 split
 ·simp only[aL,bJ,bO];omega
 ·simp only[aL,bJ,bO];omega
theorem rK{m:MesP}(h:m.sml):(xQ m).length<=196000:=by
 have h1:=yf m.group
 have h2:=pJ h.prop
 have h3:=dv h.com
 have h4:=h.group
 unfold xQ
 split
 ·simp only[aL,bJ,bO,yj];omega
 ·simp only[aL,bJ,bO,yj];omega
theorem sv{m:MesP}(h:m.sml):(wz m).length<=196010:=by
 have h1:=rK h
 simp only[wz,aL,yj]
 omega
theorem nR{m:MesP}(h:m.sml):(pQ m).length<=210:=by
 have h1:=yf m.sig
 have h2:=yf m.tag
 have h3:=h.sig
 have h4:=h.tag
 unfold pQ
 split
 ·rw[aL];omega
 ·omega
theorem YV{m:MesP}(h:m.sml):(tT m).length<=197000:=by
 have h1:=sv h
 have h2:=nR h
 have h3:=yf m.mem
 have h4:=h.mem
 simp only[tT,aL]
 omega
def ua(O:List Spot)(x:Int):Spot:=⟨x,(xP O x).getD Node.zero⟩
def rO(H:List Stub)(x:Int):Stub:=⟨x,Of H x⟩
def eh(leaves own:Int)(O:List Spot)(H:List Stub):Lean_:=⟨leaves,own,(xS (O.map λs=>s.at_)).map (ua O),(xS (H.map λs=>s.at_)).map (rO H)⟩
theorem Wq{l:List Int}{x:Int}:x∈xS l↔x∈l:=by unfold xS;exact List.mem_mergeSort
theorem Wp(l:List Int):(xS l).length=l.length:=by unfold xS;exact List.length_mergeSort l
theorem Qt{O:List Spot}{x:Int}(h:x∈O.map λs=>s.at_): ∃s∈O,xP O x=some s.node:=by
 cases hf:xP O x with
 |none=>
  simp only[xP,Option.map_eq_none_iff,List.find?_eq_none,decide_eq_true_eq]at hf
  obtain⟨s,hs,e⟩:=List.mem_map.1 h
  exact absurd e (hf s hs)
 |some n=>
  obtain⟨s,hs,_,rfl⟩:=OH hf
  exact⟨s,hs,rfl⟩
theorem Oa{H:List Stub}{x:Int}(h:x∈H.map λs=>s.at_): ∃s∈H,o8 H x=some s.hash:=by
 cases hf:o8 H x with
 |none=>
  simp only[o8,Option.map_eq_none_iff,List.find?_eq_none,decide_eq_true_eq]at hf
  obtain⟨s,hs,e⟩:=List.mem_map.1 h
  exact absurd e (hf s hs)
 |some n=>
  obtain⟨_,s,hs,_,rfl⟩:=Wm hf
  exact⟨s,hs,rfl⟩
theorem LJ(leaves own:Int)(O:List Spot)(H:List Stub)(hOn:O.length<=1000000)(hHn:H.length<=1000000)(hOf: ∀s∈O,s.node.fit)(hOi: ∀s∈O,i64 s.at_)(hHi: ∀s∈H,i64 s.at_)(hHl: ∀s∈H,s.hash.length<=1000000000):
  aG 274 [UQ leaves own O H] (.r (.ag (eh leaves own O H).c)):=by
 refine aT Tryz.func274 rfl ?_
 have kN:=X6 (wm O) (by simpa[wm]using hOn) (λx hx=>by
  simp only[wm,List.mem_map]at hx
  obtain⟨s,hs,rfl⟩:=hx
  exact hOi s hs)
 have kH:=X5 (wx H) (by simpa[wx]using hHn) (λx hx=>by
  simp only[wx,List.mem_map]at hx
  obtain⟨s,hs,rfl⟩:=hx
  exact hHi s hs)
 rw[ic]at kN
 rw[jM]at kH
 obtain⟨K,hK⟩: ∃K,K=xS (O.map λs=>s.at_):=⟨_,rfl⟩
 obtain⟨M,hM⟩: ∃M,M=xS (H.map λs=>s.at_):=⟨_,rfl⟩
 have hKl:K.length<=1000000:=by rw[hK,Wp,bC];exact hOn
 have hMl:M.length<=1000000:=by rw[hM,Wp,bC];exact hHn
 have hKm: ∀x∈K,∃s∈O,xP O x=some s.node:=λx hx=>Qt (Wq.1 (hK▸hx))
 have hMm: ∀x∈M,∃s∈H,o8 H x=some s.hash:=λx hx=>Oa (Wq.1 (hM▸hx))
 rw[<-hK]at kN
 rw[<-hM]at kH
 have hL:eh leaves own O H=⟨leaves,own,K.map (ua O),M.map (rO H)⟩:=by rw[hK,hM];rfl
 rw[hL]
 clear hL hK hM
 refine ze (SW (wm O)) ?_
 refine ze kN ?_
 refine zy (λj:Nat=>{F:=[(1,.own 0),(2,.own 1),(3,.own 2),(16,.r (is K)),(17,.r (I K.length)),(18,.r (I j))],O:=[(0,some (va leaves own O H)),(1,some (.box (zero4.map .r))),(2,some (.box [.r (I leaves),.r (I own),.own 3,.own 4])),(3,some (vA ((K.take j).map (ua O)))),(4,some (vC []))],nx:=5})
  (λj=>j<=K.length) (λj=>K.length-j) 0 (by omega)
  ((w8 true 2 2 241 11 (cells:=[.r (I leaves),.r (I own),.r (.x (.slice none 0 0)),.r (.x (.slice none 0 0))]) rfl rfl).trans ((w8 true 2 3 432 2 (cells:=[.r (I leaves),.r (I own),.own 4,.r (.x (.slice none 0 0))]) rfl rfl).trans (zN [(0,0),(1,1),(2,2),(3,4),(4,5)] ⟨(aC aZ),yh zero4,ud (xK _) (ud (xK _) (ud rfl (ud rfl rfl))),⟨rfl,rfl,rfl,rfl,zn _⟩,⟨rfl,rfl,rfl,rfl,zn _⟩,trivial⟩))) ?_
 intro j hj
 refine cZ (λh=>?_) λh=>?_
 ·simp only[zb]at h
  have hj':j<K.length:=by omega
  obtain⟨s,hs,hfs⟩:=hKm K[j] (bY hj')
  refine cV (xn rfl hj') (zg rfl ?_)
  refine Vdraw.code (Vcode.float mixed Tab_ok 10 [⟨0,22,.adr 2 2,[]⟩,⟨1,23,.own 3,[0]⟩,⟨2,24,.r (I K[j]),[]⟩,⟨5,27,.r (I K[j]),[]⟩] [(3,[]),(4,[]),(6,[5]),(7,[]),(8,[2]),(9,[])] (by kernel_rfl) (F:=[(1,.own 0),(2,.own 1),(3,.own 2),(5,.r (I K[j])),(16,.r (is K)),(17,.r (I K.length)),(18,.r (I j))]) (O:=[(0,some (va leaves own O H)),(1,some (.box (zero4.map .r))),(2,some (.box [.r (I leaves),.r (I own),.own 3,.own 4])),(3,some (vA ((K.take j).map (ua O)))),(4,some (vC []))]) (nx:=5) (zN [(0,0),(1,1),(2,2),(3,3),(4,4)] ⟨(aC aZ),yh zero4,ud (xK _) (ud (xK _) (ud rfl (ud rfl rfl))),⟨rfl,rfl,rfl,rfl,zn _⟩,⟨rfl,rfl,rfl,rfl,zn _⟩,trivial⟩) ?_)
  refine⟨rfl,⟨λY=>zo _,λY=>zo _,λY=>zo _,λY=>zo _,trivial⟩,(25,.adr 0 2)::[(1,.own 0),(2,.own 1),(3,.own 2),(5,.r (I K[j])),(16,.r (is K)),(17,.r (I K.length)),(18,.r (I j))],[(0,some (va leaves own O H)),(1,some (.box (zero4.map .r))),(2,some (.box [.r (I leaves),.r (I own),.own 3,.own 4])),(3,some (vA ((K.take j).map (ua O)))),(4,some (vC []))],5,λY=>zo _,?_⟩
  refine⟨rfl,⟨λY=>zo _,λY=>zo _,λY=>zo _,λY=>zo _,trivial⟩,(26,.r (.s (wD (wm O))))::(25,.adr 0 2)::[(1,.own 0),(2,.own 1),(3,.own 2),(5,.r (I K[j])),(16,.r (is K)),(17,.r (I K.length)),(18,.r (I j))],[(0,some (va leaves own O H)),(1,some (.box (zero4.map .r))),(2,some (.box [.r (I leaves),.r (I own),.own 3,.own 4])),(3,some (vA ((K.take j).map (ua O)))),(4,some (vC []))],5,λY=>zo _,?_⟩
  refine⟨rfl,⟨λY=>zo _,λY=>zo _,λY=>zo _,λY=>zo _,trivial⟩,(28,.r (.ag s.node.c))::(26,.r (.s (wD (wm O))))::(25,.adr 0 2)::[(1,.own 0),(2,.own 1),(3,.own 2),(5,.r (I K[j])),(16,.r (is K)),(17,.r (I K.length)),(18,.r (I j))],[(0,some (va leaves own O H)),(1,some (.box (zero4.map .r))),(2,some (.box [.r (I leaves),.r (I own),.own 3,.own 4])),(3,some (vA ((K.take j).map (ua O)))),(4,some (vC []))],5,λY=>Vstep.node1 rfl rfl rfl (λn hn=>by rw[hfs]at hn;cases hn;exact zo _) (λhn=>by rw[hfs]at hn;cases hn),?_⟩
  refine⟨rfl,⟨λY=>zo _,λY=>zo _,λY=>zo _,λY=>zo _,trivial⟩,(29,.r (.ag s.node.c))::(28,.r (.ag s.node.c))::(26,.r (.s (wD (wm O))))::(25,.adr 0 2)::[(1,.own 0),(2,.own 1),(3,.own 2),(5,.r (I K[j])),(16,.r (is K)),(17,.r (I K.length)),(18,.r (I j))],[(0,some (va leaves own O H)),(1,some (.box (zero4.map .r))),(2,some (.box [.r (I leaves),.r (I own),.own 3,.own 4])),(3,some (vA ((K.take j).map (ua O)))),(4,some (vC []))],5,λY=>ze (sL s.node (hOf s hs) (ww _ (hOf s hs).1)) (zo _),?_⟩
  refine⟨rfl,⟨λY=>zo _,λY=>zo _,λY=>zo _,λY=>zo _,trivial⟩,(30,.r (.ag (Spot.c ⟨K[j],s.node⟩)))::(29,.r (.ag s.node.c))::(28,.r (.ag s.node.c))::(26,.r (.s (wD (wm O))))::(25,.adr 0 2)::[(1,.own 0),(2,.own 1),(3,.own 2),(5,.r (I K[j])),(16,.r (is K)),(17,.r (I K.length)),(18,.r (I j))],[(0,some (va leaves own O H)),(1,some (.box (zero4.map .r))),(2,some (.box [.r (I leaves),.r (I own),.own 3,.own 4])),(3,some (vA ((K.take j).map (ua O)))),(4,some (vC []))],5,λY=>zo _,?_⟩
  refine⟨rfl,⟨λY=>zo _,λY=>zo _,λY=>zo _,λY=>zo _,trivial⟩,(31,.own 5)::(30,.r (.ag (Spot.c ⟨K[j],s.node⟩)))::(29,.r (.ag s.node.c))::(28,.r (.ag s.node.c))::(26,.r (.s (wD (wm O))))::(25,.adr 0 2)::[(1,.own 0),(2,.own 1),(3,.own 2),(5,.r (I K[j])),(16,.r (is K)),(17,.r (I K.length)),(18,.r (I j))],(5,some (.ch 241 11 1 (Spot.c ⟨K[j],s.node⟩) true))::[(0,some (va leaves own O H)),(1,some (.box (zero4.map .r))),(2,some (.box [.r (I leaves),.r (I own),.own 3,.own 4])),(3,some (vA ((K.take j).map (ua O)))),(4,some (vC []))],6,λY=>zw (zo _),?_⟩
  refine⟨rfl,⟨λY=>zo _,λY=>zo _,λY=>zo _,λY=>zo _,trivial⟩,?_⟩
  have hsn:(K.take (j+1)).map (ua O)=(K.take j).map (ua O)++[⟨K[j],s.node⟩]:=by
   rw[bX hj',bM]
   simp[ua,hfs]
  refine z7 (j:=((K.take (j+1)).map (ua O)).length) (zs:=((K.take (j+1)).map (ua O)).flatMap Spot.c) (by simp only[maxLen,bC,bL];omega) (by simp;omega) (by rw[hsn];simp) (by rw[hsn];simp[uu,cellsOf]) ?_
  refine zd (m:=((j+1:Nat):Int)) (by omega) (by omega) ?_
  exact⟨j+1,hj',by omega,zX [(0,0),(1,1),(2,2),(3,_),(4,4)] rfl ⟨rfl,rfl,rfl,cr,cr,cr,trivial⟩ ⟨(aC aZ),yh zero4,ud (xK _) (ud (xK _) (ud rfl (ud rfl rfl))),⟨rfl,rfl,rfl,rfl,zn _⟩,⟨rfl,rfl,rfl,rfl,zn _⟩,trivial⟩⟩
 simp only[zb]at h
 rw[bF (by omega)]
 clear h hj
 refine ze (SV (wx H)) ?_
 refine ze kH ?_
 refine zy (λj:Nat=>{F:=[(1,.own 0),(2,.own 1),(3,.own 2),(38,.r (is M)),(39,.r (I M.length)),(40,.r (I j))],O:=[(0,some (va leaves own O H)),(1,some (.box (zero4.map .r))),(2,some (.box [.r (I leaves),.r (I own),.own 3,.own 4])),(3,some (vA (K.map (ua O)))),(4,some (vC ((M.take j).map (rO H))))],nx:=5})
  (λj=>j<=M.length) (λj=>M.length-j) 0 (by omega)
  (zN [(0,0),(1,1),(2,2),(3,3),(4,4)] ⟨(aC aZ),yh zero4,ud (xK _) (ud (xK _) (ud rfl (ud rfl rfl))),⟨rfl,rfl,rfl,rfl,zn _⟩,⟨rfl,rfl,rfl,rfl,zn _⟩,trivial⟩) ?_
 intro j hj
 refine cZ (λh=>?_) λh=>?_
 ·simp only[zb]at h
  have hj':j<M.length:=by omega
  obtain⟨s,hs,hfs⟩:=hMm M[j] (bY hj')
  have hsl:=hHl s hs
  refine cV (xn rfl hj') (zg rfl ?_)
  refine Vdraw.code (Vcode.float mixed Tab_ok 10 [⟨0,44,.adr 2 3,[]⟩,⟨1,45,.own 4,[0]⟩,⟨2,46,.r (I M[j]),[]⟩,⟨5,49,.r (I M[j]),[]⟩] [(3,[]),(4,[]),(6,[5]),(7,[]),(8,[2]),(9,[])] (by kernel_rfl) (F:=[(1,.own 0),(2,.own 1),(3,.own 2),(7,.r (I M[j])),(38,.r (is M)),(39,.r (I M.length)),(40,.r (I j))]) (O:=[(0,some (va leaves own O H)),(1,some (.box (zero4.map .r))),(2,some (.box [.r (I leaves),.r (I own),.own 3,.own 4])),(3,some (vA (K.map (ua O)))),(4,some (vC ((M.take j).map (rO H))))]) (nx:=5) (zN [(0,0),(1,1),(2,2),(3,3),(4,4)] ⟨(aC aZ),yh zero4,ud (xK _) (ud (xK _) (ud rfl (ud rfl rfl))),⟨rfl,rfl,rfl,rfl,zn _⟩,⟨rfl,rfl,rfl,rfl,zn _⟩,trivial⟩) ?_)
  refine⟨rfl,⟨λY=>zo _,λY=>zo _,λY=>zo _,λY=>zo _,trivial⟩,(47,.adr 0 3)::[(1,.own 0),(2,.own 1),(3,.own 2),(7,.r (I M[j])),(38,.r (is M)),(39,.r (I M.length)),(40,.r (I j))],[(0,some (va leaves own O H)),(1,some (.box (zero4.map .r))),(2,some (.box [.r (I leaves),.r (I own),.own 3,.own 4])),(3,some (vA (K.map (ua O)))),(4,some (vC ((M.take j).map (rO H))))],5,λY=>zo _,?_⟩
  refine⟨rfl,⟨λY=>zo _,λY=>zo _,λY=>zo _,λY=>zo _,trivial⟩,(48,.r (.s (wD (wx H))))::(47,.adr 0 3)::[(1,.own 0),(2,.own 1),(3,.own 2),(7,.r (I M[j])),(38,.r (is M)),(39,.r (I M.length)),(40,.r (I j))],[(0,some (va leaves own O H)),(1,some (.box (zero4.map .r))),(2,some (.box [.r (I leaves),.r (I own),.own 3,.own 4])),(3,some (vA (K.map (ua O)))),(4,some (vC ((M.take j).map (rO H))))],5,λY=>zo _,?_⟩
  refine⟨rfl,⟨λY=>zo _,λY=>zo _,λY=>zo _,λY=>zo _,trivial⟩,(50,.r (bs s.hash))::(48,.r (.s (wD (wx H))))::(47,.adr 0 3)::[(1,.own 0),(2,.own 1),(3,.own 2),(7,.r (I M[j])),(38,.r (is M)),(39,.r (I M.length)),(40,.r (I j))],[(0,some (va leaves own O H)),(1,some (.box (zero4.map .r))),(2,some (.box [.r (I leaves),.r (I own),.own 3,.own 4])),(3,some (vA (K.map (ua O)))),(4,some (vC ((M.take j).map (rO H))))],5,λY=>Vstep.hash1 rfl rfl rfl (λn hn=>by rw[hfs]at hn;cases hn;exact zo _) (λhn=>by rw[hfs]at hn;cases hn),?_⟩
  refine⟨rfl,⟨λY=>zo _,λY=>zo _,λY=>zo _,λY=>zo _,trivial⟩,(51,.own 5)::(50,.r (bs s.hash))::(48,.r (.s (wD (wx H))))::(47,.adr 0 3)::[(1,.own 0),(2,.own 1),(3,.own 2),(7,.r (I M[j])),(38,.r (is M)),(39,.r (I M.length)),(40,.r (I j))],(5,some (.ch 5 1 s.hash.length (s.hash.map U8) true))::[(0,some (va leaves own O H)),(1,some (.box (zero4.map .r))),(2,some (.box [.r (I leaves),.r (I own),.own 3,.own 4])),(3,some (vA (K.map (ua O)))),(4,some (vC ((M.take j).map (rO H))))],6,λY=>ze (x4 s.hash (by omega)) (zo _),?_⟩
  refine⟨rfl,⟨λY=>zo _,λY=>zo _,λY=>zo _,λY=>zo _,trivial⟩,(52,.r (.ag (Stub.c ⟨M[j],s.hash⟩)))::(51,.own 5)::(50,.r (bs s.hash))::(48,.r (.s (wD (wx H))))::(47,.adr 0 3)::[(1,.own 0),(2,.own 1),(3,.own 2),(7,.r (I M[j])),(38,.r (is M)),(39,.r (I M.length)),(40,.r (I j))],(5,some (.ch 5 1 s.hash.length (s.hash.map U8) true))::[(0,some (va leaves own O H)),(1,some (.box (zero4.map .r))),(2,some (.box [.r (I leaves),.r (I own),.own 3,.own 4])),(3,some (vA (K.map (ua O)))),(4,some (vC ((M.take j).map (rO H))))],6,λY=>zo _,?_⟩
  refine⟨rfl,⟨λY=>zo _,λY=>zo _,λY=>zo _,λY=>zo _,trivial⟩,(53,.own 6)::(52,.r (.ag (Stub.c ⟨M[j],s.hash⟩)))::(51,.own 5)::(50,.r (bs s.hash))::(48,.r (.s (wD (wx H))))::(47,.adr 0 3)::[(1,.own 0),(2,.own 1),(3,.own 2),(7,.r (I M[j])),(38,.r (is M)),(39,.r (I M.length)),(40,.r (I j))],(6,some (.ch 432 2 1 (Stub.c ⟨M[j],s.hash⟩) true))::(5,some (.ch 5 1 s.hash.length (s.hash.map U8) true))::[(0,some (va leaves own O H)),(1,some (.box (zero4.map .r))),(2,some (.box [.r (I leaves),.r (I own),.own 3,.own 4])),(3,some (vA (K.map (ua O)))),(4,some (vC ((M.take j).map (rO H))))],7,λY=>zw (zo _),?_⟩
  refine⟨rfl,⟨λY=>zo _,λY=>zo _,λY=>zo _,λY=>zo _,trivial⟩,?_⟩
  have hsn:(M.take (j+1)).map (rO H)=(M.take j).map (rO H)++[⟨M[j],s.hash⟩]:=by
   rw[bX hj',bM]
   simp[rO,(Wm hfs).1]
  refine z7 (j:=((M.take (j+1)).map (rO H)).length) (zs:=((M.take (j+1)).map (rO H)).flatMap Stub.c) (by simp only[maxLen,bC,bL];omega) (by simp;omega) (by rw[hsn];simp) (by rw[hsn];simp[uu,cellsOf,bs]) ?_
  refine zd (m:=((j+1:Nat):Int)) (by omega) (by omega) ?_
  exact⟨j+1,hj',by omega,zX [(0,0),(1,1),(2,2),(3,3),(4,_)] rfl ⟨rfl,rfl,rfl,cr,cr,cr,trivial⟩ ⟨(aC aZ),yh zero4,ud (xK _) (ud (xK _) (ud rfl (ud rfl rfl))),⟨rfl,rfl,rfl,rfl,zn _⟩,⟨rfl,rfl,rfl,rfl,zn _⟩,trivial⟩⟩
 simp only[zb]at h
 rw[bF (by omega)]
 clear h hj
 refine cU ?_
 refine cU ?_
 exact zf rfl
structure SecP.sm (s:SecP):Prop where
 jn:s.jn.length<=1000000
 wl:s.wl.length<=1000000
 ep:s.ep.length<=1000000
 sd:s.sd.length<=1000000
 en:s.en.length<=1000000
 ex:s.ex.length<=1000000
 au:s.au.length<=1000000
 xt:s.xt.length<=1000000
 cf:s.cf.length<=1000000
 mb:s.mb.length<=1000000
 rs:s.rs.length<=1000000
 it:s.it.length<=1000000
theorem Nh(s:SecP)(hs:s.sm):aG 243 [.ag s.c] (.r (.ag s.c)):=by
 refine aT Tryz.func243 rfl ?_
 obtain⟨h1,h2,h3,h4,h5,h6,h7,h8,h9,h10,h11,h12⟩:=hs
 refine Vstep.bsl (Qb 0 [0,1,2,3,4,5,6,7,8,9,10,11]) Tab_ok rfl rfl rfl rfl rfl rfl (by decide) (by repeat' (first|exact rfl|refine⟨_,_,_,rfl,rfl,rfl,?_⟩)) ?_
 refine zy (λj:Nat=>⟨[(1,.own 0),(2,.own 1),(17,.cut 2 0 12),(18,.r (I 12)),(19,.r (I j))],[(0,some (.box (s.c.map TF.r))),(1,some (.box D8)),(2,some (.box (Qb 0 [0,1,2,3,4,5,6,7,8,9,10,11])))],3⟩) (λj=>j<=12) (λj=>12-j) 0 (by omega) (zM [(0,0),(1,1),(2,2)]) ?_
 intro j hj
 rcases(by omega:j<12\/j=12)with hlt |rfl
 rotate_left
 ·refine cX ?_
  refine cU ?_
  refine cU ?_
  exact cr
 obtain⟨k,hk⟩: ∃k,k=j+1:=⟨_,rfl⟩
 rcases(by omega:j=0\/j=1\/j=2\/j=3\/j=4\/j=5\/j=6\/j=7\/j=8\/j=9\/j=10\/j=11)with rfl |rfl |rfl |rfl |rfl |rfl |rfl |rfl |rfl |rfl |rfl |rfl
 all_goals
  refine cY ?_
  refine zD _ rfl (by decide) ?_
  refine ze (x4 _ (by omega)) ?_
  refine zd (m:=(k:Int)) (by omega) (by omega) ?_
  exact⟨k,by omega,by omega,by subst hk;exact zM [(0,0),(1,1),(2,2)]⟩
theorem eJ(x:KeyP)(hx:x.key.length<=1000000):aG 101 [wQ [x]] (.r (wQ [x])):=by
 refine aT Tryz.func101 rfl ?_
 refine zE 2 ?_
 refine zC mixed Tab_ok ?_
 refine cY ?_
 refine zm qN qO rfl ?_
 refine cU ?_
 refine aV ?_
 refine ze (x4 _ (by omega)) ?_
 refine zw ?_
 refine z7 (j:=1) (zs:=x.c) (by decide) (by decide) rfl rfl ?_
 refine zd (m:=1) rfl (by decide) ?_
 refine zC mixed Tab_ok ?_
 refine cX ?_
 exact cr
structure ViewP where
 ctx:CtxP
 own:Int
 interim:cT
 tag:cT
 sec:SecP
 key:KeyP
abbrev ViewP.c(v:ViewP):List RV:=[bs v.ctx.group,.i .u64 v.ctx.epoch,bs v.ctx.tree,bs v.ctx.trans,I v.own,bs v.interim,bs v.tag,bs v.sec.jn,bs v.sec.wl,bs v.sec.ep,bs v.sec.sd,bs v.sec.en,bs v.sec.ex,bs v.sec.au,bs v.sec.xt,bs v.sec.cf,bs v.sec.mb,bs v.sec.rs,bs v.sec.it,wQ [v.key]]
structure ViewP.sm (v:ViewP):Prop where
 group:v.ctx.group.length<=1000000
 tree:v.ctx.tree.length<=1000000
 trans:v.ctx.trans.length<=1000000
 interim:v.interim.length<=1000000
 tag:v.tag.length<=1000000
 sec:v.sec.sm
 key:v.key.key.length<=1000000
abbrev Ap:List TF:=[.r nl,.r (.i .u64 0),.r nl,.r nl,.r (I 0),.r nl,.r nl,.r nl,.r nl,.r nl,.r nl,.r nl,.r nl,.r nl,.r nl,.r nl,.r nl,.r nl,.r nl,.r nl]
theorem QI(v:ViewP)(hv:v.sm):aG 144 [.ag v.c] (.r (.ag v.c)):=by
 refine aT Tryz.func144 rfl ?_
 obtain⟨h1,h2,h3,h4,h5,h6,h7⟩:=hv
 have cs:=Nh v.sec h6
 have ck:=eJ v.key h7
 refine Vdraw.code0 (Vcode.nmB 0 1000000 rfl λb=>Vcode.subp mixed Tab_ok ((F6 (id:=0) (t:=3) (tn:=1000000) (b:=b) rfl rfl rfl).trans (je (id:=0) (t:=1) (tn:=1000000) rfl rfl)) ?_)
 refine aV ?_
 refine zw ?_
 refine zy (λj:Nat=>⟨[(1,.own 0),(2,.own 1),(18,.r (.sl 1 5 [At b 0,At b 2,At b 3,At b 5,At b 6])),(19,.r (I 5)),(20,.r (I j)),(1000000,.nm 0 (.pointer (some ⟨b,0,none⟩)))],[(0,some (.box (v.c.map TF.r))),(1,some (.box Ap))],2⟩) (λj=>j<=5) (λj=>5-j) 0 (by omega) ((i9 (id:=0) (t:=1) (tn:=1000000) rfl rfl).trans (zM [(0,0),(1,1)])) ?_
 intro j hj
 rcases(by omega:j<5\/j=5)with hlt |rfl
 rotate_left
 ·refine cX ?_
  refine aV ?_
  refine cU ?_
  refine ze cs ?_
  refine ze ck ?_
  refine cU ?_
  refine cU ?_
  exact cr
 obtain⟨k,hk⟩: ∃k,k=j+1:=⟨_,rfl⟩
 rcases(by omega:j=0\/j=1\/j=2\/j=3\/j=4)with rfl |rfl |rfl |rfl |rfl
 all_goals
  refine cY ?_
  refine zm (by decide) (by decide) rfl ?_
  refine zg rfl ?_
  refine zJ (bg (id:=0) (t:=26) (tn:=1000000) rfl rfl rfl) (Vstep.val Tab_ok ?_)
  refine ze (x4 _ (by omega)) ?_
  refine zJ (bg (id:=0) (t:=29) (tn:=1000000) rfl rfl rfl) (Vstep.sto Tab_ok rfl ?_)
  refine zd (m:=(k:Int)) (by omega) (by omega) ?_
  exact⟨k,by omega,by omega,by subst hk;exact zM [(0,0),(1,1)]⟩
section
variable {P:Program} {T:TT} {B:Bs} {N:Nat} {S:St} {a:Act} {w:World} {k:Kp} {g:Env} {o:Oper}
def iM(P:Program)(f:FuncId)(args cells rest:List RV):Prop:=
 mI P f/\∀w k vs,RV.partsAt w k args vs->Calls P f vs.toArray w λe w'=>∃v us,e= .returned (.tuple (v::us).toArray)/\Ext w w'/\∃k':Kp,(∀b,b<w.heap.size->k' b=k b)/\(Res.bx cells).at_ w.heap.size w' k' v/\RV.partsAt w' k' rest us
def Hm(S:St)(cells:List RV):TF->Prop
 | .own id=>ye S.O id=some (.box (cells.map .r))
 |_=>False
def C4(T:TT)(results:List ResultVar)(cells rest:List RV)(S:St):Prop:=
 match results with
 |x::y::xs=>cq T S x (Hm S cells)/\fZ T S (y::xs) λrs=>Cvs rs rest
 |_=>False
theorem HE{X0:World}{X1:Kp}(hs:SatE ⟨X0,X1,[],[]⟩ N S a w k g){id:Nat}{cells:List RV}{v:Value}(ho:ye S.O id=some (.box (cells.map .r)))(hv:v=(g id).1):(Res.bx cells).at_ X0.heap.size w k v:=by
 obtain⟨q1,q2,q3,q4⟩:=hs.owns id _ ho
 simp only[Ow.at_]at q3
 obtain⟨b,cur,t,e,hh,hkb,hsz,hc⟩:=q3
 rw[e]at hv q4
 refine⟨b,cur,t,hv,?_,hh,hkb,by simpa using hsz,λj f u hf hu=>?_⟩
 ·rcases(q4 b rfl).1 with h |h
  ·exact h
  ·simp at h
 ·exact hc j (.r f) u (by rw[bR,hf];rfl) hu
theorem W4{f:FuncId}{fn:Func}{args cells rest:List RV}{c:Code}(hm:P.follows .mixedOrders=true)(hT:TOk P T)(hf:P.funcs[f]?=some fn)(hb:fn.body=some c)
  (hk:(Nat.ble args.length fn.ntmps&&(xf fn.ntmps c&& !(fn.name== "runtime.NumGoroutine")))=true)
  (h:vO P T c (St.args args) λe S=>(e= .ret\/e= .normal)/\∃S',Sub S S'/\C4 T fn.results.toList cells rest S'):iM P f args cells rest:=by
 simp only[bB,Nat.ble_eq,Bool.not_eq_true',beq_eq_false_iff_ne]at hk
 obtain⟨hn,hd,hname⟩:=hk
 refine⟨⟨fn,c,hf,hb,hname⟩,λw k vs hp=>?_⟩
 refine calls_of_wp hf hb ?_
 refine yP hm hT c _ _ h ⟨w,k,[],[]⟩ fn.ntmps _ w k _ (lA hp hn) hd λe S0 a' w' k0 ⟨hex,S',hsub,hq⟩ hs0=>?_
 have fin:a'.defers=[]/\∃v,(results fn a'.tmps).run P w'= .ok v w'/\(λ(e:Ending) w'=>∃v us,e= .returned (.tuple (v::us).toArray)/\Ext w w'/\∃k':Kp,(∀b,b<w.heap.size->k' b=k b)/\(Res.bx cells).at_ w.heap.size w' k' v/\RV.partsAt w' k' rest us) (.returned v) w':=by
  obtain⟨k',g,hs'⟩:=hsub _ _ _ _ _ hs0
  have hext:Ext w w':=⟨hs'.keep.os,hs'.keep.tape,hs'.keep.output,hs'.keep.size,λb hb=>hs'.keep.block b hb (by simp)⟩
  have hkk: ∀b,b<w.heap.size->k' b=k b:=λb hb=>hs'.kk b hb (by simp)
  refine⟨hs'.defers,?_⟩
  unfold C4 at hq
  split at hq
  ·rename_i x y xs hx
   obtain⟨h1,h2⟩:=hq
   obtain⟨fr,v,hret,hat,hr⟩:=nB hT hs' h1
   obtain⟨rs,us,hcv,hp',hlen,hr2⟩:=ou hT hs' h2
   refine⟨.tuple (v::us).toArray,?_,v,us,rfl,hext,k',hkk,?_,hcv.at_ hp'⟩
   ·have hr3: ∀ys:List ResultVar,Sem.run P (List.mapM (ed a'.tmps) ys) w'=Result.ok us w'->Sem.run P (List.mapM (ed a'.tmps) (x::ys)) w'=Result.ok (v::us) w':=λys h=>by
     rw[List.mapM_cons,Sem.run_bind,hr]
     simp[h]
    have hr4:=hr3 _ hr2
    rw[pf,Array.mapM_eq_mapM_toList,hx]
    simp only[Sem.run_bind,Sem.run_map,hr4]
    have hne:us≠[]:=λe=>by rw[e]at hlen;simp at hlen
    simp[hne]
   ·cases fr with
    |own id=>simp only[Hm]at hret;simp only[TF.at_]at hat;exact HE hs' hret hat
    |_=>exact hret.elim
  ·exact hq.elim
 rcases hex with rfl |rfl
 ·exact fin
 ·exact fin
theorem Vstep.nmS(id t:Nat){e:TypeId}{sz n:Nat}{cells:List RV}(ho:ye S.O id=some (.ch e sz n cells false))(h0:0<n){K:St->Prop}(h: ∀b c:Nat,Vstep P ⟨(t,.nm id (.slice (some ⟨b,0,none⟩) n c))::S.F,S.O,S.nx⟩ o K):Vstep P S o K:=by
 refine⟨Σ x:Nat×Nat,(h x.1 x.2).out.choose,λx=>(h x.1.1 x.1.2).out.choose_spec.choose x.2,λB N a w k Q hs0 hd=>?_,λx=>(h x.1.1 x.1.2).out.choose_spec.choose_spec.2 x.2⟩
 obtain⟨g,hs⟩:=hs0
 obtain⟨hid,_,hat,_⟩:=hs.owns id _ ho
 simp only[Ow.at_]at hat
 obtain⟨_,⟨h1,⟨h2,_⟩ |⟨_,h2,_⟩⟩ |⟨b,cap,cur,h1,h2,_⟩⟩:=hat
 ·omega
 ·cases h2
 ·have hs1:yK B N ⟨(t,.nm id (.slice (some ⟨b,0,none⟩) n cap))::S.F,S.O,S.nx⟩ a w k:=by
   refine⟨g,hs.size,hs.defers,hs.keep,hs.kk,λt' f hf=>?_,hs.owns,hs.apart⟩
   rcases yO hf with⟨rfl,rfl⟩ |⟨_,hf⟩
   ·exact⟨hid,by simp only[TF.at_];rw[h2]⟩
   ·exact hs.facts t' f hf
  refine Oper.wp_mono ?_ ((h b cap).out.choose_spec.choose_spec.1 B N a w k Q hs1 hd)
  rintro a' w' ⟨i,k',hs'⟩
  exact⟨⟨(b,cap),i⟩,k',hs'⟩
theorem Vstep.tup(tn:Nat){xs:Array Operand}{ts:Array TypeId}{f:FuncId}{vs args cells rest:List RV}{K:St->Prop}(hop:o.op= .call {callee:= .value (.func f),args:=xs,argTypes:=ts})
  (hx:tU S xs.toList=some vs) (hc:Cvs vs args) (hg:iM P f args cells rest)
  (hK: ∀b:Nat,yI ⟨(tn,.nm S.nx (.pointer (some ⟨b,0,none⟩)))::S.F,(S.nx,some (.box (cells.map .r)))::S.O,S.nx+1⟩ o.dst (.r (.tu (.x (.pointer (some ⟨b,0,none⟩))::rest))) none K):Vstep P S o K:=by
 refine⟨Nat,λb=>St.new ⟨(tn,.nm S.nx (.pointer (some ⟨b,0,none⟩)))::S.F,(S.nx,some (.box (cells.map .r)))::S.O,S.nx+1⟩ o.dst (.r (.tu (.x (.pointer (some ⟨b,0,none⟩))::rest))) none,λB N a w k Q ⟨g,hs⟩ hd=>?_,λb=>by have:=hK b;rw[yJ]at this;exact this⟩
 obtain⟨⟨fn,c,hf,hb,hn⟩,hg⟩:=hg
 unfold Oper.wp
 have hr:(execOp a.eval o).run P w=(callFunc f (xs.toList.map a.eval).toArray).run P w:=by
  have hargs':xs.map a.eval=(xs.toList.map a.eval).toArray:=by apply Array.ext';simp
  simp[execOp,hop,resolve,Act.eval,Deferred.ofValue,invoke,hargs']
 rw[hr,qw hf hb hn]
 simp only[Oper.upon]
 refine(hg w k _ (hc.at_ (kV hs hx))).mono ?_
 rintro e w' ⟨v,us,rfl,hext,k',hk',hres,hrest⟩
 obtain⟨b,cur,t,rfl,hb0,hh,hkb,hsz,hcc⟩:=hres
 have hbl:b<w'.heap.size:=(Array.getElem?_eq_some_iff.1 hh).1
 have hs2:=hs.make (dst:=none) (λd h=>by cases h) hext hk' (o:= .box (cells.map .r)) (vb:=(.pointer (some ⟨b,0,none⟩),some b)) (λf hf=>by obtain⟨v,_,rfl⟩:=List.mem_map.1 hf;trivial)
  ⟨b,cur,t,rfl,hh,hkb,by simpa using hsz,λj f u hf hu=>by
   rw[bR]at hf
   obtain⟨v,hv,rfl⟩:=Option.map_eq_some_iff.1 hf
   exact hcc j v u hv hu⟩ (λb' hb'=>by cases hb';exact⟨hb0,hbl⟩)
 have hs3:SatE B N ⟨(tn,.nm S.nx (.pointer (some ⟨b,0,none⟩)))::S.F,(S.nx,some (.box (cells.map .r)))::S.O,S.nx+1⟩ a w' k' (g.set S.nx (.pointer (some ⟨b,0,none⟩),some b)):=by
  refine⟨hs2.size,hs2.defers,hs2.keep,hs2.kk,λt' f hf=>?_,hs2.owns,hs2.apart⟩
  rcases yO hf with⟨rfl,rfl⟩ |⟨_,hf⟩
  ·exact⟨Nat.lt_succ_self _,by simp only[TF.at_,Env.set_eq]⟩
  ·exact hs2.facts t' f hf
 exact⟨b,k',_,hs3.put hd trivial (by simp only[TF.at_,RV.at_,RV.partsAt];exact⟨_,rfl,_,_,rfl,rfl,hrest⟩)⟩
end
end Go.Proofs.YtkegaaonpekkgaaGreat.Sx
