import Derived.Test.YtpcfoglfakeimaaGreatZOg
import Derived.Test.YtpcfoglfakeimaaGreatZOe
import Derived.Test.YtpcfoglfakeimaaGreatZHc
import Derived.Test.YtpcfoglfakeimaaGreatZGg
import Derived.Test.YtpcfoglfakeimaaGreatZHb
import Derived.Test.YtpcfoglfakeimaaGreatZSxPt
import Derived.Test.YtpcfoglfakeimaaGreatZCg
import Derived.Test.YtpcfoglfakeimaaGreatZOb
import Derived.Test.YtpcfoglfakeimaaGreatZKf
import Derived.Test.YtpcfoglfakeimaaGreatZNk
import Derived.Test.YtpcfoglfakeimaaGreatZSxU
import Derived.Test.YtpcfoglfakeimaaGreatZNx
import Derived.Maps.RangeRun
import Derived.Shelf.SlIterI.Nil
import Derived.Shelf.SortM.Plain
import Derived.Shelf.SortM.SortNone
import Derived.Ground.GgzProg
import Derived.Ground.SlgmProg
import Derived.WideShapes
import Derived.Test.YtpcfoglfakeimaaGreatZSxBr
import Derived.Test.YtpcfoglfakeimaaGreatZCb
namespace Go.Proofs.YtpcfoglfakeimaaGreat.Sx
open Go.RowKit
def stp(k:Nat)(d:DoneP)(o:OffP):DoneP:=
 if k=2 then{d with t:=setT d.t o.frm (L1 o.prop.leaf)}else if k=3 then{d with t:=cutT (setT d.t o.prop.at_ Node.zero)}
 else{d with t:=addN d.t o.prop.pack.leaf (zaw d.t) (zdc d.t),ls:=d.ls++[o.prop.pack.leaf],at_:=d.at_++[(zaw d.t:Int)]}
def run(k:Nat)(l:List OffP)(d:DoneP):DoneP:=l.foldl (λd o=>if o.prop.kind.toNat=k then stp k d o else d) d
theorem zez{k:Nat}{l:List OffP}{d:DoneP}{j:Nat}(hj:j<l.length):run k (l.take (j+1)) d=if l[j].prop.kind.toNat=k then stp k (run k (l.take j) d) l[j]else run k (l.take j) d:=by
 unfold run
 rw[List.take_succ_eq_append_getElem hj,List.foldl_append]
 rfl
theorem zja{p:PropP}(h:p.right=true)(hk:p.kind.toNat=2):p.leaf.right=true:=by
 unfold PropP.right at h
 rw[if_neg (λe=>by rw[e]at hk;exact absurd hk (by decide)),if_pos (show p.kind=2 from UInt8.toNat_inj.1 hk)]at h
 simp only[Bool.and_eq_true]at h
 exact h.1.2.1
theorem zjb{p:PropP}(h:p.right=true)(hk:p.kind.toNat=1):p.pack.leaf.right=true:=by
 unfold PropP.right at h
 rw[if_pos (show p.kind=1 from UInt8.toNat_inj.1 hk)]at h
 simp only[Bool.and_eq_true]at h
 exact PackP.right_leaf h.1.1
structure Good (d:DoneP):Prop where
 r:RightT d.t
 fit: ∀x∈d.t,x.fit
theorem Good.len{d:DoneP}(h:Good d):d.t.length<=1000000:=by
 obtain⟨e,he,_,hl⟩:=zch h.r.n
 have:=(zgb he).2
 omega
theorem z40{u:List Node}(r:RightT u){o:Nat}(h:(o:Int)∈zaf u):(o:Int)<zae u:=by
 obtain⟨e,he,e1,hl⟩:=zch r.n
 obtain⟨q,e2,h1,_⟩:=za8 h
 have:o=q:=by exact_mod_cast e2
 omega
structure I2 (t:List Node) (d:DoneP):Prop where
 good:Good d
 mem: ∀m:Nat,(m:Int)∈zaf d.t↔(m:Int)∈zaf t
 ls:d.ls=[]
 at_:d.at_=[]
theorem zr9{t:List Node}{d:DoneP}{o:OffP}(h:I2 t d)(hm:o.frm∈zaf t)(hr:o.prop.leaf.right=true)(hf:o.prop.leaf.fit):I2 t (stp 2 d o)/\updT d.t o.frm o.prop.leaf=setT d.t o.frm (L1 o.prop.leaf)/\o.frm∈zaf d.t:=by
 obtain⟨q,e,_,hq⟩:=za8 hm
 rw[e]at hm
 have hd:=(h.mem q).2 hm
 have hlt:=z40 h.good.r hd
 have s:=zxx (y:=L1 o.prop.leaf) h.good.r hlt (zko hr) (.inr rfl)
 have hst:stp 2 d o={d with t:=setT d.t o.frm (L1 o.prop.leaf)}:=if_pos rfl
 rw[hst,e]
 refine⟨⟨⟨z5x h.good.r hlt (zko hr) rfl,z0a h.good.fit (zl2 hf)⟩,λm=>?_,h.ls,h.at_⟩,zst h.good.r.n hlt,hd⟩
 rw[<-h.mem m,zdq,zdq]
 show(nT (setT d.t (q:Int) (L1 o.prop.leaf)) (2*m)).kind.toNat=1↔_
 by_cases hmq:m=q
 ·subst hmq
  rw[s.at_]
  exact⟨λ_=>zdq.1 hd,λ_=>rfl⟩
 ·rw[s.leaf m hmq]
structure I3 (t:List Node) (b:Int) (l:List OffP) (j:Nat) (d:DoneP):Prop where
 good:Good d
 by_:b∈zaf d.t
 at_: ∀i (hi:i<l.length),j<=i->l[i].prop.kind.toNat=3->l[i].prop.at_∈zaf d.t
 sub: ∀m:Nat,(m:Int)∈zaf d.t->(m:Int)∈zaf t
 ls:d.ls=[]
 pl:d.at_=[]
theorem zbeb{t:List Node}{b:Int}{l:List OffP}{j:Nat}{d:DoneP}(h:I3 t b l j d):I3 t b l (j+1) d:=⟨h.good,h.by_,λi hi hij=>h.at_ i hi (by omega),h.sub,h.ls,h.pl⟩
theorem zsa{t:List Node}{b:Int}{l:List OffP}{g:List UInt8}{j:Nat}{d:DoneP}(hj:j<l.length)(h:I3 t b l j d)(hk:l[j].prop.kind.toNat=3)(hl:LawOk t b l g j l[j]):
  I3 t b l (j+1) (stp 3 d l[j])/\remT d.t l[j].prop.at_=cutT (setT d.t l[j].prop.at_ Node.zero)/\l[j].prop.at_∈zaf d.t/\(zaf d.t).length≠1/\2*cutN (setT d.t l[j].prop.at_ Node.zero)-1<=(setT d.t l[j].prop.at_ Node.zero).length:=by
 have hm:=h.at_ j hj (Nat.le_refl _) hk
 obtain⟨q,e,_,hq⟩:=za8 hm
 obtain⟨B,eb,_,hB⟩:=za8 h.by_
 have hne:B≠q:=λe2=>(hl.rem hk).2 (by rw[e,eb,e2])
 have hst:stp 3 d l[j]={d with t:=cutT (setT d.t l[j].prop.at_ Node.zero)}:=by unfold stp;rw[if_neg (by omega),if_pos rfl]
 rw[hst]
 have hlen:(zaf d.t).length≠1:=λh1=>by
  obtain⟨z,hz⟩:=List.length_eq_one_iff.1 h1
  have h2:=h.by_
  rw[hz,List.mem_singleton]at h2
  rw[hz,List.mem_singleton]at hm
  exact(hl.rem hk).2 (hm.trans h2.symm)
 have hat: ∀i (hi:i<l.length),j+1<=i->l[i].prop.kind.toNat=3->l[i].prop.at_≠l[j].prop.at_:=λi hi hij hki he=>hl.conf i hi (.inr (.inl ⟨by omega,hk,hki,he⟩))
 rw[e]at hm hat⊢
 have hlt:=z40 h.good.r hm
 have s:=zxx (y:=Node.zero) h.good.r hlt zlz (.inl rfl)
 obtain⟨v,hv⟩: ∃v,v=setT d.t (q:Int) Node.zero:=⟨_,rfl⟩
 have hbs:=zst (y:=Node.zero) h.good.r.n hlt
 unfold remT
 rw[hbs]
 have hfit:=z0a (o:=q) h.good.fit zly
 rw[<-hv]at s hfit⊢
 have hvn:zae v≠0:=by rw[s.leaves];exact h.good.r.n
 have hmem: ∀m:Nat,(m:Int)∈zaf v↔m≠q/\(m:Int)∈zaf d.t:=λm=>by
  rw[zdq,zdq]
  by_cases hmq:m=q
  ·subst hmq
   rw[s.at_,zc2]
   exact⟨λh=>by omega,λh=>absurd rfl h.1⟩
  ·rw[s.leaf m hmq]
   exact⟨λh=>⟨hmq,h⟩,λh=>h.2⟩
 have hbm:((B:Nat):Int)∈zaf v:=(hmem B).2 ⟨hne,by rw[<-eb];exact h.by_⟩
 have hex: ∃x,x∈zaf v:=⟨_,hbm⟩
 obtain⟨c1,c2⟩:=z2v hvn s.ok s.late hex
 obtain⟨ee,Q,k1,k2,k3,_⟩:=zo4 hvn hex
 obtain⟨dd,hdd,e1,hvl⟩:=zch hvn
 refine⟨⟨⟨c1,z98 hfit⟩,?_,λi hi hij hki=>?_,λm hmm=>h.sub m ((hmem m).1 ((c2 m).1 hmm)).2,h.ls,h.pl⟩,z2b hvn s.ok hex,hm,hlen,by rw[k1,hvl];omega⟩
 ·rw[eb];exact(c2 B).2 hbm
 ·have h1:=h.at_ i hi (by omega) hki
  obtain⟨w,ew,_,_⟩:=za8 h1
  have h2:=hat i hi hij hki
  rw[ew]at h1 h2⊢
  exact(c2 w).2 ((hmem w).2 ⟨λe2=>h2 (by rw[e2]),h1⟩)
structure I1 (t:List Node) (j:Nat) (d:DoneP):Prop where
 good:Good d
 cnt:cntM d.t<=cntM t+j
 ls:d.ls.length<=j
 pl:d.at_.length<=j
 ints: ∀x∈d.at_,i64 x
theorem zbdb{t:List Node}{j:Nat}{d:DoneP}(h:I1 t j d):I1 t (j+1) d:=⟨h.good,by have:=h.cnt;omega,by have:=h.ls;omega,by have:=h.pl;omega,h.ints⟩
theorem zr8{t:List Node}{j:Nat}{d:DoneP}{o:OffP}(h:I1 t j d)(hr:o.prop.pack.leaf.right=true)(hf:o.prop.pack.leaf.fit)(ht:cntM t+j<65536):
  I1 t (j+1) (stp 1 d o)/\¬(zaw d.t=(zae d.t).toNat/\zae d.t=65536):=by
 have hb: ¬(zaw d.t=(zae d.t).toNat/\zae d.t=65536):=λ⟨h1,h2⟩=>by
  have:=z6f h.good.r h1
  have:=h.cnt
  omega
 obtain⟨a1,a2,a3,a4⟩:=z2m h.good.r hr hb
 have hst:stp 1 d o={d with t:=addN d.t o.prop.pack.leaf (zaw d.t) (zdc d.t),ls:=d.ls++[o.prop.pack.leaf],at_:=d.at_++[(zaw d.t:Int)]}:=by unfold stp;rw[if_neg (by omega),if_neg (by omega)]
 rw[hst]
 refine⟨⟨⟨a1,z9z h.good.fit hf a3 a4⟩,?_,?_,?_,λx hx=>?_⟩,hb⟩
 ·have:=z96 a2
  have:=h.cnt
  show cntM (addN _ _ _ _)<=_
  omega
 ·have:=h.ls
  show(d.ls++[_]).length<=_
  rw[aL,List.length_singleton];omega
 ·have:=h.pl
  show(d.at_++[_]).length<=_
  rw[aL,List.length_singleton];omega
 ·rcases List.mem_append.1 hx with h1 |h1
  ·exact h.ints x h1
  ·rw[List.mem_singleton]at h1
   subst h1
   unfold i64;omega
def d0(t:List Node)(b:Bool):DoneP:=⟨t,[],[],b⟩
section
variable {t:List Node} {b:Int} {l:List OffP} {g:List UInt8} (w:Bool)
theorem zqs(r:RightT t)(hfit: ∀x∈t,x.fit)(hl: ∀i (hi:i<l.length),LawOk t b l g i l[i])(hs: ∀o∈l,o.prop.sml): ∀j,j<=l.length->I2 t (run 2 (l.take j) (d0 t w))
 |0,_=>⟨⟨r,hfit⟩,λm=>Iff.rfl,rfl,rfl⟩
 |j+1,hj=>by
  have ih:=zqs r hfit hl hs j (by omega)
  rw[zez (by omega)]
  split
  ·rename_i hk
   have h1:=hl j (by omega)
   exact(zr9 ih h1.mem (zja h1.right hk) (hs _ (List.getElem_mem _)).leaf.fit).1
  ·exact ih
theorem zqt(r:RightT t)(hfit: ∀x∈t,x.fit)(hb:b∈zaf t)(hl: ∀i (hi:i<l.length),LawOk t b l g i l[i])(hs: ∀o∈l,o.prop.sml): ∀j,j<=l.length->I3 t b l j (run 3 (l.take j) (run 2 l (d0 t w)))
 |0,_=>by
  have h2:=zqs w r hfit hl hs l.length (Nat.le_refl _)
  rw[List.take_length]at h2
  have up: ∀x,x∈zaf t->x∈zaf (run 2 l (d0 t w)).t:=λx hx=>by
   obtain⟨q,e,_,_⟩:=za8 hx
   rw[e]at hx⊢
   exact(h2.mem q).2 hx
  exact⟨h2.good,up b hb,λi hi _ hk=>up _ ((hl i hi).rem hk).1,λm hm=>(h2.mem m).1 hm,h2.ls,h2.at_⟩
 |j+1,hj=>by
  have ih:=zqt r hfit hb hl hs j (by omega)
  rw[zez (by omega)]
  split
  ·rename_i hk
   exact(zsa (by omega) ih hk (hl j (by omega))).1
  ·exact zbeb ih
theorem zmu(r:RightT t)(hfit: ∀x∈t,x.fit)(hb:b∈zaf t)(hl: ∀i (hi:i<l.length),LawOk t b l g i l[i])(hs: ∀o∈l,o.prop.sml)(ht:cntM t+l.length<65536): ∀j,j<=l.length->I1 t j (run 1 (l.take j) (run 3 l (run 2 l (d0 t w))))
 |0,_=>by
  have h3:=zqt w r hfit hb hl hs l.length (Nat.le_refl _)
  rw[List.take_length]at h3
  have hc:=z97 h3.sub
  rw[show run 1 (l.take 0) (run 3 l (run 2 l (d0 t w)))=run 3 l (run 2 l (d0 t w))from rfl]
  refine⟨h3.good,by rw[Nat.add_zero];exact hc,?_,?_,λx hx=>?_⟩
  ·show(run 3 l (run 2 l (d0 t w))).ls.length<=0
   rw[h3.ls];exact Nat.le_refl _
  ·show(run 3 l (run 2 l (d0 t w))).at_.length<=0
   rw[h3.pl];exact Nat.le_refl _
  ·have hx':x∈(run 3 l (run 2 l (d0 t w))).at_:=hx
   rw[h3.pl]at hx';cases hx'
 |j+1,hj=>by
  have ih:=zmu r hfit hb hl hs ht j (by omega)
  rw[zez (by omega)]
  split
  ·rename_i hk
   have h1:=hl j (by omega)
   exact(zr8 ih (zjb h1.right hk) (hs _ (List.getElem_mem _)).pl.fit (by omega)).1
  ·exact zbdb ih
end
def zf3(t:List Node)(l:List OffP)(w:Bool):DoneP:=run 1 l (run 3 l (run 2 l (d0 t w)))
def zeroD:DoneP:=⟨[],[],[],false⟩
open Classical in
noncomputable def outD (t:List Node)(b:Int)(l:List OffP)(g:List UInt8):DoneP×Nat:=
 if rightT t=false then(zeroD,12)else if b∉zaf t then(zeroD,7)else if¬(mayT t b l g=true/\l.length<=64)then(zeroD,14)
 else if zeb (zf3 t l (zck l)).t=true then(zf3 t l (zck l),0)else(zeroD,14)
theorem ze9(e:RV):Cv (.tu [.ag [nl,nl,nl, .b false],e]) (.tu [.ag zeroD.c,e]):=Cv.tu (zk (Cv.ag (zk (Cv.nil 10) (zk (Cv.nil 6) (zk (Cv.nil 1) (zn _))))) (zn _))
def kd:Nat->Nat
 |0=>2
 |1=>3
 |_=>1
def Dk(t:List Node)(l:List OffP)(w:Bool):Nat->DoneP
 |0=>d0 t w
 |i+1=>run (kd i) l (Dk t l w i)
theorem zaqb(t:List Node)(ht:t.length<=1000000)(hfit: ∀x∈t,x.fit):aG 17 [nods t] (.r (nods t)):=z6x (zhl (zzk t ht hfit))
section
variable {t:List Node} {b:Int} {l:List OffP} {g:List UInt8} (w:Bool)
theorem za9b(v:Value)(r:RightT t)(hfit: ∀x∈t,x.fit)(hb:b∈zaf t)(hl: ∀i (hi:i<l.length),LawOk t b l g i l[i])(hs: ∀o∈l,o.prop.sml)(ht:cntM t+l.length<65536){i j:Nat}(hi:i<3)(hj:j<l.length)(hk:l[j].prop.kind.toNat=kd i):
  Acts aP 19 3 (dO (run (kd i) (l.take j) (Dk t l w i))) [.own 0, .r (.ag l[j].c)] [(0,v)] 3 (dO (run (kd i) (l.take (j+1)) (Dk t l w i))) (.r (Er 0)):=by
 rw[zez hj,if_pos hk]
 have h1:=hl j hj
 have hsm:=hs _ (List.getElem_mem hj)
 rcases(by omega:i=0\/i=1\/i=2)with rfl |rfl |rfl
 ·have I:=zqs w r hfit hl hs j (by omega)
  obtain⟨_,e,hm⟩:=zr9 I h1.mem (zja h1.right hk) hsm.leaf.fit
  have c:=za7b v _ l[j] hk I.good.len I.good.fit (zbr.2 I.good.r) hsm.leaf.fit (zja h1.right hk) hm
  rw[e]at c
  exact c
 ·have I:=zqt w r hfit hb hl hs j (by omega)
  obtain⟨_,e,hm,hn,_⟩:=zsa hj I hk h1
  have c:=za8b v _ l[j] hk I.good.len I.good.fit (zbr.2 I.good.r) hm hn
  rw[e]at c
  exact c
 ·have I:=zmu w r hfit hb hl hs ht j (by omega)
  obtain⟨_,hbig⟩:=zr8 I (zjb h1.right hk) hsm.pl.fit (by omega)
  obtain⟨i1,i2⟩:=And.intro I.ls I.pl
  exact za6b v (run 1 (l.take j) (run 3 l (run 2 l (d0 t w)))) l[j] hk I.good.len I.good.fit (zbr.2 I.good.r) hsm.pl.fit (zjb h1.right hk) hbig (by omega) (by omega)
end
abbrev z4l:RV:= .sl 1 3 [.i .u8 2, .i .u8 3, .i .u8 1]
abbrev apA(l:List OffP)(d:DoneP)(i:Nat):St:=⟨[(2, .r (offs l)),(8, .own 3),(13, .own 0),(51, .r z4l),(52, .r (I 3)),(53, .r (I i))],[(0,some (dBx d.t d.need)),(1,some (dL d.ls)),(2,some (dI d.at_)),(3,some (.box [.r nl, .r nl, .r nl, .r (.b false)]))],4⟩
abbrev apB(l:List OffP)(d:DoneP)(i j:Nat):St:=⟨[(2, .r (offs l)),(8, .own 3),(13, .own 0),(15, .r (.i .u8 (kd i:Nat))),(51, .r z4l),(52, .r (I 3)),(53, .r (I i)),(57, .r (offs l)),(58, .r (I l.length)),(59, .r (I j))],[(0,some (dBx d.t d.need)),(1,some (dL d.ls)),(2,some (dI d.at_)),(3,some (.box [.r nl, .r nl, .r nl, .r (.b false)]))],4⟩
set_option maxHeartbeats 1000000 in
theorem z7e(t:List Node)(b:Int)(l:List OffP)(g:List UInt8)(ht:t.length<=1000)(hfit: ∀x∈t,x.fit)(hl:l.length<=1000)(hs: ∀o∈l,o.prop.sml/\i64 o.frm)(hg:g.length<=1000000):
  aG 7 [nods t,I b,offs l,bs g] (.r (.tu [.ag (outD t b l g).1.c,Er (outD t b l g).2])):=by
 refine za1 (T:=Tab) mixed Tab_ok Tryz.func7 rfl (by kernel_rfl) ?_
 refine ze (zir t (by omega) hfit) ?_
 unfold outD
 cases hr:rightT t with
 |false=>exact zu rfl (zq ⟨_,zo _,za rfl rfl ⟨_,rfl,ze9 _⟩⟩)
 |true=>
 have r:=zbr.1 hr
 refine zw rfl (zt ?_)
 refine ze (z1g t (by omega) hfit hr) ?_
 refine Vstep.look2 (.ag zlC) rfl rfl rfl zkh zdv zrs zrv (λq hq=>?_) (λhq=>?_)
 case refine_2=>
  rw[zd6]at hq
  by_cases hb:b∈zaf t
  ·rw[if_pos hb]at hq;cases hq
  ·rw[if_neg (by simp),if_pos hb]
   exact zu rfl (zq ⟨_,zo _,za rfl rfl ⟨_,rfl,ze9 _⟩⟩)
 rw[zd6]at hq
 by_cases hb:b∈zaf t
 case neg=>rw[if_neg hb]at hq;cases hq
 rw[if_pos hb]at hq
 cases hq
 rw[if_neg (by simp),if_neg (λh=>h hb)]
 refine zw rfl (zt ?_)
 have bad: ¬(mayT t b l g=true/\l.length<=64)->(if¬(mayT t b l g=true/\l.length<=64)then(zeroD,14)else if zeb (zf3 t l (zck l)).t=true then(zf3 t l (zck l),0)else(zeroD,14):DoneP×Nat)=(zeroD,14):=λh=>if_pos h
 refine zh (λc1=>?_) (λc1=>?_)
 ·simp only[zb]at c1
  rw[bad (λh=>by omega)]
  exact zq ⟨_,zo _,za rfl rfl ⟨_,rfl,ze9 _⟩⟩
 simp only[zb]at c1
 refine ze (zdnb t b l g hl hs hg) ?_
 cases hmay:mayT t b l g with
 |false=>
  rw[hmay]at bad
  rw[bad (λh=>by cases h.1)]
  exact zu rfl (zq ⟨_,zo _,za rfl rfl ⟨_,rfl,ze9 _⟩⟩)
 |true=>
 clear bad
 rw[if_neg (λh=>h ⟨rfl,by omega⟩)]
 have hlaw:=zit.1 hmay
 have hsm:=λo ho=>(hs o ho).1
 have hcnt:cntM t+l.length<65536:=by have:=zu8 (u:=t);omega
 refine zw rfl (zt ?_)
 refine ze (zaqb t (by omega) hfit) ?_
 refine ze (zazb l (by omega)) ?_
 refine zy ?_
 obtain⟨w,hw⟩: ∃w,w=zck l:=⟨_,rfl⟩
 rw[<-hw]
 have hstep:=λv {i j:Nat}=>za9b (i:=i) (j:=j) w v r hfit hb hlaw hsm hcnt
 have hfin:zf3 t l w=Dk t l w 3:=rfl
 have hI:=zmu w r hfit hb hlaw hsm hcnt l.length (Nat.le_refl _)
 rw[List.take_length]at hI
 rw[hfin]
 have hI':I1 t l.length (Dk t l w 3):=hI
 clear hw
 refine Vloop.mkx (λi:Nat=>apA l (Dk t l w i) i) (λi=>i<=3) (λi=>3-i) 0 (by omega) ?_ ?_
 ·refine Sub.trans (zcu false 2 1 31 6 (cells:=[.r (nods t), .r nl, .r nl, .r (.b w)]) rfl rfl) ?_
  refine Sub.trans (zcu false 2 2 3 1 (cells:=[.r (nods t), .own 4, .r nl, .r (.b w)]) rfl rfl) ?_
  refine Sub.trans (zpv (t:=51) rfl rfl) ?_
  exact zac (S':=apA l (Dk t l w 0) 0) [(0,2),(1,4),(2,5),(3,0)] rfl ⟨cr,rfl,rfl,cr,cr,cr,trivial⟩ ⟨zdx rfl rfl,⟨rfl,rfl,rfl,rfl,zn _⟩,⟨rfl,rfl,rfl,rfl,zn _⟩,(aC aZ),trivial⟩
 intro i hi
 refine zh (λh=>zq ?_) (λh=>zt ?_)
 ·simp only[zb]at h
  have hi3:i<3:=by omega
  refine zm (by omega) (by omega) (show _=[RV.i .u8 (kd i:Nat)]from by rcases(by omega:i=0\/i=1\/i=2)with rfl |rfl |rfl<;>rfl) (zg rfl ?_)
  refine Vloop.mk' (λj:Nat=>apB l (run (kd i) (l.take j) (Dk t l w i)) i j) (λj=>j<=l.length) (λj=>l.length-j) 0 (by omega) ?_ ?_
  ·exact zac (S':=apB l (Dk t l w i) i 0) [(0,0),(1,1),(2,2),(3,3)] rfl ⟨cr,rfl,rfl,cr,cr,cr,cr,cr,cr,cr,trivial⟩ ⟨zdx rfl rfl,⟨rfl,rfl,rfl,rfl,zn _⟩,⟨rfl,rfl,rfl,rfl,zn _⟩,(aC aZ),trivial⟩
  intro j hj
  refine zh (λh2=>zq ?_) (λh2=>zt ?_)
  ·simp only[zb]at h2
   have hj':j<l.length:=by omega
   refine zm (by omega) (by omega) (zco rfl hj') (za rfl rfl ?_)
   have rs:=zez (k:=kd i) (d:=Dk t l w i) hj'
   refine zh (λhk=>zq ?_) (λhk=>zt ?_)
   ·simp only[zb]at hk
    have hk': ¬l[j].prop.kind.toNat=kd i:=by omega
    rw[if_neg hk']at rs
    refine zd (m:=((j+1:Nat):Int)) (by omega) (by omega) ?_
    refine⟨j+1,by omega,by omega,?_⟩
    rw[rs]
    exact zac (S':=apB l (run (kd i) (l.take j) (Dk t l w i)) i (j+1)) [(0,0),(1,1),(2,2),(3,3)] rfl ⟨cr,rfl,rfl,cr,cr,cr,cr,cr,cr,cr,trivial⟩ ⟨zdx rfl rfl,⟨rfl,rfl,rfl,rfl,zn _⟩,⟨rfl,rfl,rfl,rfl,zn _⟩,(aC aZ),trivial⟩
   ·simp only[zb]at hk
    have hk':l[j].prop.kind.toNat=kd i:=by omega
    have st:=λv=>hstep v hi3 hj' hk'
    clear rs
    generalize run (kd i) (l.take j) (Dk t l w i)=d1 at*
    refine za rfl rfl ?_
    refine zj [(0,0),(1,1),(2,2)] [0] (λvs _=>st (vs 0)) (zi rfl ⟨_,_,rfl,rfl,_,_,rfl,cr,rfl⟩) rfl ⟨zdx rfl rfl,⟨rfl,rfl,rfl,rfl,zn _⟩,⟨rfl,rfl,rfl,rfl,zn _⟩,trivial⟩ (z89 _) ?_
    refine zw rfl (zt ?_)
    refine zd (m:=((j+1:Nat):Int)) (by omega) (by omega) ?_
    exact⟨j+1,by omega,by omega,zac (S':=apB l (run (kd i) (l.take (j+1)) (Dk t l w i)) i (j+1)) [(0,0),(1,6),(2,7),(3,3)] rfl ⟨cr,rfl,rfl,cr,cr,cr,cr,cr,cr,cr,trivial⟩ ⟨zdx rfl rfl,⟨rfl,rfl,rfl,rfl,zn _⟩,⟨rfl,rfl,rfl,rfl,zn _⟩,(aC aZ),trivial⟩⟩
  ·simp only[zb]at h2
   obtain rfl:j=l.length:=by omega
   rw[List.take_length]
   refine zd (m:=((i+1:Nat):Int)) (by omega) (by omega) ?_
   refine⟨i+1,by omega,by omega,?_⟩
   exact zac (S':=apA l (run (kd i) l (Dk t l w i)) (i+1)) [(0,0),(1,1),(2,2),(3,3)] rfl ⟨cr,rfl,rfl,cr,cr,cr,trivial⟩ ⟨zdx rfl rfl,⟨rfl,rfl,rfl,rfl,zn _⟩,⟨rfl,rfl,rfl,rfl,zn _⟩,(aC aZ),trivial⟩
 ·simp only[zb]at h
  obtain rfl:i=3:=by omega
  refine⟨_,(za7 (id:=1) rfl).trans (za7 (id:=2) rfl),?_⟩
  refine ze (zalb _ hI'.good.len) ?_
  generalize Dk t l w 3=d at*
  cases hap:zeb d.t with
  |false=>exact zu rfl (zq ⟨_,zo _,za rfl rfl ⟨_,rfl,ze9 _⟩⟩)
  |true=>
   refine zw rfl (zt ?_)
   refine za rfl rfl ?_
   exact⟨_,zo _,za rfl rfl ⟨_,rfl,cr⟩⟩
def isK(k:Nat)(o:OffP):Bool:=decide (o.prop.kind.toNat=k)
def wyA(l:List OffP)(j:Nat):Bool:=decide (l.length=0)||(l.take j).any (isK 2)
def wyB(l:List OffP)(j:Nat):Bool:=wyA l l.length||(l.take j).any (isK 3)
theorem zkq{p:OffP->Bool}{l:List OffP}{j:Nat}(hj:j<l.length):(l.take (j+1)).any p=((l.take j).any p||p l[j]):=by
 rw[List.take_succ_eq_append_getElem hj,List.any_append];simp
theorem zclb{l:List OffP}{j:Nat}(hj:j<l.length)(h:l[j].prop.kind.toNat=2):wyA l (j+1)=true:=by
 unfold wyA;rw[zkq hj];simp[isK,h]
theorem ze9b{l:List OffP}{j:Nat}(hj:j<l.length)(h: ¬l[j].prop.kind.toNat=2):wyA l (j+1)=wyA l j:=by
 unfold wyA;rw[zkq hj];simp[isK,h]
theorem zcnb{l:List OffP}{j:Nat}(hj:j<l.length)(h:l[j].prop.kind.toNat=3):wyB l (j+1)=true:=by
 unfold wyB;rw[zkq hj];simp[isK,h]
theorem zfab{l:List OffP}{j:Nat}(hj:j<l.length)(h: ¬l[j].prop.kind.toNat=3):wyB l (j+1)=wyB l j:=by
 unfold wyB;rw[zkq hj];simp[isK,h]
theorem z70{p:PropP}(h:p.right=true):p.kind.toNat=1\/p.kind.toNat=2\/p.kind.toNat=3:=by
 by_cases k1:p.kind=1
 ·exact .inl (by rw[k1];rfl)
 ·by_cases k2:p.kind=2
  ·exact .inr (.inl (by rw[k2];rfl))
  ·by_cases k3:p.kind=3
   ·exact .inr (.inr (by rw[k3];rfl))
   ·unfold PropP.right at h
    rw[if_neg k1,if_neg k2,if_neg k3]at h
    cases h
theorem zcmb{l:List OffP}(h: ∀o∈l,o.prop.right=true):wyB l l.length=zck l:=by
 unfold wyB wyA zck
 rw[List.take_length,Bool.or_assoc]
 congr 1
 rw[Bool.eq_iff_iff,Bool.or_eq_true,List.any_eq_true,List.any_eq_true,List.any_eq_true]
 constructor
 ·rintro(⟨o,ho,hk⟩ |⟨o,ho,hk⟩)
  ·exact⟨o,ho,by simp only[isK,decide_eq_true_eq]at hk;simp only[ziw,decide_eq_true_eq];omega⟩
  ·exact⟨o,ho,by simp only[isK,decide_eq_true_eq]at hk;simp only[ziw,decide_eq_true_eq];omega⟩
 ·rintro⟨o,ho,hk⟩
  simp only[ziw,decide_eq_true_eq]at hk
  rcases z70 (h o ho)with k |k |k
  ·exact absurd k hk
  ·exact .inl ⟨o,ho,by simp only[isK,decide_eq_true_eq];exact k⟩
  ·exact .inr ⟨o,ho,by simp only[isK,decide_eq_true_eq];exact k⟩
theorem zeyb(k:Nat)(d:DoneP)(o:OffP):(stp k d o).need=d.need:=by
 unfold stp;split
 ·rfl
 ·split<;>rfl
theorem zxt(k:Nat): ∀(l:List OffP) (d:DoneP),(run k l d).need=d.need
 |[],d=>rfl
 |o::l,d=>by
  show(run k l (if o.prop.kind.toNat=k then stp k d o else d)).need=d.need
  rw[zxt k l]
  split
  ·exact zeyb k d o
  ·rfl
abbrev lwA(l:List OffP)(tt:List Node)(w:Bool)(j:Nat):St:=⟨[(2, .r (offs l)),(8, .own 0),(10, .own 1),(11, .r (I j))],[(0,some (.box [.r nl, .r nl, .r nl, .r (.b false)])),(1,some (.box [.r (nods tt), .r nl, .r nl, .r (.b w)]))],2⟩
abbrev lwB(l:List OffP)(tt:List Node)(w:Bool)(j:Nat):St:=⟨[(2, .r (offs l)),(8, .own 0),(10, .own 1),(12, .r (I j))],[(0,some (.box [.r nl, .r nl, .r nl, .r (.b false)])),(1,some (.box [.r (nods tt), .r nl, .r nl, .r (.b w)]))],2⟩
abbrev lwC(l:List OffP)(d:DoneP)(j:Nat):St:=⟨[(2, .r (offs l)),(8, .own 3),(10, .own 0),(13, .r (I j))],[(0,some (dBx d.t d.need)),(1,some (dL d.ls)),(2,some (dI d.at_)),(3,some (.box [.r nl, .r nl, .r nl, .r (.b false)]))],4⟩
set_option maxHeartbeats 1000000 in
theorem z65(t:List Node)(b:Int)(l:List OffP)(g:List UInt8)(ht:t.length<=1000)(hfit: ∀x∈t,x.fit)(hl:l.length<=1000)(hs: ∀o∈l,o.prop.sml/\i64 o.frm)(hg:g.length<=1000000)(hR:aG 21 [nods t] (.r (.b (rightT t)))):
  aG 8 [nods t,I b,offs l,bs g] (.r (.tu [.ag (outD t b l g).1.c,I (outD t b l g).2])):=by
 refine za1 (T:=Tab) mixed Tab_ok Tryz.func8 rfl (by kernel_rfl) ?_
 refine ze hR ?_
 unfold outD
 cases hr:rightT t with
 |false=>exact zu rfl (zq ⟨_,zo _,za rfl rfl ⟨_,rfl,ze9 _⟩⟩)
 |true=>
 have r:=zbr.1 hr
 refine zw rfl (zt ?_)
 rw[if_neg (by simp)]
 refine Vcall.bool (zvl t b (by omega)) (λhb=>zw rfl (zt ?_)) (λhb=>zu rfl (zq ?_))
 case refine_2=>
  rw[if_pos (of_decide_eq_false hb)]
  exact⟨_,zo _,za rfl rfl ⟨_,rfl,ze9 _⟩⟩
 replace hb:=of_decide_eq_true hb
 rw[if_neg (λh=>h hb)]
 refine Vcall.bool (zdjb t b l g (by omega) hl hs hg) (λhm=>zw rfl (zt ?_)) (λhm=>zu rfl (zq ?_))
 case refine_2=>
  rw[if_pos (λh=>by rw[h.1,decide_eq_true h.2]at hm;cases hm)]
  exact⟨_,zo _,za rfl rfl ⟨_,rfl,ze9 _⟩⟩
 rw[Bool.and_eq_true,decide_eq_true_eq]at hm
 rw[if_neg (λh=>h hm)]
 have hlaw:=zit.1 hm.1
 have hsm:=λo ho=>(hs o ho).1
 have hcnt:cntM t+l.length<65536:=by have:=zu8 (u:=t);omega
 obtain⟨w,hw⟩: ∃w,w=zck l:=⟨_,rfl⟩
 have hwB:=zcmb (l:=l) λo ho=>by
  obtain⟨i,hi,rfl⟩:=List.getElem_of_mem ho
  exact(hlaw i hi).right
 rw[<-hw]at hwB⊢
 clear hw
 have I2s:=zqs w r hfit hlaw hsm
 have I3s:=zqt w r hfit hb hlaw hsm
 have I1s:=zmu w r hfit hb hlaw hsm hcnt
 have hD:zf3 t l w=run 1 l (run 3 l (run 2 l (d0 t w))):=rfl
 rw[hD]
 refine Vcmp.mk' (m:=wyA l 0) (by rw[Bool.eq_iff_iff];simp only[wyA,List.take_zero,List.any_nil,Bool.or_false,zb];omega) ?_
 refine Vloop.mk' (λj:Nat=>lwA l (run 2 (l.take j) (d0 t w)).t (wyA l j) j) (λj=>j<=l.length) (λj=>l.length-j) 0 (by omega)
  (zac (S':=lwA l t (wyA l 0) 0) [(0,0),(1,1)] rfl ⟨cr,rfl,rfl,cr,trivial⟩ ⟨(aC aZ),(aC aZ),trivial⟩) ?_
 intro j hj
 refine zh (λh=>zq ?_) (λh=>zt ?_)
 ·simp only[zb]at h
  have hj':j<l.length:=by omega
  have rs:=zez (k:=2) (d:=d0 t w) hj'
  have Ij:=I2s j hj
  have h1:=hlaw j hj'
  have hso:=hsm _ (List.getElem_mem hj')
  refine zm (by omega) (by omega) (zco rfl hj') (zg rfl ?_)
  refine zh (λhk=>zq ?_) (λhk=>zt ?_)
  ·simp only[zb]at hk
   have hk':l[j].prop.kind.toNat=2:=by omega
   have ey:=zclb hj' hk'
   rw[if_pos hk']at rs
   obtain⟨_,e,hmm⟩:=zr9 Ij h1.mem (zja h1.right hk') hso.leaf.fit
   obtain⟨q,eq,hq1,_⟩:=za8 h1.mem
   have hst:(stp 2 (run 2 (l.take j) (d0 t w)) l[j]).t=setT (run 2 (l.take j) (d0 t w)).t l[j].frm (L1 l[j].prop.leaf):=by unfold stp;rw[if_pos rfl]
   refine aV ?_
   refine zm (by omega) (by omega) (zco rfl hj') (zg rfl ?_)
   refine zm (by omega) (by omega) (zco rfl hj') (za rfl rfl ?_)
   refine Vcall.mk' (zzi _ l[j].frm (L1 l[j].prop.leaf) Ij.good.len (by omega)) (zk (cr) (zk (cr) (zk (Cv.ag (zmw _)) Cvs.nil))) ?_
   refine zd (m:=((j+1:Nat):Int)) (by omega) (by omega) ?_
   exact⟨j+1,by omega,by omega,zac (S':=lwA l (run 2 (l.take (j+1)) (d0 t w)).t (wyA l (j+1)) (j+1)) [(0,0),(1,1)] rfl ⟨cr,rfl,rfl,cr,trivial⟩ ⟨(aC aZ),⟨_,_,rfl,zf (by rw[rs,hst]),_,_,rfl,cr,_,_,rfl,cr,_,_,rfl,zf (by rw[ey];rfl),rfl⟩,trivial⟩⟩
  ·simp only[zb]at hk
   have hk': ¬l[j].prop.kind.toNat=2:=by omega
   have ey:=ze9b hj' hk'
   rw[if_neg hk']at rs
   refine zd (m:=((j+1:Nat):Int)) (by omega) (by omega) ?_
   exact⟨j+1,by omega,by omega,zac (S':=lwA l (run 2 (l.take (j+1)) (d0 t w)).t (wyA l (j+1)) (j+1)) [(0,0),(1,1)] rfl ⟨cr,rfl,rfl,cr,trivial⟩ ⟨(aC aZ),⟨_,_,rfl,zf (by rw[rs]),_,_,rfl,cr,_,_,rfl,cr,_,_,rfl,zf (by rw[ey]),rfl⟩,trivial⟩⟩
 simp only[zb]at h
 obtain rfl:j=l.length:=by omega
 clear I2s h hj
 rw[List.take_length]
 have hn2:(run 2 l (d0 t w)).need=w:=zxt 2 l _
 generalize run 2 l (d0 t w)=D2 at*
 refine Vloop.mk' (λj:Nat=>lwB l (run 3 (l.take j) D2).t (wyB l j) j) (λj=>j<=l.length) (λj=>l.length-j) 0 (by omega)
  (zac (S':=lwB l D2.t (wyB l 0) 0) [(0,0),(1,1)] rfl ⟨cr,rfl,rfl,cr,trivial⟩ ⟨(aC aZ),⟨_,_,rfl,cr,_,_,rfl,cr,_,_,rfl,cr,_,_,rfl,zf (congrArg RV.b (by simp[wyB])),rfl⟩,trivial⟩) ?_
 intro j hj
 refine zh (λh=>zq ?_) (λh=>zt ?_)
 ·simp only[zb]at h
  have hj':j<l.length:=by omega
  have rs:=zez (k:=3) (d:=D2) hj'
  have Ij:=I3s j hj
  have h1:=hlaw j hj'
  refine zm (by omega) (by omega) (zco rfl hj') (zg rfl ?_)
  refine zh (λhk=>zq ?_) (λhk=>zt ?_)
  ·simp only[zb]at hk
   have hk':l[j].prop.kind.toNat=3:=by omega
   have ey:=zcnb hj' hk'
   rw[if_pos hk']at rs
   obtain⟨_,e,hmm,_,hcut⟩:=zsa hj' Ij hk' h1
   obtain⟨q,eq,hq1,_⟩:=za8 hmm
   have hln:=Ij.good.len
   have hst:(stp 3 (run 3 (l.take j) D2) l[j]).t=cutT (setT (run 3 (l.take j) D2).t l[j].prop.at_ Node.zero):=by unfold stp;rw[if_neg (by omega),if_pos rfl]
   refine aV ?_
   refine zm (by omega) (by omega) (zco rfl hj') (zg rfl ?_)
   refine Vcall.mk' (zzi _ l[j].prop.at_ Node.zero hln (by omega)) (zk (cr) (zk (cr) (zk (Cv.ag zcC) Cvs.nil))) ?_
   refine ze (zagb _ (by rw[zd9];exact hln) hcut) ?_
   refine zd (m:=((j+1:Nat):Int)) (by omega) (by omega) ?_
   exact⟨j+1,by omega,by omega,zac (S':=lwB l (run 3 (l.take (j+1)) D2).t (wyB l (j+1)) (j+1)) [(0,0),(1,1)] rfl ⟨cr,rfl,rfl,cr,trivial⟩ ⟨(aC aZ),⟨_,_,rfl,zf (by rw[rs,hst]),_,_,rfl,cr,_,_,rfl,cr,_,_,rfl,zf (by rw[ey];rfl),rfl⟩,trivial⟩⟩
  ·simp only[zb]at hk
   have hk': ¬l[j].prop.kind.toNat=3:=by omega
   have ey:=zfab hj' hk'
   rw[if_neg hk']at rs
   refine zd (m:=((j+1:Nat):Int)) (by omega) (by omega) ?_
   exact⟨j+1,by omega,by omega,zac (S':=lwB l (run 3 (l.take (j+1)) D2).t (wyB l (j+1)) (j+1)) [(0,0),(1,1)] rfl ⟨cr,rfl,rfl,cr,trivial⟩ ⟨(aC aZ),⟨_,_,rfl,zf (by rw[rs]),_,_,rfl,cr,_,_,rfl,cr,_,_,rfl,zf (by rw[ey]),rfl⟩,trivial⟩⟩
 simp only[zb]at h
 obtain rfl:j=l.length:=by omega
 rw[List.take_length,hwB]
 have I3f:=I3s l.length (Nat.le_refl _)
 rw[List.take_length]at I3f
 have hls:=I3f.ls
 have hpl:=I3f.pl
 have hnd:(run 3 l D2).need=w:=(zxt 3 l D2).trans hn2
 clear I3s I3f h hj hwB
 generalize run 3 l D2=D3 at*
 refine Vloop.mkx (λj:Nat=>lwC l (run 1 (l.take j) D3) j) (λj=>j<=l.length) (λj=>l.length-j) 0 (by omega) ?_ ?_
 ·refine Sub.trans (zcu false 1 1 31 6 (cells:=[.r (nods D3.t), .r nl, .r nl, .r (.b w)]) rfl rfl) ?_
  refine Sub.trans (zcu false 1 2 3 1 (cells:=[.r (nods D3.t), .own 2, .r nl, .r (.b w)]) rfl rfl) ?_
  show Sub _ (lwC l D3 0)
  obtain⟨t3,l3,a3,w3⟩:=D3
  simp only at hls hpl hnd
  subst hls hpl hnd
  exact zac (S':=lwC l ⟨t3,[],[],w3⟩ 0) [(0,1),(1,2),(2,3),(3,0)] rfl ⟨cr,rfl,rfl,cr,trivial⟩ ⟨zdx rfl rfl,⟨rfl,rfl,rfl,rfl,zn _⟩,⟨rfl,rfl,rfl,rfl,zn _⟩,(aC aZ),trivial⟩
 intro j hj
 refine zh (λh=>zq ?_) (λh=>zt ?_)
 ·simp only[zb]at h
  have hj':j<l.length:=by omega
  have rs:=zez (k:=1) (d:=D3) hj'
  have Ij:=I1s j hj
  have h1:=hlaw j hj'
  have hso:=hsm _ (List.getElem_mem hj')
  refine zm (by omega) (by omega) (zco rfl hj') (zg rfl ?_)
  refine zh (λhk=>zq ?_) (λhk=>zt ?_)
  ·simp only[zb]at hk
   have hk':l[j].prop.kind.toNat=1:=by omega
   rw[if_pos hk']at rs
   obtain⟨_,hbig⟩:=zr8 Ij (zjb h1.right hk') hso.pl.fit (by omega)
   have hll: ∀x,(nT (run 1 (l.take j) D3).t x).par.late.length<=1000000:=λx=>by
    rcases Nat.lt_or_ge x (run 1 (l.take j) D3).t.length with q |q
    ·have:=Node.late_lenC (Ij.good.r.ok x q).1;omega
    ·rw[zfe q];exact Nat.zero_le _
   have ga:=zaeb _ l[j].prop.pack.leaf Ij.good.len Ij.good.r.n hll
   have hst:stp 1 (run 1 (l.take j) D3) l[j]={run 1 (l.take j) D3 with t:=addN (run 1 (l.take j) D3).t l[j].prop.pack.leaf (zaw (run 1 (l.take j) D3).t) (zdc (run 1 (l.take j) D3).t),ls:=(run 1 (l.take j) D3).ls++[l[j].prop.pack.leaf],at_:=(run 1 (l.take j) D3).at_++[(zaw (run 1 (l.take j) D3).t:Int)]}:=by
    unfold stp;rw[if_neg (by omega),if_neg (by omega)]
   unfold addR at ga
   rw[if_neg hbig]at ga
   have i1:=Ij.ls
   have i2:=Ij.pl
   clear I1s
   generalize run 1 (l.take j) D3=d1 at*
   refine aV ?_
   refine zm (by omega) (by omega) (zco rfl hj') (za rfl rfl ?_)
   refine ze ga ?_
   refine zw (by simp only[zb];omega) (zt ?_)
   generalize hT:addN d1.t l[j].prop.pack.leaf (zaw d1.t) (zdc d1.t)=t2 at*
   refine aV ?_
   refine zm (by omega) (by omega) (zco rfl hj') (za rfl rfl ?_)
   refine zy ?_
   refine Vapp.mk' (j:=(d1.ls++[l[j].prop.pack.leaf]).length) (zs:=(d1.ls++[l[j].prop.pack.leaf]).flatMap Leaf.c) (by show d1.ls.length+1<=maxLen;simp only[maxLen];omega) (by show(d1.ls.length+1)*128<=_;omega) (by simp) (by rw[List.flatMap_append];simp) ?_
   refine zy ?_
   refine Vapp.mk' (j:=(d1.at_++[(zaw d1.t:Int)]).length) (zs:=(d1.at_++[(zaw d1.t:Int)]).map I) (by show d1.at_.length+1<=maxLen;simp only[maxLen];omega) (by show(d1.at_.length+1)*8<=_;omega) (by simp) (by simp) ?_
   refine zd (m:=((j+1:Nat):Int)) (by omega) (by omega) ?_
   refine⟨j+1,by omega,by omega,?_⟩
   rw[rs,hst]
   generalize d1.at_++[(zaw d1.t:Int)]=at2
   generalize d1.ls++[l[j].prop.pack.leaf]=ls2
   exact zac (S':=lwC l ⟨t2,ls2,at2,d1.need⟩ (j+1)) [(0,0),(1,5),(2,7),(3,3)] rfl ⟨cr,rfl,rfl,cr,trivial⟩ ⟨zdx rfl rfl,⟨rfl,rfl,rfl,rfl,zn _⟩,⟨rfl,rfl,rfl,rfl,zn _⟩,(aC aZ),trivial⟩
  ·simp only[zb]at hk
   have hk': ¬l[j].prop.kind.toNat=1:=by omega
   rw[if_neg hk']at rs
   refine zd (m:=((j+1:Nat):Int)) (by omega) (by omega) ?_
   refine⟨j+1,by omega,by omega,?_⟩
   rw[rs]
   exact zac (S':=lwC l (run 1 (l.take j) D3) (j+1)) [(0,0),(1,1),(2,2),(3,3)] rfl ⟨cr,rfl,rfl,cr,trivial⟩ ⟨zdx rfl rfl,⟨rfl,rfl,rfl,rfl,zn _⟩,⟨rfl,rfl,rfl,rfl,zn _⟩,(aC aZ),trivial⟩
 ·simp only[zb]at h
  obtain rfl:j=l.length:=by omega
  rw[List.take_length]
  have hI:=I1s l.length (Nat.le_refl _)
  rw[List.take_length]at hI
  generalize run 1 l D3=d at*
  refine⟨_,(za7 (id:=1) rfl).trans (za7 (id:=2) rfl),?_⟩
  refine Vcall.bool (z3n d.t hI.good.len hI.good.r.n hI.good.r.ok) (λha=>zw rfl (zt ?_)) (λha=>zu rfl (zq ?_))
  ·rw[if_pos ha]
   refine za rfl rfl ?_
   exact⟨_,zo _,za rfl rfl ⟨_,rfl,cr⟩⟩
  ·rw[if_neg (by rw[ha];simp)]
   exact⟨_,zo _,za rfl rfl ⟨_,rfl,ze9 _⟩⟩
theorem z1n(p:PackP):aG 13 [.ag p.c] (.r (.b (zid p))):=by
 refine aT Tryz.func13 rfl ?_
 refine zh (λk1=>?_) (λk1=>?_)
 ·simp only[zb]at k1
  refine zh (λk2=>?_) (λk2=>?_)
  ·simp only[zb]at k2
   refine za rfl rfl ?_
   refine ze (zmq p.leaf) ?_
   exact zf (by unfold zid;rw[decide_eq_true (by omega),decide_eq_true (by omega)];rfl)
  ·simp only[zb]at k2
   exact zf (by unfold zid;rw[decide_eq_true (by omega),decide_eq_false (p:=p.sig.length<=100) (by omega)];rfl)
 ·simp only[zb]at k1
  exact zf (by unfold zid;rw[decide_eq_false (p:=p.init.length<=100) (by omega)];rfl)
theorem z38(p:PropP):aG 6 [.ag p.c] (.r (.b (zke p))):=by
 have c1:=z1n p.pack
 refine aT Tryz.func6 rfl ?_
 refine za rfl rfl ?_
 refine Vcall.bool c1 (λh=>?_) (λh=>?_)
 ·refine za rfl rfl ?_
  refine ze (zmq p.leaf) ?_
  exact zf (congrArg RV.b (by unfold zke;rw[h];rfl))
 ·exact zf (congrArg RV.b (by unfold zke;rw[h];rfl))
theorem z45{n:Node}(hs:n.small=true)(hl: ∀u∈n.par.late,i64 u):n.fit:=by
 simp only[Node.small,decide_eq_true_eq]at hs
 unfold Node.fit Leaf.fit Par.fit
 exact⟨⟨by omega,by omega,by omega,by omega,by omega⟩,by omega,by omega,by omega,hl⟩
def prsR(l:List PropP):RV:= .sl 16 l.length (l.flatMap PropP.c)
theorem zv9{l:List PropP}{i:Int}{j:Nat}(h:i=j)(hj:j<l.length):((l.flatMap PropP.c).drop (i.toNat*16)).take 16=l[j].c:=zgo (f:=PropP.c) (sz:=16) (λ_=>rfl) h hj
def zipO(fs:List Int)(ps:List PropP)(j:Nat):List OffP:=((fs.zip ps).take j).map λx=>⟨x.1,x.2⟩
theorem z59{fs:List Int}{ps:List PropP}{j:Nat}(h1:j<fs.length)(h2:j<ps.length):zipO fs ps (j+1)=zipO fs ps j++[⟨fs[j],ps[j]⟩]:=by
 unfold zipO
 rw[List.take_succ_eq_append_getElem (by rw[List.length_zip];omega),List.map_append]
 simp
theorem z9a{fs:List Int}{ps:List PropP}{j:Nat}(h1:j<=fs.length)(h2:j<=ps.length):(zipO fs ps j).length=j:=by
 unfold zipO
 rw[List.length_map,List.length_take,List.length_zip]
 omega
theorem z15(t:List Node)(b:Int)(l:List OffP)(g:List UInt8):(∃e,e<256/\outD t b l g=(zeroD,e))\/(outD t b l g=(zf3 t l (zck l),0)/\rightT t=true/\b∈zaf t/\mayT t b l g=true/\l.length<=64):=by
 unfold outD
 by_cases hr:rightT t=false
 ·rw[if_pos hr];exact .inl ⟨12,by decide,rfl⟩
 rw[if_neg hr]
 by_cases hb:b∉zaf t
 ·rw[if_pos hb];exact .inl ⟨7,by decide,rfl⟩
 rw[if_neg hb]
 by_cases hm: ¬(mayT t b l g=true/\l.length<=64)
 ·rw[if_pos hm];exact .inl ⟨14,by decide,rfl⟩
 rw[if_neg hm]
 have hm':=Classical.not_not.1 hm
 by_cases ha:zeb (zf3 t l (zck l)).t=true
 ·rw[if_pos ha];exact .inr ⟨rfl,by simpa using hr,Classical.not_not.1 hb,hm'.1,hm'.2⟩
 ·rw[if_neg ha];exact .inl ⟨14,by decide,rfl⟩
structure OutOk (d:DoneP) (e:Nat):Prop where
 len:d.t.length<=1000000
 late: ∀x∈d.t,∀u∈x.par.late,i64 u
 at_: ∀x∈d.at_,i64 x
 ls:d.ls.length<=1000000
 err:e<256
theorem zcsb{e:Nat}(he:e<256):OutOk zeroD e:=⟨Nat.zero_le _,λx h=>(by cases h),λx h=>(by cases h),Nat.zero_le _,he⟩
theorem zabb{t:List Node}{b:Int}{l:List OffP}{g:List UInt8}(ht:t.length<=1000)(hfit: ∀x∈t,x.fit)(hl:l.length<=1000)(hs: ∀o∈l,o.prop.sml)(hr:rightT t=true)(hb:b∈zaf t)(hm:mayT t b l g=true):OutOk (zf3 t l (zck l)) 0:=by
 have hc:cntM t+l.length<65536:=by have:=zu8 (u:=t);omega
 have I:=zmu (zck l) (zbr.1 hr) hfit hb (zit.1 hm) hs hc l.length (Nat.le_refl _)
 rw[List.take_length]at I
 change I1 t l.length (zf3 t l (zck l))at I
 generalize zf3 t l (zck l)=d at I⊢
 exact⟨I.good.len,λx hx=>(I.good.fit x hx).2.2.2.2,I.ints,by have:=I.ls;omega,by decide⟩
theorem zbxb{t:List Node}{b:Int}{l:List OffP}{g:List UInt8}(ht:t.length<=1000)(hfit: ∀x∈t,x.fit)(hl:l.length<=1000)(hs: ∀o∈l,o.prop.sml):OutOk (outD t b l g).1 (outD t b l g).2:=by
 rcases z15 t b l g with⟨e,he,h⟩ |⟨h,h1,h2,h3,h4⟩
 ·rw[h];exact zcsb he
 ·rw[h];exact zabb ht hfit hl hs h1 h2 h3
abbrev prB(t:List Node)(b:Int)(fs:List Int)(ps:List PropP)(g:List UInt8)(j:Nat):St:=⟨[(0, .r (nods t)),(1, .r (I b)),(2, .r (is fs)),(3, .r (prsR ps)),(4, .r (bs g)),(11, .own 0),(12, .r (I j))],[(0,some (.ch 37 17 (zipO fs ps j).length ((zipO fs ps j).flatMap OffP.c) true))],1⟩
set_option maxHeartbeats 1000000 in
theorem z1j(t:List Node)(b:Int)(fs:List Int)(ps:List PropP)(g:List UInt8)(ht:t.length<=maxL)(hlate: ∀x∈t,∀u∈x.par.late,i64 u)(hfl:fs.length<=maxL)(hfs: ∀x∈fs,i64 x)(hpl:ps.length<=maxL):
  aG 3 [nods t,I b,is fs,prsR ps,bs g] (.r (.b true)):=by
 refine aT Tryz.func3 rfl ?_
 refine ze z3m ?_
 refine zw rfl (zt ?_)
 refine Vcall.bool (z3i t ht) (λhsm=>zw rfl ?_) (λhsm=>zu rfl (zq (cr)))
 simp only[znh,decide_eq_true_eq]at hsm
 obtain⟨hl40,hns⟩:=hsm
 have hfit: ∀x∈t,x.fit:=λx hx=>z45 (hns x hx) (hlate x hx)
 refine zh (λc1=>zq (cr)) (λc1=>?_)
 refine zh (λc2=>zq (cr)) (λc2=>?_)
 refine zh (λc3=>zq (cr)) (λc3=>zt ?_)
 simp only[zb]at c1 c2 c3
 refine Vloop.mk' (prB t b fs ps g) (λj=>j<=fs.length/\j<=ps.length/\∀i (hi:i<ps.length),i<j->ps[i].sml) (λj=>fs.length-j) 0 ⟨by omega,by omega,λi _ h=>by omega⟩
  ((zcd 11 37 17 rfl).trans (zac (S':=prB t b fs ps g 0) [(0,0)] rfl ⟨cr,cr,cr,cr,cr,rfl,cr,trivial⟩ ⟨⟨rfl,rfl,rfl,rfl,zn _⟩,trivial⟩)) ?_
 rintro j ⟨hj1,hj2,hall⟩
 have hzl:=z9a hj1 hj2
 have hso: ∀o∈zipO fs ps j,o.prop.sml/\i64 o.frm:=λo ho=>by
  obtain⟨i,hi,rfl⟩:=List.getElem_of_mem ho
  rw[hzl]at hi
  have e:(zipO fs ps j)[i]'(by rw[hzl];exact hi)=⟨fs[i],ps[i]⟩:=by simp[zipO]
  rw[e]
  exact⟨hall i (by omega) hi,hfs _ (List.getElem_mem _)⟩
 refine zh (λd1=>?x) (λd1=>?y)
 case' y=>refine zt ?_
 case' x=>
  simp only[zb]at d1
  have h2:j<ps.length:=by omega
  refine zh (λd2=>zq ?a) (λd2=>zt ?_)
  case a=>
   simp only[zb]at d2
   have h1:j<fs.length:=by omega
   have hsn:=z59 h1 h2
   refine zm (by omega) (by omega) (zv9 rfl h2) (za rfl rfl ?_)
   refine Vcall.bool (z38 ps[j]) (λe1=>zw rfl (zt ?_)) (λe1=>zu rfl (zq (cr)))
   refine aV ?_
   refine zm (by omega) (by omega) (zan rfl h1) (zg rfl ?_)
   refine zm (by omega) (by omega) (zv9 rfl h2) (za rfl rfl ?_)
   refine zy ?_
   refine Vapp.mk' (j:=(zipO fs ps (j+1)).length) (zs:=(zipO fs ps (j+1)).flatMap OffP.c) (by show(zipO fs ps j).length+1<=maxLen;simp only[maxLen];omega) (by show((zipO fs ps j).length+1)*328<=_;omega) (by rw[hsn];simp) (by rw[hsn,List.flatMap_append];simp) ?_
   refine zd (m:=((j+1:Nat):Int)) (by omega) (by omega) ?_
   refine⟨j+1,⟨by omega,by omega,λi hi hij=>?_⟩,by omega,zac (S':=prB t b fs ps g (j+1)) [(0,_)] rfl ⟨cr,cr,cr,cr,cr,rfl,cr,trivial⟩ ⟨⟨rfl,rfl,rfl,rfl,zn _⟩,trivial⟩⟩
   rcases Nat.lt_or_ge i j with h5 |h5
   ·exact hall i hi h5
   ·obtain rfl:i=j:=by omega
    exact zy1 e1
 all_goals
  obtain⟨o1,o2,o3,o4,o5⟩:=zbxb (b:=b) (g:=g) (by omega:t.length<=1000) hfit (by omega:(zipO fs ps j).length<=1000) (λo ho=>(hso o ho).1)
  refine ze (z7e t b (zipO fs ps j) g (by omega) hfit (by omega) hso (by omega)) ?_
  refine ze (z65 t b (zipO fs ps j) g (by omega) hfit (by omega) hso (by omega) (z3h t (by omega) hfit)) ?_
  generalize outD t b (zipO fs ps j) g=D at*
  refine zd (m:=(D.2:Int)) rfl (by omega) ?_
  refine zu (by simp) ?_
  refine za rfl rfl (za rfl rfl ?_)
  refine ze (z1k D.1 o1 o2 o3 o4) ?_
  exact cr
end Go.Proofs.YtpcfoglfakeimaaGreat.Sx
