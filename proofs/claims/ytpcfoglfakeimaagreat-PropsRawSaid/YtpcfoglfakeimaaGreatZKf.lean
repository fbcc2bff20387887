import Derived.Test.YtpcfoglfakeimaaGreatZNa
import Derived.Test.YtpcfoglfakeimaaGreatZGeoB
namespace Go.Proofs.YtpcfoglfakeimaaGreat.Sx
open Go.RowKit
theorem zvb(x n:Int){j:Nat}(hj:j+2<=(zbq x n).length):(zb4 x n)[j]?=((zbq x n)[(zbq x n).length-2-j]?).map (·.at_):=by
 rw[<-zs2,List.getElem?_map,List.getElem?_reverse (by simp;omega)]
 simp only[List.length_dropLast]
 rw[List.getElem?_dropLast,if_pos (by omega),show(zbq x n).length-1-1-j=(zbq x n).length-2-j by omega]
theorem zue(x n:Int):(zb4 x n).length=(zbq x n).length-1:=by rw[<-zs2];simp
theorem zftb(x n:Int):aG 237 [I x,I n] (.r (is (zb4 x n))):=by
 refine aT Tryz.func237 rfl ?_
 refine ze (z29 x n) ?_
 have hpl:=zue x n
 have hat:=λj=>zvb x n (j:=j)
 have hdl:=zs1 x n
 generalize zb4 x n=p at*
 generalize zbq x n=l at*
 refine zd (m:=(l.length:Int)-2) rfl (by omega) ?_
 refine Vloop.mk' (λj:Nat=>{F:=[(5, .r (ds l)),(6, .own 0),(7, .r (I ((l.length:Int)-2-j)))],O:=[(0,some (.ch 3 1 (p.take j).length ((p.take j).map I) true))],nx:=1}) (λj=>j<=p.length) (λj=>p.length-j) 0 (by omega)
  ((zcd 6 3 1 rfl).trans (zac [(0,0)] rfl ⟨cr,rfl,zf (congrArg I (by simp)),trivial⟩ ⟨⟨rfl,rfl,rfl,rfl,zn _⟩,trivial⟩)) ?_
 rintro j hj
 refine zh (λh=>zq ?_) (λh=>zt ?_)
 ·simp only[zb]at h
  have hj':j<p.length:=by omega
  refine zm (by omega) (by omega) (z9d (j:=l.length-2-j) (by omega) (by omega)) (zg rfl ?_)
  have e:p[j]?=some (l[l.length-2-j]'(by omega)).at_:=by rw[hat j (by omega),List.getElem?_eq_getElem (by omega)];rfl
  have et:p.take (j+1)=p.take j++[(l[l.length-2-j]'(by omega)).at_]:=by rw[List.take_add_one,e];rfl
  have hlen:(p.take (j+1)).length=(p.take j).length+1:=by simp;omega
  have hlb:(p.take j).length<=17:=by simp;omega
  refine zy ?_
  refine Vapp.mk' (j:=(p.take (j+1)).length) (zs:=(p.take (j+1)).map I) (by simp only[maxLen];show(p.take j).length+1<=_;omega) (by show((p.take j).length+1)*8<=_;omega) hlen.symm (by rw[et];simp[zbx,cellsOf]) ?_
  refine zd rfl (by omega) ?_
  exact⟨j+1,by omega,by omega,zac [(0,_)] rfl ⟨cr,rfl,zf (congrArg I (by omega)),trivial⟩ ⟨zf2 rfl,trivial⟩⟩
 ·simp only[zb]at h
  have e:j=p.length:=by omega
  subst e
  rw[List.take_length]
  exact cr
theorem z2f{x y:Int}(hx:ofI x 65536=true)(hy:ofI y 65536=true):zb3 x y=(decide ((zfi y 65536).lo<=x)&&decide (x<=(zfi y 65536).hi)):=by
 obtain⟨d,h,k,hd,hh,hk,_,e,hl⟩:=zwe hy
 rw[hl,e]
 exact zrl hd hh hk (by rw[zpi];exact hx)
theorem z2g{x y:Int}(h:ofI x 65536=false\/ofI y 65536=false):zb3 x y=false:=by
 rcases h with h |h<;>simp[zb3,zpi,h]
theorem z71{x n:Int}(ho:ofI x n=true):(zfi x n).at_=x:=by
 obtain⟨d,h,k,hd,hh,hk,_,e,hl⟩:=zwe ho
 rw[hl,e];rfl
theorem zi6(x y:Int):aG 50 [I x,I y] (.r (.b (zb3 x y))):=by
 refine aT Tryz.func50 rfl ?_
 refine ze (zvm x 65536) ?_
 refine ze (zvm y 65536) ?_
 have h1:=λhx hy=>z2f (x:=x) (y:=y) hx hy
 have h2:=z2g (x:=x) (y:=y)
 have h3:=z71 (x:=x) (n:=65536)
 generalize zb3 x y=u at*
 generalize zfi y 65536=b at*
 generalize zfi x 65536=a at*
 cases hx:ofI x 65536 with
 |false=>
  rw[h2 (.inl hx)]
  exact cr
 |true=>
  cases hy:ofI y 65536 with
  |false=>
   rw[h2 (.inr hy)]
   exact cr
  |true=>
   rw[h1 hx hy]
   have ea:=h3 hx
   refine zh (λh=>?_) (λh=>?_)
   ·simp only[zb]at h
    exact Vcmp.mk' rfl (zf (congrArg RV.b (by rw[decide_eq_true (by omega:b.lo<=x),<-ea];rfl)))
   ·simp only[zb]at h
    exact zf (congrArg RV.b (by rw[decide_eq_false (by omega: ¬b.lo<=x)];rfl))
def Leaf.right(l:Leaf):Bool:=decide (l.box.length=32/\l.sign.length=32/\0<l.ident.length/\l.ident.length<=64/\0<l.src.toNat/\l.src.toNat<4/\(l.parent.length=0\/l.src.toNat=3/\l.parent.length=32)/\l.sig.length=64)
theorem zs9(l:Leaf):aG 91 [.ag l.c] (.r (.b l.right)):=by
 refine aT Tryz.func91 rfl ?_
 (repeat' (first|refine zh (λh=>?_) (λh=>?_)|refine zf ?_|refine zq ?_|refine zt ?_))
 all_goals refine congrArg RV.b (Eq.symm ?_)
 all_goals simp only[Leaf.right,zb]at*
 all_goals omega
theorem zk2(a b:Leaf):aG 29 [.ag a.c, .ag b.c] (.r (.b (decide (a=b)))):=by
 refine aT Tryz.func29 rfl ?_
 obtain⟨a1,a2,a3,a4,a5,a6⟩:=a
 obtain⟨b1,b2,b3,b4,b5,b6⟩:=b
 repeat' (first|refine Vcall.bool (zd3 _ _) (λh=>?_) (λh=>?_)|refine zh (λh=>?_) (λh=>?_)|refine zf ?_)
 all_goals simp only[zb,Int.natCast_inj,UInt8.toNat_inj]at*
 all_goals simp_all [ofC]
theorem zpa(a b:Node)(ha: ∀x∈a.par.late,i64 x)(hb: ∀x∈b.par.late,i64 x):aG 32 [.ag a.c, .ag b.c] (.r (.b (decide (a=b)))):=by
 refine aT Tryz.func32 rfl ?_
 obtain⟨a1,a2,a3⟩:=a
 obtain⟨b1,b2,b3⟩:=b
 refine zh (λh1=>?_) (λh1=>?_)
 ·refine za rfl rfl ?_
  refine za rfl rfl ?_
  refine Vcall.bool (zk2 a2 b2) (λh2=>?_) (λh2=>?_)
  ·refine Vcall.bool (zd3 _ _) (λh3=>?_) (λh3=>?_)
   ·refine Vcall.bool (zd3 _ _) (λh4=>?_) (λh4=>?_)
    ·refine Vcall.bool (zvr _ _ ha hb) (λh5=>?_) (λh5=>?_)
     ·refine zf ?_
      simp only[zb,Int.natCast_inj,UInt8.toNat_inj]at*
      obtain⟨_,_,_⟩:=a3
      obtain⟨_,_,_⟩:=b3
      simp_all [ofC]
     ·refine zf ?_
      simp only[zb,Int.natCast_inj,UInt8.toNat_inj]at*
      simp[ofC]
      intro _ _ e;exact h5 (by rw[e])
    ·refine zf ?_
     simp only[zb,Int.natCast_inj,UInt8.toNat_inj]at*
     simp[ofC]
     intro _ _ e;exact h4 (by rw[e])
   ·refine zf ?_
    simp only[zb,Int.natCast_inj,UInt8.toNat_inj]at*
    simp[ofC]
    intro _ _ e;exact h3 (by rw[e])
  ·refine zf ?_
   simp only[zb,Int.natCast_inj,UInt8.toNat_inj]at*
   simp[ofC,h2]
 ·refine zf ?_
  simp only[zb,Int.natCast_inj,UInt8.toNat_inj]at*
  simp[ofC,h1]
theorem z2x{ρ:List (Nat×Nat)}{S:St}(v:RV):cvTF ρ S (.r v) (.r v):=by
 cases v<;>first|trivial|exact cr
theorem zad{ρ:List (Nat×Nat)}{S:St}: ∀l:List RV,ze1 ρ S (l.map .r) (l.map .r)
 |[]=>rfl
 |v::r=>⟨_,_,rfl,z2x v,zad r⟩
def Leaf.fit(l:Leaf):Prop:=l.box.length<=1000000000/\l.sign.length<=1000000000/\l.ident.length<=1000000000/\l.parent.length<=1000000000/\l.sig.length<=1000000000
def Par.fit(p:Par):Prop:=p.box.length<=1000000000/\p.hash.length<=1000000000/\p.late.length<=100000000/\∀x∈p.late,i64 x
def zca:Int->List Int->Bool
 |_,[]=>true
 |last,x::r=>decide (last<x/\x<65536)&&zca x r
def Par.right(p:Par):Bool:=zca (-1) p.late&&decide (p.box.length=32/\(p.hash.length=0\/p.hash.length=32))
def Leaf.none(l:Leaf):Bool:=decide (l.src.toNat=0/\l.box.length=0/\l.sign.length=0/\l.ident.length=0/\l.parent.length=0/\l.sig.length=0)
def Par.none(p:Par):Bool:=decide (p.box.length=0/\p.hash.length=0/\p.late.length=0)
theorem zvo(l:Leaf)(hl:l.fit):aG 169 [.ag l.c] (.r (.b l.none)):=by
 refine aT Tryz.func169 rfl ?_
 obtain⟨h1,h2,h3,h4,h5⟩:=hl
 refine zh (λh=>?_) (λh=>?_)
 ·refine zd rfl (by omega) ?_
  refine zd rfl (by omega) ?_
  refine zd rfl (by omega) ?_
  refine zd rfl (by omega) ?_
  refine Vcmp.mk' rfl (zf (congrArg RV.b ?_))
  simp only[Leaf.none,zb]at*
  rw[Bool.eq_iff_iff]
  simp only[zb]at*
  omega
 ·refine zf (congrArg RV.b ?_)
  simp only[Leaf.none,zb]at*
  rw[eq_comm]
  simp only[zb]at*
  omega
theorem zzg(p:Par)(hp:p.fit):aG 170 [.ag p.c] (.r (.b p.none)):=by
 refine aT Tryz.func170 rfl ?_
 obtain⟨h1,h2,h3,_⟩:=hp
 refine zd rfl (by omega) ?_
 refine zd rfl (by omega) ?_
 refine Vcmp.mk' rfl (zf (congrArg RV.b ?_))
 simp only[Par.none,zb]at*
 rw[Bool.eq_iff_iff]
 simp only[zb]at*
 omega
theorem zgn(l:Leaf):aG 80 [.ag l.c] (.r (.b l.right)):=by
 refine aT Tryz.func80 rfl ?_
 (repeat' (first|refine zh (λh=>?_) (λh=>?_)|refine zf ?_|refine zq ?_|refine zt ?_))
 all_goals refine congrArg RV.b (Eq.symm ?_)
 all_goals simp only[Leaf.right,zb]at*
 all_goals omega
theorem zdcb(p:Par)(hp:p.fit):aG 171 [.ag p.c] (.r (.b p.right)):=by
 refine aT Tryz.func171 rfl ?_
 obtain⟨hp1,hp2,hp3,hp4⟩:=hp
 refine Vloop.mk' (λi:Nat×Int=>{F:=[(1, .own 0),(2, .r (.b false)),(3, .r (I i.2)),(7, .r (is p.late)),(8, .r (I p.late.length)),(9, .r (I i.1))],O:=[(0,some (.box (p.c.map .r)))],nx:=1})
  (λi=>i.1<=p.late.length/\zca (-1) p.late=zca i.2 (p.late.drop i.1)) (λi=>p.late.length-i.1) (0, -1) ⟨by simp,by simp⟩ (zac [(0,0)] rfl ⟨rfl,cr,cr,cr,cr,cr,trivial⟩ ⟨zad _,trivial⟩) ?_
 rintro⟨j,last⟩ ⟨hj,hlate⟩
 simp only at hj hlate
 refine zh (λh=>zq ?_) (λh=>zt ?_)
 ·simp only[zb]at h
  have hj':j<p.late.length:=by omega
  have hx:=hp4 _ (List.getElem_mem hj')
  rw[List.drop_eq_getElem_cons hj']at hlate
  simp only[zca]at hlate
  refine zm (by omega) (by omega) (zan rfl hj') (zg rfl ?_)
  refine zh (λh1=>?_) (λh1=>?_)
  ·simp only[zb]at h1
   refine zq (zf (congrArg RV.b (Eq.symm ?_)))
   have: ¬(last<p.late[j]/\p.late[j]<65536):=by omega
   simp[Par.right,hlate,this]
  ·refine zh (λh2=>?_) (λh2=>?_)
   ·simp only[zb]at h2
    refine zq (zf (congrArg RV.b (Eq.symm ?_)))
    have: ¬(last<p.late[j]/\p.late[j]<65536):=by omega
    simp[Par.right,hlate,this]
   ·simp only[zb]at h1 h2
    refine zt ?_
    refine zd (m:=((j+1:Nat):Int)) (by omega) (by omega) ?_
    have:last<p.late[j]/\p.late[j]<65536:=by omega
    rw[decide_eq_true this,Bool.true_and]at hlate
    exact⟨(j+1,p.late[j]),⟨by simp only;omega,hlate⟩,by simp only;omega,zac [(0,0)] rfl ⟨rfl,cr,cr,cr,cr,cr,trivial⟩ ⟨zad _,trivial⟩⟩
 ·simp only[zb]at h
  have:p.late.drop j=[]:=List.drop_eq_nil_of_le (by omega)
  rw[this]at hlate
  simp only[zca]at hlate
  (repeat' (first|refine zh (λh=>?_) (λh=>?_)|refine zf ?_|refine zq ?_|refine zt ?_))
  all_goals refine congrArg RV.b (Eq.symm ?_)
  all_goals simp only[Par.right,hlate,Bool.true_and,zb]at*
  all_goals omega
def Node.fit(n:Node):Prop:=n.leaf.fit/\n.par.fit
def Node.right(n:Node):Bool:=
 if n.kind.toNat=0 then n.leaf.none&&n.par.none else if n.kind.toNat=1 then n.leaf.right&&n.par.none else if n.kind.toNat=2 then n.leaf.none&&n.par.right else false
def zbe(l:Leaf):List UInt8:=vecB l.box++vecB l.sign++vecB l.ident++[l.src]++(if l.src.toNat=3 then vecB l.parent else[])
def ze3(l:Leaf):List UInt8:=zbe l++vecB l.sig
def zfk(l:List Int):List UInt8:=l.flatMap λx=>beB 4 x.toNat
def parB(p:Par):List UInt8:=vecB p.box++vecB p.hash++vecB (zfk p.late)
def zq2(n:Node):List UInt8:=if n.kind.toNat=1 then 1::(zbe n.leaf++vecB n.leaf.sig)else if n.kind.toNat=2 then 2::parB n.par else[0]
theorem z6r(n:Node)(hn:n.fit):aG 109 [.ag n.c] (.r (.b n.right)):=by
 refine aT Tryz.func109 rfl ?_
 refine zh (λh0=>zq ?_) (λh0=>zt ?_)
 ·simp only[zb]at h0
  have h0':n.kind.toNat=0:=by omega
  refine za rfl rfl (Vcall.bool (zvo n.leaf hn.1) (λh=>za rfl rfl (ze (zzg n.par hn.2) (zf ?_))) (λh=>zf ?_))
  ·simp[Node.right,h0',h]
  ·simp[Node.right,h0',h,ofC]
 ·simp only[zb]at h0
  have h0':n.kind.toNat≠0:=by omega
  refine zh (λh1=>zq ?_) (λh1=>zt ?_)
  ·simp only[zb]at h1
   have h1':n.kind.toNat=1:=by omega
   refine za rfl rfl (Vcall.bool (zgn n.leaf) (λh=>za rfl rfl (ze (zzg n.par hn.2) (zf ?_))) (λh=>zf ?_))
   ·simp[Node.right,h1',h]
   ·simp[Node.right,h1',h,ofC]
  ·simp only[zb]at h1
   have h1':n.kind.toNat≠1:=by omega
   refine zh (λh2=>zq ?_) (λh2=>zt ?_)
   ·simp only[zb]at h2
    have h2':n.kind.toNat=2:=by omega
    refine za rfl rfl (Vcall.bool (zvo n.leaf hn.1) (λh=>za rfl rfl (ze (zdcb n.par hn.2) (zf ?_))) (λh=>zf ?_))
    ·simp[Node.right,h2',h]
    ·simp[Node.right,h2',h,ofC]
   ·simp only[zb]at h2
    have h2':n.kind.toNat≠2:=by omega
    refine zf ?_
    simp[Node.right,h0',h1',h2',ofC]
theorem zf0{e:TypeId}{l m:List UInt8}(h:l=m):some (Ow.ch e 1 l.length (l.map U8) true)=some (Ow.ch e 1 m.length (m.map U8) true):=by rw[h]
def ze3b(b:List UInt8)(l:Leaf):Nat->St
 |0=>{F:=[(0, .r (bs b)),(3, .own 0),(13, .own 1),(14, .r (I 3)),(15, .r (I 0))],O:=[(0,some (.box (l.c.map .r))),(1,some (.ch 25 1 3 [bs l.box,bs l.sign,bs l.ident] true))],nx:=2}
 |j+1=>{F:=[(0, .own 2),(3, .own 0),(13, .own 1),(14, .r (I 3)),(15, .r (I ((j+1:Nat):Int)))],O:=[(0,some (.box (l.c.map .r))),(1,some (.ch 25 1 3 [bs l.box,bs l.sign,bs l.ident] true)),
   (2,some (.ch 5 1 (b++([l.box,l.sign,l.ident].take (j+1)).flatMap vecB).length ((b++([l.box,l.sign,l.ident].take (j+1)).flatMap vecB).map U8) true))],nx:=3}
theorem zk3(b:List UInt8)(l:Leaf)(hb:b.length<=1000000000)(hl:l.fit):aG 111 [bs b, .ag l.c] (bch (b++zbe l)):=by
 refine aT Tryz.func111 rfl ?_
 obtain⟨h1,h2,h3,h4,h5⟩:=hl
 have v1:=zar l.box
 have v2:=zar l.sign
 have v3:=zar l.ident
 refine zy ?_
 refine Vloop.mk' (ze3b b l) (λj=>j<=3) (λj=>3-j) 0 (by omega) (zac [(0,0),(1,1)] rfl ⟨cr,rfl,rfl,cr,cr,trivial⟩ ⟨zad _,⟨rfl,rfl,rfl,rfl,zn _⟩,trivial⟩) ?_
 intro j hj
 rcases(by omega:j=0\/j=1\/j=2\/j=3)with rfl |rfl |rfl |rfl
 ·refine zu rfl (zq ?_)
  refine zm (by decide) (by decide) rfl (zg rfl ?_)
  refine ze (zbt b l.box (by omega) (by omega)) ?_
  refine zd (m:=((1:Nat):Int)) rfl (by decide) ?_
  exact⟨1,by omega,by omega,zac [(0,0),(1,1),(2,2)] rfl ⟨rfl,rfl,rfl,cr,cr,trivial⟩ ⟨zad _,⟨rfl,rfl,rfl,rfl,zn _⟩,cvCh (by simp),trivial⟩⟩
 ·refine zu rfl (zq ?_)
  refine zm (by decide) (by decide) rfl (zg rfl ?_)
  refine ze (zbt (b++([l.box,l.sign,l.ident].take 1).flatMap vecB) l.sign (by simp;omega) (by omega)) ?_
  refine zd (m:=((2:Nat):Int)) rfl (by decide) ?_
  exact⟨2,by omega,by omega,zac [(0,0),(1,1),(2,3)] rfl ⟨rfl,rfl,rfl,cr,cr,trivial⟩ ⟨zad _,⟨rfl,rfl,rfl,rfl,zn _⟩,cvCh (by simp),trivial⟩⟩
 ·refine zu rfl (zq ?_)
  refine zm (by decide) (by decide) rfl (zg rfl ?_)
  refine ze (zbt (b++([l.box,l.sign,l.ident].take 2).flatMap vecB) l.ident (by simp;omega) (by omega)) ?_
  refine zd (m:=((3:Nat):Int)) rfl (by decide) ?_
  exact⟨3,by omega,by omega,zac [(0,0),(1,1),(2,3)] rfl ⟨rfl,rfl,rfl,cr,cr,trivial⟩ ⟨zad _,⟨rfl,rfl,rfl,rfl,zn _⟩,cvCh (by simp),trivial⟩⟩
 ·refine zw rfl (zt ?_)
  refine zy ?_
  refine Vapp.mk' (j:=(b++([l.box,l.sign,l.ident].take 3).flatMap vecB++[l.src]).length) (zs:=(b++([l.box,l.sign,l.ident].take 3).flatMap vecB++[l.src]).map U8) (by simp[maxLen];omega) (by simp;omega) (by simp;omega) (by simp[zbx,cellsOf]) ?_
  refine zh (λhs=>zq ?_) (λhs=>zt ?_)
  ·simp only[zb]at hs
   have hs':l.src.toNat=3:=by omega
   refine ze (zbt (b++([l.box,l.sign,l.ident].take 3).flatMap vecB++[l.src]) l.parent (by simp;omega) (by omega)) ?_
   have e:b++([l.box,l.sign,l.ident].take 3).flatMap vecB++[l.src]++vecB l.parent=b++zbe l:=by simp[zbe,hs']
   exact zf0 e
  ·simp only[zb]at hs
   have hs':l.src.toNat≠3:=by omega
   have e:b++([l.box,l.sign,l.ident].take 3).flatMap vecB++[l.src]=b++zbe l:=by simp[zbe,hs']
   exact zf0 e
theorem zmx: ∀l:List Int,(zfk l).length=4*l.length
 |[]=>rfl
 |x::r=>by
  have:=zmx r
  simp only[zfk,List.flatMap_cons,aL,List.length_cons]at*
  rw[za9,this];omega
def zfnb(b:List UInt8)(p:Par):Nat->St
 |0=>{F:=[(0, .r (bs b)),(3, .own 0),(5, .r (bs [])),(9, .r (is p.late)),(10, .r (I p.late.length)),(11, .r (I ((0:Nat):Int)))],O:=[(0,some (.box (p.c.map .r)))],nx:=1}
 |j+1=>{F:=[(0, .r (bs b)),(3, .own 0),(5, .own 1),(9, .r (is p.late)),(10, .r (I p.late.length)),(11, .r (I ((j+1:Nat):Int)))],O:=[(0,some (.box (p.c.map .r))),
   (1,some (.ch 5 1 (zfk (p.late.take (j+1))).length ((zfk (p.late.take (j+1))).map U8) true))],nx:=2}
theorem zss(x:Int)(h:0<=x/\x<65536):IntKind.u64.wrap x=((x.toNat:Nat):Int):=by
 unfold IntKind.wrap
 simp only[IntKind.bits,IntKind.signed]
 simp
 omega
theorem z05(b:List UInt8)(p:Par)(hb:b.length<=1000000000)(hp:p.fit)(hr: ∀x∈p.late,0<=x/\x<65536):aG 112 [bs b, .ag p.c] (bch (b++parB p)):=by
 refine aT Tryz.func112 rfl ?_
 obtain⟨h1,h2,h3,_⟩:=hp
 have hll:=zmx p.late
 refine Vloop.mk' (zfnb b p) (λj=>j<=p.late.length) (λj=>p.late.length-j) 0 (by omega) (zac [(0,0)] rfl ⟨cr,rfl,Cv.nil _,cr,cr,cr,trivial⟩ ⟨zad _,trivial⟩) ?_
 have vd1:=zar p.box
 have vd2:=zar p.hash
 have hstep: ∀j (hj:j<p.late.length),zfk (p.late.take j)++beB 4 (p.late[j].toNat)=zfk (p.late.take (j+1)):=λj hj=>by
  rw[List.take_add_one,List.getElem?_eq_getElem hj]
  simp only[zfk,Option.toList,List.flatMap_append,List.flatMap_cons,List.flatMap_nil,List.append_nil]
 have hlen: ∀j,j<=p.late.length->(zfk (p.late.take j)).length=4*j:=λj hj=>by rw[zmx,List.length_take];omega
 intro j hj
 rcases j with _ |j
 ·refine zh (λh=>zq ?_) (λh=>zt ?_)
  ·simp only[zb]at h
   have hj':0<p.late.length:=by omega
   refine zm (by omega) (by omega) (zan rfl hj') (zg rfl ?_)
   refine⟨((p.late[0].toNat:Nat):Int),(zss _ (hr _ (List.getElem_mem hj'))).symm,?_⟩
   refine ze (zgm [] 4 p.late[0].toNat (by simp) (by omega)) ?_
   refine zd (m:=((0+1:Nat):Int)) (by omega) (by omega) ?_
   exact⟨0+1,hj',by omega,zac [(0,0),(1,1)] rfl ⟨cr,rfl,rfl,cr,cr,cr,trivial⟩ ⟨zad _,cvCh (hstep 0 hj'),trivial⟩⟩
  ·simp only[zb]at h
   have e:p.late=[]:=List.eq_nil_of_length_eq_zero (by omega)
   refine aV ?_
   refine ze (zbt b p.box (by omega) (by omega)) ?_
   refine ze (zbt (b++vecB p.box) p.hash (by simp;omega) (by omega)) ?_
   refine ze (zbt (b++vecB p.box++vecB p.hash) [] (by simp;omega) (by simp)) ?_
   exact zf0 (by simp[parB,e,zfk])
 ·refine zh (λh=>zq ?_) (λh=>zt ?_)
  ·simp only[zb]at h
   have hj':j+1<p.late.length:=by omega
   refine zm (by omega) (by omega) (zan rfl hj') (zg rfl ?_)
   refine⟨((p.late[j+1].toNat:Nat):Int),(zss _ (hr _ (List.getElem_mem hj'))).symm,?_⟩
   refine ze (zgm (zfk (p.late.take (j+1))) 4 p.late[j+1].toNat (by rw[hlen _ hj];omega) (by omega)) ?_
   refine zd (m:=((j+1+1:Nat):Int)) (by omega) (by omega) ?_
   exact⟨j+1+1,hj',by omega,zac [(0,0),(1,2)] rfl ⟨cr,rfl,rfl,cr,cr,cr,trivial⟩ ⟨zad _,cvCh (hstep (j+1) hj'),trivial⟩⟩
  ·simp only[zb]at h
   have e:p.late.take (j+1)=p.late:=List.take_of_length_le (by omega)
   refine aV ?_
   refine ze (zbt b p.box (by omega) (by omega)) ?_
   refine ze (zbt (b++vecB p.box) p.hash (by simp;omega) (by omega)) ?_
   refine ze (zbt (b++vecB p.box++vecB p.hash) (zfk (p.late.take (j+1))) (by simp;omega) (by rw[e,hll];omega)) ?_
   exact zf0 (by simp[parB,e])
theorem zwf: ∀(l:List Int) (a:Int), -1<=a->zca a l=true->∀x∈l,0<=x/\x<65536
 |[],_,_,_=>λx hx=>by cases hx
 |y::r,a,ha,h=>λx hx=>by
  simp only[zca,Bool.and_eq_true,decide_eq_true_eq]at h
  rcases List.mem_cons.1 hx with rfl |hx
  ·omega
  ·exact zwf r y (by omega) h.2 x hx
theorem Par.right_bd{p:Par}(h:p.right=true): ∀x∈p.late,0<=x/\x<65536:=by
 simp only[Par.right,Bool.and_eq_true]at h
 exact zwf _ _ (by omega) h.1
theorem Cv.tu{l m:List RV}(h:Cvs l m):Cv (.tu l) (.tu m):=λw k v hv=>by
 simp only[RV.at_]at*
 obtain⟨us,e,hp⟩:=hv
 exact⟨us,e,h.at_ hp⟩
theorem zvn(n:Node)(hn:n.fit):aG 66 [.ag n.c] (.r (if n.right then .tu [bs (zq2 n), .i .u8 0]else .tu [bs [], .i .u8 3])):=by
 refine aT Tryz.func66 rfl ?_
 refine za rfl rfl ?_
 refine Vcall.bool (z6r n hn) (λhr=>?_) (λhr=>?_)
 ·refine zw rfl (zt ?_)
  refine zy ?_
  obtain⟨⟨l1,l2,l3,l4,l5⟩,hpf⟩:=hn
  have w1:=zar n.leaf.box
  have w2:=zar n.leaf.sign
  have w3:=zar n.leaf.ident
  have w4:=zar n.leaf.parent
  refine zh (λh1=>zq ?_) (λh1=>zt ?_)
  ·simp only[zb]at h1
   have h1':n.kind.toNat=1:=by omega
   have hk:n.kind=1:=UInt8.toNat_inj.1 h1'
   refine aV ?_
   refine za rfl rfl ?_
   refine ze (zk3 [n.kind] n.leaf (by simp) ⟨l1,l2,l3,l4,l5⟩) ?_
   have hlen:([n.kind]++zbe n.leaf).length<=1000000000000:=by
    simp only[zbe,aL,List.length_cons,List.length_nil]
    split<;>simp<;>omega
   refine ze (zbt ([n.kind]++zbe n.leaf) n.leaf.sig hlen (by omega)) ?_
   refine⟨_,rfl,zf ?_⟩
   rw[if_pos hr,zq2,if_pos h1',hk]
   rfl
  ·simp only[zb]at h1
   have h1':n.kind.toNat≠1:=by omega
   refine zh (λh2=>zq ?_) (λh2=>zt ?_)
   ·simp only[zb]at h2
    have h2':n.kind.toNat=2:=by omega
    have hk:n.kind=2:=UInt8.toNat_inj.1 h2'
    have hb: ∀x∈n.par.late,0<=x/\x<65536:=by
     have:n.par.right=true:=by
      have:=hr
      simp[Node.right,h2']at this
      exact this.2
     exact Par.right_bd this
    refine za rfl rfl ?_
    refine ze (z05 [n.kind] n.par (by simp) hpf hb) ?_
    refine⟨_,rfl,zf ?_⟩
    rw[if_pos hr,zq2,if_neg h1',if_pos h2',hk]
    rfl
   ·simp only[zb]at h2
    have h2':n.kind.toNat≠2:=by omega
    have h0:n.kind.toNat=0:=by
     have:=hr
     simp only[Node.right,if_neg h1',if_neg h2']at this
     split at this
     ·assumption
     ·cases this
    have hk:n.kind=0:=UInt8.toNat_inj.1 h0
    refine⟨_,rfl,zf ?_⟩
    rw[if_pos hr,zq2,if_neg h1',if_neg h2',hk]
    rfl
 ·refine zu rfl (zq ?_)
  refine⟨_,rfl,?_⟩
  rw[hr]
  exact Cv.tu (zk (Cv.nil 1) (zn _))
theorem z6u(p:Par)(hp:p.fit):aG 92 [.ag p.c] (.r (.b p.right)):=by
 refine aT Tryz.func92 rfl ?_
 obtain⟨hp1,hp2,hp3,hp4⟩:=hp
 refine Vloop.mk' (λi:Nat×Int=>{F:=[(1, .own 0),(3, .r (I i.1))],O:=[(0,some (.box (p.c.map .r)))],nx:=1})
  (λi=>i.1<=p.late.length/\zca (-1) p.late=zca i.2 (p.late.drop i.1)/\ -1<=i.2/\(i.1=0->i.2= -1)/\∀h:0<i.1/\i.1-1<p.late.length,i.2=p.late[i.1-1]) (λi=>p.late.length-i.1) (0, -1) ⟨by simp,by simp,by simp,by simp,by simp⟩ (zac [(0,0)] rfl ⟨rfl,cr,trivial⟩ ⟨zad _,trivial⟩) ?_
 rintro⟨j,last⟩ ⟨hj,hlate,hge,h0,hpos⟩
 simp only at hj hlate hge h0 hpos
 refine zh (λh=>zq ?_) (λh=>zt ?_)
 ·simp only[zb]at h
  have hj':j<p.late.length:=by omega
  have hx:=hp4 _ (List.getElem_mem hj')
  rw[List.drop_eq_getElem_cons hj']at hlate
  simp only[zca]at hlate
  refine aV ?_
  refine zm (by omega) (by omega) (zan rfl hj') (zg rfl ?_)
  have bad: ¬(last<p.late[j]/\p.late[j]<65536)->RV.b false=RV.b p.right:=λhh=>by simp[Par.right,hlate,hh]
  have good:last<p.late[j]/\p.late[j]<65536->∃i':Nat×Int,(i'.1<=p.late.length/\zca (-1) p.late=zca i'.2 (p.late.drop i'.1)/\ -1<=i'.2/\(i'.1=0->i'.2= -1)/\∀h:0<i'.1/\i'.1-1<p.late.length,i'.2=p.late[i'.1-1])/\i'.1=j+1:=λhh=>by
   rw[decide_eq_true hh,Bool.true_and]at hlate
   exact⟨(j+1,p.late[j]),⟨by simp only;omega,hlate,by simp only;omega,by simp,λ_=>rfl⟩,rfl⟩
  refine zh (λh1=>zq (zf (bad ?_))) (λh1=>?_)
  ·simp only[zb]at h1;omega
  ·simp only[zb]at h1
   refine zm (by omega) (by omega) (zan rfl hj') (zg rfl ?_)
   refine zh (λh2=>zq (zf (bad ?_))) (λh2=>?_)
   ·simp only[zb]at h2;omega
   ·simp only[zb]at h2
    refine zh (λh3=>?_) (λh3=>?_)
    ·simp only[zb]at h3
     have hj0:0<j:=by omega
     have hlast:=hpos ⟨hj0,by omega⟩
     refine zd (m:=((j-1:Nat):Int)) (by omega) (by omega) ?_
     refine zm (by omega) (by omega) (zan rfl (show j-1<p.late.length by omega)) (zg rfl ?_)
     refine zm (by omega) (by omega) (zan rfl hj') (zg rfl ?_)
     refine zh (λh4=>zq (zf (bad ?_))) (λh4=>zt ?_)
     ·simp only[zb]at h4;omega
     ·simp only[zb]at h4
      refine zd (m:=((j+1:Nat):Int)) (by omega) (by omega) ?_
      obtain⟨i',hi,he⟩:=good (by omega)
      exact⟨i',hi,by omega,he▸zac [(0,0)] rfl ⟨rfl,cr,trivial⟩ ⟨zad _,trivial⟩⟩
    ·simp only[zb]at h3
     refine zt ?_
     refine zd (m:=((j+1:Nat):Int)) (by omega) (by omega) ?_
     obtain⟨i',hi,he⟩:=good (by have:=h0 (by omega);omega)
     exact⟨i',hi,by omega,he▸zac [(0,0)] rfl ⟨rfl,cr,trivial⟩ ⟨zad _,trivial⟩⟩
 ·simp only[zb]at h
  have:p.late.drop j=[]:=List.drop_eq_nil_of_le (by omega)
  rw[this]at hlate
  simp only[zca]at hlate
  (repeat' (first|refine zh (λh=>?_) (λh=>?_)|refine zf ?_|refine zq ?_|refine zt ?_))
  all_goals refine congrArg RV.b (Eq.symm ?_)
  all_goals simp only[Par.right,hlate,Bool.true_and,zb]at*
  all_goals omega
theorem z28(l:Leaf)(hl:l.fit):aG 189 [.ag l.c] (bch (zbe l)):=by
 refine aT Tryz.func189 rfl ?_
 obtain⟨l1,l2,l3,l4,l5⟩:=hl
 have w1:=zar l.box
 have w2:=zar l.sign
 have w3:=zar l.ident
 have w4:=zar l.parent
 refine aV ?_
 refine ze (zh7 l.box (by omega)) ?_
 refine ze (zh7 l.sign (by omega)) ?_
 refine ze (zio (vecB l.box) (vecB l.sign) (by omega) (by omega)) ?_
 refine ze (zh7 l.ident (by omega)) ?_
 refine zy ?_
 refine ze (zio (vecB l.ident) [l.src] (by omega) (by simp)) ?_
 refine ze (zio (vecB l.box++vecB l.sign) (vecB l.ident++[l.src]) (by simp;omega) (by simp;omega)) ?_
 refine zh (λh=>zq ?_) (λh=>zt ?_)
 ·simp only[zb]at h
  have h':l.src.toNat=3:=by omega
  refine ze (zh7 l.parent (by omega)) ?_
  refine ze (zio (vecB l.box++vecB l.sign++(vecB l.ident++[l.src])) (vecB l.parent) (by simp;omega) (by omega)) ?_
  exact zf0 (by simp[zbe,h'])
 ·simp only[zb]at h
  have h':l.src.toNat≠3:=by omega
  exact zf0 (by simp[zbe,h'])
theorem z2n(l:Leaf)(hl:l.fit):(zbe l).length<=5000000000:=by
 obtain⟨l1,l2,l3,l4,l5⟩:=hl
 have w1:=zar l.box
 have w2:=zar l.sign
 have w3:=zar l.ident
 have w4:=zar l.parent
 simp only[zbe,aL,List.length_cons,List.length_nil]
 split<;>simp<;>omega
theorem zug(l:Leaf)(hl:l.fit):aG 140 [.ag l.c] (bch (zbe l++vecB l.sig)):=by
 refine aT Tryz.func140 rfl ?_
 have w:=zar l.sig
 have w2:=z2n l hl
 obtain⟨_,_,_,_,l5⟩:=id hl
 refine aV ?_
 refine za rfl rfl ?_
 refine ze (z28 l hl) ?_
 refine ze (zh7 l.sig (by omega)) ?_
 refine ze (zio (zbe l) (vecB l.sig) (by omega) (by omega)) ?_
 rfl
theorem zun{l:List Int}{x:Int}{j:Nat}(hj:j<l.length)(h:x∉l.take j)(hx:l[j]≠x):x∉l.take (j+1):=by
 rw[List.take_add_one,List.getElem?_eq_getElem hj]
 simp only[Option.toList,List.mem_append,List.mem_cons,List.not_mem_nil,or_false]
 intro hh
 rcases hh with hh |hh
 ·exact h hh
 ·exact hx hh.symm
def Node.zero:Node:=⟨0,⟨[],[],[],0,[],[]⟩,⟨[],[],[]⟩⟩
def zc:List RV:=[.i .u8 0, .x (.slice none 0 0), .x (.slice none 0 0), .x (.slice none 0 0), .i .u8 0, .x (.slice none 0 0), .x (.slice none 0 0), .x (.slice none 0 0), .x (.slice none 0 0), .x (.slice none 0 0)]
theorem Cv.ag{l m:List RV}(h:Cvs l m):Cv (.ag l) (.ag m):=λw k v hv=>by
 simp only[RV.at_]at*
 obtain⟨us,e,hp⟩:=hv
 exact⟨us,e,h.list hp⟩
theorem z0j:Cv (.ag zc) (.ag Node.zero.c):=Cv.ag (zk (cr) (zk (Cv.nil 1) (zk (Cv.nil 1) (zk (Cv.nil 1) (zk (cr) (zk (Cv.nil 1) (zk (Cv.nil 1) (zk (Cv.nil 1) (zk (Cv.nil 1) (zk (Cv.nil 1) Cvs.nil))))))))))
def zffb(l:List Spot)(x:Int):Option Node:=(l.find? λs=>decide (s.at_=x)).map (·.node)
end Go.Proofs.YtpcfoglfakeimaaGreat.Sx
