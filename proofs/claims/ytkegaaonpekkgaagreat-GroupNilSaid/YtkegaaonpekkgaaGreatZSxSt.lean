import Derived.Test.YtkegaaonpekkgaaGreatZKb
import Derived.Test.YtkegaaonpekkgaaGreatZSxY
import Derived.Lib.AppendStr
namespace Go.Proofs.YtkegaaonpekkgaaGreat.Sx
open Go.RowKit
def Node.fit(n:Node):Prop:=n.leaf.fit/\n.par.fit
def Node.right(n:Node):Bool:=
 if n.kind.toNat=0 then n.leaf.none&&n.par.none else if n.kind.toNat=1 then n.leaf.right&&n.par.none else if n.kind.toNat=2 then n.leaf.none&&n.par.right else false
def zba(l:Leaf):List UInt8:=vecB l.box++vecB l.sign++vecB l.ident++[l.src]++(if l.src.toNat=3 then vecB l.parent else[])
def zc8(l:Leaf):List UInt8:=zba l++vecB l.sig
def zb3(l:List Int):List UInt8:=l.flatMap λx=>beB 4 x.toNat
def parB(p:Par):List UInt8:=vecB p.box++vecB p.hash++vecB (zb3 p.late)
def zdg(n:Node):List UInt8:=if n.kind.toNat=1 then 1::(zba n.leaf++vecB n.leaf.sig)else if n.kind.toNat=2 then 2::parB n.par else[0]
theorem z88(n:Node)(hn:n.fit):aG 441 [.ag n.c] (.r (.b n.right)):=by
 refine aT Tryz.func441 rfl ?_
 refine zh (λh0=>zp ?_) (λh0=>zq ?_)
 ·simp only[zb]at h0
  have h0':n.kind.toNat=0:=by omega
  refine za rfl rfl (Vcall.bool (zvk n.leaf hn.1) (λh=>za rfl rfl (ze (z0b n.par hn.2) (zf ?_))) (λh=>zf ?_))
  ·simp[Node.right,h0',h]
  ·simp[Node.right,h0',h,ofC]
 ·simp only[zb]at h0
  have h0':n.kind.toNat≠0:=by omega
  refine zh (λh1=>zp ?_) (λh1=>zq ?_)
  ·simp only[zb]at h1
   have h1':n.kind.toNat=1:=by omega
   refine za rfl rfl (Vcall.bool (zfi n.leaf) (λh=>za rfl rfl (ze (z0b n.par hn.2) (zf ?_))) (λh=>zf ?_))
   ·simp[Node.right,h1',h]
   ·simp[Node.right,h1',h,ofC]
  ·simp only[zb]at h1
   have h1':n.kind.toNat≠1:=by omega
   refine zh (λh2=>zp ?_) (λh2=>zq ?_)
   ·simp only[zb]at h2
    have h2':n.kind.toNat=2:=by omega
    refine za rfl rfl (Vcall.bool (zvk n.leaf hn.1) (λh=>za rfl rfl (ze (zgpb n.par hn.2) (zf ?_))) (λh=>zf ?_))
    ·simp[Node.right,h2',h]
    ·simp[Node.right,h2',h,ofC]
   ·simp only[zb]at h2
    have h2':n.kind.toNat≠2:=by omega
    refine zf ?_
    simp[Node.right,h0',h1',h2',ofC]
theorem zds{e:TypeId}{l m:List UInt8}(h:l=m):some (Ow.ch e 1 l.length (l.map U8) true)=some (Ow.ch e 1 m.length (m.map U8) true):=by rw[h]
def zjyb(b:List UInt8)(l:Leaf):Nat->St
 |0=>{F:=[(0, .r (bs b)),(3, .own 0),(13, .own 1),(14, .r (I 3)),(15, .r (I 0))],O:=[(0,some (.box (l.c.map .r))),(1,some (.ch 22 1 3 [bs l.box,bs l.sign,bs l.ident] true))],nx:=2}
 |j+1=>{F:=[(0, .own 2),(3, .own 0),(13, .own 1),(14, .r (I 3)),(15, .r (I ((j+1:Nat):Int)))],O:=[(0,some (.box (l.c.map .r))),(1,some (.ch 22 1 3 [bs l.box,bs l.sign,bs l.ident] true)),
   (2,some (.ch 5 1 (b++([l.box,l.sign,l.ident].take (j+1)).flatMap vecB).length ((b++([l.box,l.sign,l.ident].take (j+1)).flatMap vecB).map U8) true))],nx:=3}
theorem zk0(b:List UInt8)(l:Leaf)(hb:b.length<=1000000000)(hl:l.fit):aG 224 [bs b, .ag l.c] (bch (b++zba l)):=by
 refine aT Tryz.func224 rfl ?_
 obtain⟨h1,h2,h3,h4,h5⟩:=hl
 have v1:=zai l.box
 have v2:=zai l.sign
 have v3:=zai l.ident
 refine zw ?_
 refine zy (zjyb b l) (λj=>j<=3) (λj=>3-j) 0 (by omega) (zad [(0,0),(1,1)] rfl ⟨cr,rfl,rfl,cr,cr,trivial⟩ ⟨zae _,⟨rfl,rfl,rfl,rfl,zn _⟩,trivial⟩) ?_
 intro j hj
 rcases(by omega:j=0\/j=1\/j=2\/j=3)with rfl |rfl |rfl |rfl
 ·refine zt rfl (zp ?_)
  refine zm (by decide) (by decide) rfl (zg rfl ?_)
  refine ze (zbj b l.box (by omega) (by omega)) ?_
  refine zd (m:=((1:Nat):Int)) rfl (by decide) ?_
  exact⟨1,by omega,by omega,zad [(0,0),(1,1),(2,2)] rfl ⟨rfl,rfl,rfl,cr,cr,trivial⟩ ⟨zae _,⟨rfl,rfl,rfl,rfl,zn _⟩,cvCh (by simp),trivial⟩⟩
 ·refine zt rfl (zp ?_)
  refine zm (by decide) (by decide) rfl (zg rfl ?_)
  refine ze (zbj (b++([l.box,l.sign,l.ident].take 1).flatMap vecB) l.sign (by simp;omega) (by omega)) ?_
  refine zd (m:=((2:Nat):Int)) rfl (by decide) ?_
  exact⟨2,by omega,by omega,zad [(0,0),(1,1),(2,3)] rfl ⟨rfl,rfl,rfl,cr,cr,trivial⟩ ⟨zae _,⟨rfl,rfl,rfl,rfl,zn _⟩,cvCh (by simp),trivial⟩⟩
 ·refine zt rfl (zp ?_)
  refine zm (by decide) (by decide) rfl (zg rfl ?_)
  refine ze (zbj (b++([l.box,l.sign,l.ident].take 2).flatMap vecB) l.ident (by simp;omega) (by omega)) ?_
  refine zd (m:=((3:Nat):Int)) rfl (by decide) ?_
  exact⟨3,by omega,by omega,zad [(0,0),(1,1),(2,3)] rfl ⟨rfl,rfl,rfl,cr,cr,trivial⟩ ⟨zae _,⟨rfl,rfl,rfl,rfl,zn _⟩,cvCh (by simp),trivial⟩⟩
 ·refine zu rfl (zq ?_)
  refine zw ?_
  refine Vapp.mk' (j:=(b++([l.box,l.sign,l.ident].take 3).flatMap vecB++[l.src]).length) (zs:=(b++([l.box,l.sign,l.ident].take 3).flatMap vecB++[l.src]).map U8) (by simp[maxLen];omega) (by simp;omega) (by simp;omega) (by simp[zc6,cellsOf]) ?_
  refine zh (λhs=>zp ?_) (λhs=>zq ?_)
  ·simp only[zb]at hs
   have hs':l.src.toNat=3:=by omega
   refine ze (zbj (b++([l.box,l.sign,l.ident].take 3).flatMap vecB++[l.src]) l.parent (by simp;omega) (by omega)) ?_
   have e:b++([l.box,l.sign,l.ident].take 3).flatMap vecB++[l.src]++vecB l.parent=b++zba l:=by simp[zba,hs']
   exact zds e
  ·simp only[zb]at hs
   have hs':l.src.toNat≠3:=by omega
   have e:b++([l.box,l.sign,l.ident].take 3).flatMap vecB++[l.src]=b++zba l:=by simp[zba,hs']
   exact zds e
theorem zfk: ∀l:List Int,(zb3 l).length=4*l.length
 |[]=>rfl
 |x::r=>by
  have:=zfk r
  simp only[zb3,List.flatMap_cons,aL,List.length_cons]at*
  rw[zao,this];omega
def zkob(b:List UInt8)(p:Par):Nat->St
 |0=>{F:=[(0, .r (bs b)),(3, .own 0),(5, .r (bs [])),(9, .r (is p.late)),(10, .r (I p.late.length)),(11, .r (I ((0:Nat):Int)))],O:=[(0,some (.box (p.c.map .r)))],nx:=1}
 |j+1=>{F:=[(0, .r (bs b)),(3, .own 0),(5, .own 1),(9, .r (is p.late)),(10, .r (I p.late.length)),(11, .r (I ((j+1:Nat):Int)))],O:=[(0,some (.box (p.c.map .r))),
   (1,some (.ch 5 1 (zb3 (p.late.take (j+1))).length ((zb3 (p.late.take (j+1))).map U8) true))],nx:=2}
theorem zg0(x:Int)(h:0<=x/\x<65536):IntKind.u64.wrap x=((x.toNat:Nat):Int):=by
 unfold IntKind.wrap
 simp only[IntKind.bits,IntKind.signed]
 simp
 omega
theorem z2a(b:List UInt8)(p:Par)(hb:b.length<=1000000000)(hp:p.fit)(hr: ∀x∈p.late,0<=x/\x<65536):aG 442 [bs b, .ag p.c] (bch (b++parB p)):=by
 refine aT Tryz.func442 rfl ?_
 obtain⟨h1,h2,h3,_⟩:=hp
 have hll:=zfk p.late
 refine zy (zkob b p) (λj=>j<=p.late.length) (λj=>p.late.length-j) 0 (by omega) (zad [(0,0)] rfl ⟨cr,rfl,Cv.nil _,cr,cr,cr,trivial⟩ ⟨zae _,trivial⟩) ?_
 have vd1:=zai p.box
 have vd2:=zai p.hash
 have hstep: ∀j (hj:j<p.late.length),zb3 (p.late.take j)++beB 4 (p.late[j].toNat)=zb3 (p.late.take (j+1)):=λj hj=>by
  rw[List.take_add_one,List.getElem?_eq_getElem hj]
  simp only[zb3,Option.toList,List.flatMap_append,List.flatMap_cons,List.flatMap_nil,List.append_nil]
 have hlen: ∀j,j<=p.late.length->(zb3 (p.late.take j)).length=4*j:=λj hj=>by rw[zfk,List.length_take];omega
 intro j hj
 rcases j with _ |j
 ·refine zh (λh=>zp ?_) (λh=>zq ?_)
  ·simp only[zb]at h
   have hj':0<p.late.length:=by omega
   refine zm (by omega) (by omega) (zbh rfl hj') (zg rfl ?_)
   refine⟨((p.late[0].toNat:Nat):Int),(zg0 _ (hr _ (List.getElem_mem hj'))).symm,?_⟩
   refine ze (zef [] 4 p.late[0].toNat (by simp) (by omega)) ?_
   refine zd (m:=((0+1:Nat):Int)) (by omega) (by omega) ?_
   exact⟨0+1,hj',by omega,zad [(0,0),(1,1)] rfl ⟨cr,rfl,rfl,cr,cr,cr,trivial⟩ ⟨zae _,cvCh (hstep 0 hj'),trivial⟩⟩
  ·simp only[zb]at h
   have e:p.late=[]:=List.eq_nil_of_length_eq_zero (by omega)
   refine aV ?_
   refine ze (zbj b p.box (by omega) (by omega)) ?_
   refine ze (zbj (b++vecB p.box) p.hash (by simp;omega) (by omega)) ?_
   refine ze (zbj (b++vecB p.box++vecB p.hash) [] (by simp;omega) (by simp)) ?_
   exact zds (by simp[parB,e,zb3])
 ·refine zh (λh=>zp ?_) (λh=>zq ?_)
  ·simp only[zb]at h
   have hj':j+1<p.late.length:=by omega
   refine zm (by omega) (by omega) (zbh rfl hj') (zg rfl ?_)
   refine⟨((p.late[j+1].toNat:Nat):Int),(zg0 _ (hr _ (List.getElem_mem hj'))).symm,?_⟩
   refine ze (zef (zb3 (p.late.take (j+1))) 4 p.late[j+1].toNat (by rw[hlen _ hj];omega) (by omega)) ?_
   refine zd (m:=((j+1+1:Nat):Int)) (by omega) (by omega) ?_
   exact⟨j+1+1,hj',by omega,zad [(0,0),(1,2)] rfl ⟨cr,rfl,rfl,cr,cr,cr,trivial⟩ ⟨zae _,cvCh (hstep (j+1) hj'),trivial⟩⟩
  ·simp only[zb]at h
   have e:p.late.take (j+1)=p.late:=List.take_of_length_le (by omega)
   refine aV ?_
   refine ze (zbj b p.box (by omega) (by omega)) ?_
   refine ze (zbj (b++vecB p.box) p.hash (by simp;omega) (by omega)) ?_
   refine ze (zbj (b++vecB p.box++vecB p.hash) (zb3 (p.late.take (j+1))) (by simp;omega) (by rw[e,hll];omega)) ?_
   exact zds (by simp[parB,e])
theorem zwq: ∀(l:List Int) (a:Int), -1<=a->zi1 a l=true->∀x∈l,0<=x/\x<65536
 |[],_,_,_=>λx hx=>by cases hx
 |y::r,a,ha,h=>λx hx=>by
  simp only[zi1,Bool.and_eq_true,decide_eq_true_eq]at h
  rcases List.mem_cons.1 hx with rfl |hx
  ·omega
  ·exact zwq r y (by omega) h.2 x hx
theorem Par.right_bd{p:Par}(h:p.right=true): ∀x∈p.late,0<=x/\x<65536:=by
 simp only[Par.right,Bool.and_eq_true]at h
 exact zwq _ _ (by omega) h.1
theorem Cv.tu{l m:List RV}(h:Cvs l m):Cv (.tu l) (.tu m):=λw k v hv=>by
 simp only[RV.at_]at*
 obtain⟨us,e,hp⟩:=hv
 exact⟨us,e,h.at_ hp⟩
theorem zo4(n:Node)(hn:n.fit):aG 358 [.ag n.c] (.r (if n.right then .tu [bs (zdg n), .i .u8 0]else .tu [bs [], .i .u8 3])):=by
 refine aT Tryz.func358 rfl ?_
 refine za rfl rfl ?_
 refine Vcall.bool (z88 n hn) (λhr=>?_) (λhr=>?_)
 ·refine zu rfl (zq ?_)
  refine zw ?_
  obtain⟨⟨l1,l2,l3,l4,l5⟩,hpf⟩:=hn
  have w1:=zai n.leaf.box
  have w2:=zai n.leaf.sign
  have w3:=zai n.leaf.ident
  have w4:=zai n.leaf.parent
  refine zh (λh1=>zp ?_) (λh1=>zq ?_)
  ·simp only[zb]at h1
   have h1':n.kind.toNat=1:=by omega
   have hk:n.kind=1:=UInt8.toNat_inj.1 h1'
   refine aV ?_
   refine za rfl rfl ?_
   refine ze (zk0 [n.kind] n.leaf (by simp) ⟨l1,l2,l3,l4,l5⟩) ?_
   have hlen:([n.kind]++zba n.leaf).length<=1000000000000:=by
    simp only[zba,aL,List.length_cons,List.length_nil]
    split<;>simp<;>omega
   refine ze (zbj ([n.kind]++zba n.leaf) n.leaf.sig hlen (by omega)) ?_
   refine⟨_,rfl,zf ?_⟩
   rw[if_pos hr,zdg,if_pos h1',hk]
   rfl
  ·simp only[zb]at h1
   have h1':n.kind.toNat≠1:=by omega
   refine zh (λh2=>zp ?_) (λh2=>zq ?_)
   ·simp only[zb]at h2
    have h2':n.kind.toNat=2:=by omega
    have hk:n.kind=2:=UInt8.toNat_inj.1 h2'
    have hb: ∀x∈n.par.late,0<=x/\x<65536:=by
     have:n.par.right=true:=by
      have:=hr
      simp[Node.right,h2']at this
      exact this.2
     exact Par.right_bd this
    refine za rfl rfl ?_
    refine ze (z2a [n.kind] n.par (by simp) hpf hb) ?_
    refine⟨_,rfl,zf ?_⟩
    rw[if_pos hr,zdg,if_neg h1',if_pos h2',hk]
    rfl
   ·simp only[zb]at h2
    have h2':n.kind.toNat≠2:=by omega
    have h0:n.kind.toNat=0:=by
     have:=hr
     simp only[Node.right,if_neg h1',if_neg h2']at this
     split at this
     ·assumption
     ·cases this
    have hk:n.kind=0:=UInt8.toNat_inj.1 h0
    refine⟨_,rfl,zf ?_⟩
    rw[if_pos hr,zdg,if_neg h1',if_neg h2',hk]
    rfl
 ·refine zt rfl (zp ?_)
  refine⟨_,rfl,?_⟩
  rw[hr]
  exact Cv.tu (zk (Cv.nil 1) (zn _))
theorem z47(l:Leaf)(hl:l.fit):aG 352 [.ag l.c] (bch (zba l)):=by
 refine aT Tryz.func352 rfl ?_
 obtain⟨l1,l2,l3,l4,l5⟩:=hl
 have w1:=zai l.box
 have w2:=zai l.sign
 have w3:=zai l.ident
 have w4:=zai l.parent
 refine aV ?_
 refine ze (zdj l.box (by omega)) ?_
 refine ze (zdj l.sign (by omega)) ?_
 refine ze (zcb (vecB l.box) (vecB l.sign) (by omega) (by omega)) ?_
 refine ze (zdj l.ident (by omega)) ?_
 refine zw ?_
 refine ze (zcb (vecB l.ident) [l.src] (by omega) (by simp)) ?_
 refine ze (zcb (vecB l.box++vecB l.sign) (vecB l.ident++[l.src]) (by simp;omega) (by simp;omega)) ?_
 refine zh (λh=>zp ?_) (λh=>zq ?_)
 ·simp only[zb]at h
  have h':l.src.toNat=3:=by omega
  refine ze (zdj l.parent (by omega)) ?_
  refine ze (zcb (vecB l.box++vecB l.sign++(vecB l.ident++[l.src])) (vecB l.parent) (by simp;omega) (by omega)) ?_
  exact zds (by simp[zba,h'])
 ·simp only[zb]at h
  have h':l.src.toNat≠3:=by omega
  exact zds (by simp[zba,h'])
theorem zly(l:Leaf)(hl:l.fit):(zba l).length<=5000000000:=by
 obtain⟨l1,l2,l3,l4,l5⟩:=hl
 have w1:=zai l.box
 have w2:=zai l.sign
 have w3:=zai l.ident
 have w4:=zai l.parent
 simp only[zba,aL,List.length_cons,List.length_nil]
 split<;>simp<;>omega
theorem zt7(l:Leaf)(hl:l.fit):aG 251 [.ag l.c] (bch (zba l++vecB l.sig)):=by
 refine aT Tryz.func251 rfl ?_
 have w:=zai l.sig
 have w2:=zly l hl
 obtain⟨_,_,_,_,l5⟩:=id hl
 refine aV ?_
 refine za rfl rfl ?_
 refine ze (z47 l hl) ?_
 refine ze (zdj l.sig (by omega)) ?_
 refine ze (zcb (zba l) (vecB l.sig) (by omega) (by omega)) ?_
 rfl
def zf0b(n:Node):Nat->St
 |0=>{F:=[(1, .own 0),(3, .r (bs [])),(4, .r (I ((0:Nat):Int)))],O:=[(0,some (.box (n.c.map .r)))],nx:=1}
 |j+1=>{F:=[(1, .own 0),(3, .own 1),(4, .r (I ((j+1:Nat):Int)))],O:=[(0,some (.box (n.c.map .r))),(1,some (.ch 5 1 (zb3 (n.par.late.take (j+1))).length ((zb3 (n.par.late.take (j+1))).map U8) true))],nx:=2}
theorem zqp{l:List Int}{j:Nat}(hj:j<l.length):zb3 (l.take j)++beB 4 (l[j].toNat)=zb3 (l.take (j+1)):=by
 rw[List.take_add_one,List.getElem?_eq_getElem hj]
 simp only[zb3,Option.toList,List.flatMap_append,List.flatMap_cons,List.flatMap_nil,List.append_nil]
theorem zk3b(n:Node)(hn:n.fit)(hr:n.kind.toNat=2->∀x∈n.par.late,0<=x/\x<65536):aG 234 [.ag n.c] (bch (zdg n)):=by
 refine aT Tryz.func234 rfl ?_
 have w2:=zly n.leaf hn.1
 have w3:=zai n.leaf.sig
 obtain⟨hl,h1,h2,h3,_⟩:=id hn
 obtain⟨_,_,_,_,l5⟩:=id hl
 refine zh (λh=>zp ?_) (λh=>zq ?_)
 ·simp only[zb]at h
  have h':n.kind.toNat=1:=by omega
  refine zw ?_
  refine za rfl rfl ?_
  refine ze (zt7 n.leaf hl) ?_
  refine ze (zcb [1] (zba n.leaf++vecB n.leaf.sig) (by simp) (by simp;omega)) ?_
  exact zds (by simp[zdg,h'])
 ·simp only[zb]at h
  have h':n.kind.toNat≠1:=by omega
  refine zh (λhk=>zp ?_) (λhk=>zq ?_)
  ·simp only[zb]at hk
   have hk':n.kind.toNat=2:=by omega
   have hr':=hr hk'
   have hll:=zfk n.par.late
   have vd1:=zai n.par.box
   have vd2:=zai n.par.hash
   have hlen: ∀j,j<=n.par.late.length->(zb3 (n.par.late.take j)).length=4*j:=λj hj=>by rw[zfk,List.length_take];omega
   refine zy (zf0b n) (λj=>j<=n.par.late.length) (λj=>n.par.late.length-j) 0 (by omega) (zad [(0,0)] rfl ⟨rfl,Cv.nil _,cr,trivial⟩ ⟨zae _,trivial⟩) ?_
   intro j hj
   rcases j with _ |j
   ·refine zh (λh=>zp ?_) (λh=>zq ?_)
    ·simp only[zb]at h
     have hj':0<n.par.late.length:=by omega
     refine zm (by omega) (by omega) (zbh rfl hj') (zg rfl ?_)
     refine⟨((n.par.late[0].toNat:Nat):Int),(zg0 _ (hr' _ (List.getElem_mem hj'))).symm,?_⟩
     refine ze (z0c 4 n.par.late[0].toNat (by omega) (by have:=hr' _ (List.getElem_mem hj');omega)) ?_
     refine ze (zcb [] (beB 4 n.par.late[0].toNat) (by simp) (by rw[zao];omega)) ?_
     refine zd (m:=((0+1:Nat):Int)) (by omega) (by omega) ?_
     exact⟨0+1,hj',by omega,zad [(0,0),(1,2)] rfl ⟨rfl,rfl,cr,trivial⟩ ⟨zae _,cvCh (zqp hj'),trivial⟩⟩
    ·simp only[zb]at h
     have e:n.par.late=[]:=List.eq_nil_of_length_eq_zero (by omega)
     refine aV ?_
     refine zw ?_
     refine ze (zdj n.par.box (by omega)) ?_
     refine ze (zcb [2] (vecB n.par.box) (by simp) (by omega)) ?_
     refine ze (zdj n.par.hash (by omega)) ?_
     refine ze (zdj [] (by simp)) ?_
     refine ze (zcb (vecB n.par.hash) (vecB []) (by omega) (by simp[zpp];have:=zic 0;omega)) ?_
     refine ze (zcb ([2]++vecB n.par.box) (vecB n.par.hash++vecB []) (by simp;omega) (by have:=zic 0;simp[zpp]at*;omega)) ?_
     exact zds (by simp[zdg,hk',parB,e,zb3])
   ·refine zh (λh=>zp ?_) (λh=>zq ?_)
    ·simp only[zb]at h
     have hj':j+1<n.par.late.length:=by omega
     refine zm (by omega) (by omega) (zbh rfl hj') (zg rfl ?_)
     refine⟨((n.par.late[j+1].toNat:Nat):Int),(zg0 _ (hr' _ (List.getElem_mem hj'))).symm,?_⟩
     refine ze (z0c 4 n.par.late[j+1].toNat (by omega) (by have:=hr' _ (List.getElem_mem hj');omega)) ?_
     refine ze (zcb (zb3 (n.par.late.take (j+1))) (beB 4 n.par.late[j+1].toNat) (by rw[hlen _ hj];omega) (by rw[zao];omega)) ?_
     refine zd (m:=((j+1+1:Nat):Int)) (by omega) (by omega) ?_
     exact⟨j+1+1,hj',by omega,zad [(0,0),(1,3)] rfl ⟨rfl,rfl,cr,trivial⟩ ⟨zae _,cvCh (zqp hj'),trivial⟩⟩
    ·simp only[zb]at h
     have e:n.par.late.take (j+1)=n.par.late:=List.take_of_length_le (by omega)
     have w4:=zai (zb3 (n.par.late.take (j+1)))
     have w5:=hlen _ hj
     refine aV ?_
     refine zw ?_
     refine ze (zdj n.par.box (by omega)) ?_
     refine ze (zcb [2] (vecB n.par.box) (by simp) (by omega)) ?_
     refine ze (zdj n.par.hash (by omega)) ?_
     refine ze (zdj (zb3 (n.par.late.take (j+1))) (by omega)) ?_
     refine ze (zcb (vecB n.par.hash) (vecB (zb3 (n.par.late.take (j+1)))) (by omega) (by omega)) ?_
     refine ze (zcb ([2]++vecB n.par.box) (vecB n.par.hash++vecB (zb3 (n.par.late.take (j+1)))) (by simp;omega) (by simp;omega)) ?_
     exact zds (by simp[zdg,hk',parB,e])
  ·simp only[zb]at hk
   have hk':n.kind.toNat≠2:=by omega
   refine zw ?_
   exact zds (m:=zdg n) (l:=[0]) (by simp[zdg,h',hk'])
def zmq(i:Int)(n:Node):List UInt8:=1::(beB 4 i.toNat++zdg n)
theorem zw9(n:Node)(hn:n.fit):(zdg n).length<=10000000000:=by
 have w2:=zly n.leaf hn.1
 have w3:=zai n.leaf.sig
 obtain⟨hl,h1,h2,h3,_⟩:=id hn
 obtain⟨_,_,_,_,l5⟩:=id hl
 have hll:=zfk n.par.late
 have vd1:=zai n.par.box
 have vd2:=zai n.par.hash
 have w4:=zai (zb3 n.par.late)
 unfold zdg parB
 split
 ·simp;omega
 ·split
  ·simp;omega
  ·simp
theorem z19(i:Int)(n:Node)(hn:n.fit):aG 314 [I i, .ag n.c] (.r (if i<0\/65536<=i then .tu [bs [], .i .u8 1]else if n.right=false\/n.kind.toNat=2 then .tu [bs [], .i .u8 3]else .tu [bs (zmq i n), .i .u8 0])):=by
 refine aT Tryz.func314 rfl ?_
 have hnl:=zw9 n hn
 have nil1: ∀(c:Int),Cv (.tu [ofC (.slice none 0 0), .i .u8 c]) (.tu [bs [], .i .u8 c]):=λc=>Cv.tu (zk (Cv.nil 1) (zn _))
 refine zh (λh1=>zp ?_) (λh1=>?_)
 ·simp only[zb]at h1
  refine⟨_,rfl,?_⟩
  rw[if_pos (.inl h1)]
  exact nil1 1
 ·refine zh (λh2=>zp ?_) (λh2=>zq ?_)
  ·simp only[zb]at h1 h2
   refine⟨_,rfl,?_⟩
   rw[if_pos (.inr (by omega))]
   exact nil1 1
  ·simp only[zb]at h1 h2
   rw[if_neg (show¬(i<0\/65536<=i)by omega)]
   refine za rfl rfl ?_
   refine ze (zo4 n hn) ?_
   cases hr:n.right with
   |false=>
    refine zt rfl (zp ?_)
    refine⟨_,rfl,?_⟩
    rw[if_pos (.inl rfl)]
    exact nil1 3
   |true=>
    refine zu rfl ?_
    refine zh (λh3=>zp ?_) (λh3=>zq ?_)
    ·simp only[zb]at h3
     refine⟨_,rfl,?_⟩
     rw[if_pos (.inr (by omega))]
     exact nil1 3
    ·simp only[zb]at h3
     refine zw ?_
     refine⟨((i.toNat:Nat):Int),(zg0 _ (by omega)).symm,?_⟩
     refine ze (zef [1] 4 i.toNat (by simp) (by omega)) ?_
     refine Vapp.mk' (j:=([1]++beB 4 i.toNat++zdg n).length) (zs:=([1]++beB 4 i.toNat++zdg n).map U8) (by simp[maxLen,zao];omega) (by simp[zao];omega) (by simp;omega) (by simp) ?_
     refine⟨_,rfl,zf ?_⟩
     rw[if_neg (by simp;omega)]
     rfl
def Node.zero:Node:=⟨0,⟨[],[],[],0,[],[]⟩,⟨[],[],[]⟩⟩
def zc:List RV:=[.i .u8 0, .x (.slice none 0 0), .x (.slice none 0 0), .x (.slice none 0 0), .i .u8 0, .x (.slice none 0 0), .x (.slice none 0 0), .x (.slice none 0 0), .x (.slice none 0 0), .x (.slice none 0 0)]
theorem Cv.ag{l m:List RV}(h:Cvs l m):Cv (.ag l) (.ag m):=λw k v hv=>by
 simp only[RV.at_]at*
 obtain⟨us,e,hp⟩:=hv
 exact⟨us,e,h.list hp⟩
theorem zfyb:Cv (.ag zc) (.ag Node.zero.c):=Cv.ag (zk (cr) (zk (Cv.nil 1) (zk (Cv.nil 1) (zk (Cv.nil 1) (zk (cr) (zk (Cv.nil 1) (zk (Cv.nil 1) (zk (Cv.nil 1) (zk (Cv.nil 1) (zk (Cv.nil 1) Cvs.nil))))))))))
def zbi(l:List Spot)(x:Int):Option Node:=(l.find? λs=>decide (s.at_=x)).map (·.node)
def ins(x:Int):List Int->List Int
 |[]=>[x]
 |y::r=>if x<y then x::y::r else if x=y then y::r else y::ins x r
def rise(l:List Int):List Int:=l.foldr ins []
section
variable {P:Program} {T:TT} {B:Bs} {N:Nat} {S:St} {a:Act} {w:World} {k:Kp} {g:Env} {o:Oper} {Q:Exit->Act->World->Prop}
abbrev strR(s:ByteArray):List RV:=s.data.toList.map λc=> .i .u8 (c.toNat:Int)
theorem zflb(w:World)(k:Kp)(s:ByteArray):RV.listAt w k (strR s) (Lib.strCells s):=by
 rw[RV.listAt_iff]
 refine⟨by simp[Lib.strCells],λj f u hf hu=>?_⟩
 rw[List.getElem?_map]at hf
 obtain⟨c,hc,rfl⟩:=Option.map_eq_some_iff.1 hf
 simp only[Lib.strCells,List.getElem?_map,hc,Option.map_some,Option.some.injEq]at hu
 subst hu
 exact⟨rfl,by simp[RV.at_]⟩
theorem zyt{t t' ty e:TypeId}{i:TypeInfo}{z:Value}(ht:P.underlying t=some (.slice e))(hu:P.underlying t'=some .string)(hi:P.info? e=some i)(hz:i.zero=some z)
  (hsize:i.size=1) (hby:i.bytes=1) (hzs:z.cells.size=1)
  {n:Nat} {cells:List RV} {pub:Bool} {u:Value} {ob:Option Nat} (hch:chAt w k e 1 n cells pub u ob) (s:ByteArray) (hm:0<s.size) (hbytes:n+s.size<=140737488355328):
  ∃xs b cap cur w',(Builtin.append_ #[t,t'] ty #[u, .string s]).run P w= .ok (.slice (some ⟨b,0,none⟩) (n+s.size) cap) w'/\RV.listAt w k cells xs/\
   w'.heap[b]?=some (.cells cur e (0,0))/\n+s.size<=cap/\cap<=maxLen/\cap*1<=cur.size/\cur.toList.take ((n+s.size)*1)=xs++Lib.strCells s/\w.grownBy w' ob/\(ob=some b\/b=w.heap.size)/\
   (∀b0,ob=some b0->(∃cur0,w.heap[b0]?=some (.cells cur0 e (0,0))/\cur0.toList.take (n*1)=xs)/\(b=b0\/b=w.heap.size/\w'.heap[b0]?=w.heap[b0]?)):=by
 obtain⟨hcl,hch⟩:=hch
 have hl:(Lib.strCells s).length=s.size:=Lib.strCells_length s
 have h63:n+s.size<=maxLen:=by simp only[maxLen];omega
 have fin: ∀(xs:List Value) (old:Nat),xs.length=n->
   (w.drew.alloc (.cells (xs.toArray++(Lib.strCells s).toArray++Builtin.zeroCells z.cells (grownCap w (n+s.size) old e-(n+s.size))) e)).heap[w.heap.size]?=some (.cells (xs.toArray++(Lib.strCells s).toArray++Builtin.zeroCells z.cells (grownCap w (n+s.size) old e-(n+s.size))) e (0,0))/\
   n+s.size<=grownCap w (n+s.size) old e/\grownCap w (n+s.size) old e<=maxLen/\(xs.toArray++(Lib.strCells s).toArray++Builtin.zeroCells z.cells (grownCap w (n+s.size) old e-(n+s.size))).size=grownCap w (n+s.size) old e*1/\
   (xs.toArray++(Lib.strCells s).toArray++Builtin.zeroCells z.cells (grownCap w (n+s.size) old e-(n+s.size))).toList.take ((n+s.size)*1)=xs++Lib.strCells s/\
   ∀row,w.grownBy (w.drew.alloc (.cells (xs.toArray++(Lib.strCells s).toArray++Builtin.zeroCells z.cells (grownCap w (n+s.size) old e-(n+s.size))) e)) row:=λxs old hx=>by
  have hge:=grownCap_ge w (n+s.size) old e
  refine⟨heap_alloc_new w.drew _,hge,grownCap_le_maxLen w (n+s.size) old e h63,?_,?_,λrow=>⟨rfl,rfl,rfl,by simp,λk hk _=>Below.heap_alloc w.drew _ k hk⟩⟩
  ·simp only[Array.size_append,List.size_toArray,size_zeroCells,hzs,hl,hx]
   omega
  ·simp only[Array.toList_append]
   rw[show(n+s.size)*1=(xs++Lib.strCells s).length by rw[aL,hl,hx,Nat.mul_one]]
   exact List.take_left
 rcases hch with⟨rfl,⟨rfl,p,rfl⟩ |⟨hn0,_,b,o,rfl,hnm,hbl,hcell⟩⟩ |⟨b,cap,cur,rfl,rfl,hh,hnc,hcm,hcs,hkb,hlist⟩
 ·have hc0:cells=[]:=List.eq_nil_of_length_eq_zero (by simpa using hcl)
  subst hc0
  cases p with
  |none=>
   have hr:=run_append_nil_string (P:=P) w t t' ty e i z ht hu hi hz s hm (by omega) (by rw[hby];omega)
   have e1:(s.data.map λb=>Value.int .u8 b.toNat)=(Lib.strCells s).toArray:=by
    apply Array.ext'
    simp[Lib.strCells]
   rw[e1]at hr
   obtain⟨f1,f2,f3,f4,f5,f6⟩:=fin [] 0 rfl
   simp only[Nat.zero_add,List.nil_append,Array.empty_append]at f1 f2 f3 f4 f5 f6⊢
   exact⟨[],w.heap.size,_,_,_,hr,by simp[RV.listAt],f1,f2,f3,Nat.le_of_eq f4.symm,f5,f6 _, .inr rfl,λb0 h=>by cases h⟩
  |some p=>
   have hr:=Lib.run_append_grow_string (P:=P) w t t' ty e i z ht hu hi hz p 0 0 [] (by simp) (by simp) s (by omega) (by omega) (growslice_fits (by omega) (by rw[hby];omega))
   obtain⟨f1,f2,f3,f4,f5,f6⟩:=fin [] 0 rfl
   exact⟨[],w.heap.size,_,_,_,hr,by simp[RV.listAt],f1,f2,f3,Nat.le_of_eq f4.symm,f5,f6 _, .inr rfl,λb0 h=>by cases h⟩
 ·obtain⟨xs,hlist,hxl,hcell⟩:=RV.cells_list cells o hcell
  have hr:=Lib.run_append_grow_string (P:=P) w t t' ty e i z ht hu hi hz ⟨b,o,none⟩ n n xs (by rw[hsize,hxl,hcl]) (λj v hj=>by rw[Addr.add_mid];exact hcell j v hj) s (by omega) (by omega) (growslice_fits (by omega) (by rw[hby];omega))
  obtain⟨f1,f2,f3,f4,f5,f6⟩:=fin xs n (by rw[hxl,hcl,Nat.mul_one])
  exact⟨xs,w.heap.size,_,_,_,hr,hlist,f1,f2,f3,Nat.le_of_eq f4.symm,f5,f6 _, .inr rfl,λb0 hb0=>by cases hb0⟩
 ·have hxl:(cur.toList.take (n*1)).length=n:=by rw[za2 hlist,hcl,Nat.mul_one]
  have hlt:b<w.heap.size:=(Array.getElem?_eq_some_iff.1 hh).1
  by_cases hfit:n+s.size<=cap
  ·have hr:=Lib.run_append_room_string (P:=P) w t t' ty e i ht hu hi hsize b n cap cur hh s hfit (by omega)
   refine⟨_,b,cap,_,_,hr,hlist,setRow_heap w b cur _ e (0,0) hh,hfit,hcm,?_,?_,⟨rfl,rfl,rfl,by simp[World.setRow],λx hx hne=>setRow_other w b x _ (λh=>hne (by rw[h]))⟩, .inl rfl,λb0 hb0=>?_⟩
   ·simp only[List.size_toArray,aL,List.length_take,hl,List.length_drop,Array.length_toList]
    omega
   ·rw[Nat.mul_one]at hxl⊢
    rw[Nat.mul_one]
    rw[show n+s.size=(cur.toList.take n++Lib.strCells s).length by rw[aL,hxl,hl],List.toList_toArray]
    exact List.take_left
   ·cases hb0
    exact⟨⟨cur,hh,rfl⟩, .inl rfl⟩
  ·have hr:=Lib.run_append_grow_string (P:=P) w t t' ty e i z ht hu hi hz ⟨b,0,none⟩ n cap (cur.toList.take (n*1)) (by rw[hsize,hxl,Nat.mul_one]) (λj v hj=>by
    rw[Addr.add_mid,Nat.zero_add,cell_of_row w b j cur e (0,0) hh]
    rw[List.getElem?_take]at hj
    split at hj
    ·simpa using hj
    ·cases hj) s (by omega) (by omega) (growslice_fits (by omega) (by rw[hby];omega))
   obtain⟨f1,f2,f3,f4,f5,f6⟩:=fin (cur.toList.take (n*1)) cap hxl
   refine⟨_,w.heap.size,_,_,_,hr,hlist,f1,f2,f3,Nat.le_of_eq f4.symm,f5,f6 _, .inr rfl,λb0 hb0=>?_⟩
   cases hb0
   exact⟨⟨cur,hh,rfl⟩, .inr ⟨rfl,Below.heap_alloc w.drew _ b hlt⟩⟩
theorem Vstep.appS{x y:Operand}{t t' e:TypeId}{ti te ts:TI}{f:TF}{id:Option Nat}{n:Nat}{cells:List RV}{pub:Bool}{s:ByteArray}{K:St->Prop}(hT:TOk P T)
  (hop:o.op= .call {callee:= .builtin .append,args:= #[x,y],argTypes:= #[t,t']}) (hti:tget T t=some ti) (hk:ti.k= .slice e) (hte:tget T e=some te) (hke:te.sz=1/\te.bytes=1) (hts:tget T t'=some ts) (hks:ts.k= .str)
  (hx:opr S x=some f) (hl:lhsv S e 1 f=some (id,e,1,n,cells,pub)) (hy:opr S y=some (.r (.x (.string s)))) (hlen:n+s.size<=140737488355328)
  (hK:newK (S.strike id) o.dst (.r .any) (some (.ch e 1 (n+s.size) (cells++strR s) pub)) K):Vstep P S o K:=by
 rw[zav]at hK
 refine Vstep.one (S':=(S.strike id).mk_ o.dst (.ch e 1 (n+s.size) (cells++strR s) pub)) ?_ hK
 rintro B N a w k Q ⟨g,hs⟩ hd
 obtain⟨q,hq⟩:=hT.get hti
 obtain⟨d,hdd,hko,_⟩:=q.desc
 rw[hq,hk]at*
 simp only[KOk]at hko
 subst hko
 obtain⟨qe,hqe⟩:=hT.get hte
 obtain⟨i,hi,hsz,hby,z,hz,hzc⟩:=qe.info
 rw[hqe]at hi
 obtain⟨qs,hqs⟩:=hT.get hts
 obtain⟨ds,hds,hkos,_⟩:=qs.desc
 rw[hqs,hks]at*
 simp only[KOk]at hkos
 subst hkos
 have hy':=(zaf hs hy).2
 simp only[TF.at_,RV.at_]at hy'
 obtain⟨ob,hch,hid⟩:=zww hs hl (zaf hs hx).2
 have run: ∀{v:Value} {w':World},(Builtin.append_ #[t,t'] o.type #[a.eval x, .string s]).run P w= .ok v w'->(execOp a.eval o).run P w= .ok (.value v) w':=λ{v w'} hr=>by
  simp[execOp,hop,resolve,invoke,builtin,hy',hr]
 rcases Nat.eq_zero_or_pos s.size with h0 |hm
 ·have hn:strR s=[]:=List.eq_nil_of_length_eq_zero (by rw[List.length_map,Array.length_toList];exact h0)
  have hform: ∃p c,a.eval x= .slice p n c/\n<=c:=by
   rcases hch.2 with⟨_,⟨rfl,p,e⟩ |⟨_,_,b,o',e,_⟩⟩ |⟨b,cap,cur,_,e,_,h1,_⟩
   ·exact⟨p,0,e,Nat.le_refl _⟩
   ·exact⟨_,n,e,Nat.le_refl _⟩
   ·exact⟨_,cap,e,h1⟩
  obtain⟨p,c,hu,hnc⟩:=hform
  rw[hu]at hch run
  have hw:Wrote w k w k ob:=⟨rfl,rfl,rfl,Nat.le_refl _,λ_ _ _=>⟨rfl,rfl⟩,λ_ _=>⟨Nat.le_refl _,λ_ _=>rfl,λ_ _ _ h=>h⟩⟩
  have h1:=hs.wrote hw hid
  have h2:Ow.at_ w k g (.slice p n c,ob) (.ch e 1 (n+s.size) (cells++strR s) pub):=by rw[hn,h0];simpa[Ow.at_]using hch
  have hobs: ∀b,ob=some b->(B.w.heap.size<=b\/b∈B.X)/\b<w.heap.size:=λb hb=>zmy hs hid hb
  refine zat (run ?_) ⟨_,_,h1.adopt hd (o:= .ch e 1 (n+s.size) (cells++strR s) pub) (vb:=(.slice p n c,ob)) trivial h2 hobs (λi o' b ho hb=>zmx hs hid ho hb)⟩
  have hf:=Lib.run_firstCells_string (P:=P) w 1 s
  rw[h0]at hf
  have hs0:Lib.strCells s=[]:=List.eq_nil_of_length_eq_zero (by rw[Lib.strCells_length];exact h0)
  rw[hs0]at hf
  cases p<;>simp[Builtin.append_,run_underlying hdd,run_underlying hds,sizeOf,typeInfo,hi,hsz,hke.1,Builtin.lenOf,h0,hf,hnc,storeCells]
 ·obtain⟨xs,b,cap,cur,w',hrun,hxs,hh,h1,h2,h3,h4,hgr,hbb,hb0⟩:=zyt (ty:=o.type) hdd hds hi hz (hsz.trans hke.1) (hby.trans hke.2) (by rw[<-Array.length_toList,hzc,qe.zsz,hke.1]) hch s hm hlen
  obtain⟨k',hsat⟩:=zrh (o:=o) hs hd hch hid (zflb w k s) (by rw[Lib.strCells_length,Nat.mul_one]) hxs hh h1 h2 h3 h4 hgr hbb hb0
  exact zat (run hrun) ⟨k',hsat⟩
theorem zm6(w:World)(dT sT ty elem:TypeId)(sz g o dLen dCap:Nat)(a:Addr)(sLen sCap m:Nat)(cur:Array Value)(t:TypeId)(cs:List Value)
  (hu:P.underlying dT=some (.slice elem)) {i:TypeInfo} (hi:P.info? elem=some i) (hs:i.size=sz)
  (hg:w.heap[g]?=some (.cells cur t (0,0))) (hm:Nat.min sLen dLen=m) (hn:cs.length=m*sz)
  (hsrc: ∀j v,cs[j]?=some v->w.cell? (a.add j)=some v) (hfit:o+cs.length<=cur.size) (h1: ∀v∈cs,v.oneCell'=true):
  (Builtin.copy_ #[dT,sT] ty #[.slice (some ⟨g,o,none⟩) dLen dCap, .slice (some a) sLen sCap]).run P w=
   .ok (goInt (m:Int)) (w.setRow g (cur.toList.take o++cs++cur.toList.drop (o+cs.length)).toArray):=by
 subst hm
 have hl:=run_loadCells_list (P:=P) w a cs hsrc
 have hst:=run_storeCells_at P g o t cs 0 cur w hg (by simpa using hfit) h1
 simp[Builtin.copy_,run_underlying hu,Builtin.lenOf,Builtin.firstCells,sizeOf,typeInfo,hi,hs,<-hn,hl,hst]
theorem zm5(w:World)(dT sT ty elem:TypeId)(p a:Option Addr)(dLen dCap sLen sCap:Nat)(hu:P.underlying dT=some (.slice elem)){i:TypeInfo}(hi:P.info? elem=some i)(hm:Nat.min sLen dLen=0):
  (Builtin.copy_ #[dT,sT] ty #[.slice p dLen dCap, .slice a sLen sCap]).run P w= .ok (goInt ((0:Nat):Int)) w:=by
 have h:min sLen dLen=0:=hm
 cases p<;>cases a<;>simp[Builtin.copy_,run_underlying hu,Builtin.lenOf,Builtin.firstCells,sizeOf,typeInfo,hi,h,loadCells,loadCellsFrom,storeCells]
theorem Vstep.copy{x y:Operand}{t t' e:TypeId}{ti te:TI}{id n m:Nat}{cells ys:List RV}{f:TF}{K:St->Prop}(hT:TOk P T)
  (hop:o.op= .call {callee:= .builtin .copy,args:= #[x,y],argTypes:= #[t,t']}) (hti:tget T t=some ti) (hk:ti.k= .slice e) (hte:tget T e=some te)
  (hx:opr S x=some (.own id)) (ho:oget S.O id=some (.ch e te.sz n cells false)) (hy:opr S y=some f) (hr:rhsv S te.sz f=some (te.sz,m,ys)) {zs:List RV} (hz:ys.take (Nat.min m n*te.sz)++cells.drop (Nat.min m n*te.sz)=zs)
  (hK:newK (S.set id (some (.ch e te.sz n zs false))) o.dst (.r (.i .i64 (Nat.min m n:Nat))) none K):Vstep P S o K:=by
 subst hz
 rw[zav]at hK
 refine Vstep.one (S':=(S.set id (some (.ch e te.sz n (ys.take (Nat.min m n*te.sz)++cells.drop (Nat.min m n*te.sz)) false))).put o.dst (.r (.i .i64 (Nat.min m n:Nat)))) ?_ hK
 rintro B N a w k Q ⟨g,hs⟩ hd
 obtain⟨q,hq⟩:=hT.get hti
 obtain⟨d,hdd,hko,_⟩:=q.desc
 rw[hq,hk]at*
 simp only[KOk]at hko
 subst hko
 obtain⟨qe,hqe⟩:=hT.get hte
 obtain⟨i,hi,hsz,hby,z,hz,hzc⟩:=qe.info
 rw[hqe]at hi
 obtain⟨hid,hlo,hat,_⟩:=hs.owns id _ ho
 have hx':=(zaf hs hx).2
 simp only[TF.at_]at hx'
 obtain⟨qa,qc,us,hu2,hus,husl,hsrc⟩:=zq2 hs hr (zaf hs hy).2
 have hmn:Nat.min m n<=n:=Nat.min_le_right _ _
 have hmm:Nat.min m n<=m:=Nat.min_le_left _ _
 simp only[Ow.at_]at hat
 have run: ∀{v:Value} {w':World},(Builtin.copy_ #[t,t'] o.type #[(g id).1, .slice qa m qc]).run P w= .ok v w'->(execOp a.eval o).run P w= .ok (.value v) w':=λ{v w'} hr=>by
  simp[execOp,hop,resolve,invoke,builtin,hx',hu2,hr]
 have fin: ∀{w':World},SatE B N (S.set id (some (.ch e te.sz n (ys.take (Nat.min m n*te.sz)++cells.drop (Nat.min m n*te.sz)) false))) a w' k g->
   SatE B N ((S.set id (some (.ch e te.sz n (ys.take (Nat.min m n*te.sz)++cells.drop (Nat.min m n*te.sz)) false))).put o.dst (.r (.i .i64 (Nat.min m n:Nat)))) (a.put o.dst (goInt ((Nat.min m n:Nat):Int))) w' k g:=λ{w'} h=>
  h.put hd trivial (by simp[TF.at_,RV.at_,goInt])
 rcases Nat.eq_zero_or_pos (Nat.min m n)with h0 |hpos
 ·have hform: ∃p nn c,(g id).1= .slice p nn c/\nn=n:=by
   rcases hat.2 with⟨_,⟨rfl,p,e⟩ |⟨_,h,_⟩⟩ |⟨b,cap,cur,_,e,_⟩
   ·exact⟨p,0,0,e,rfl⟩
   ·cases h
   ·exact⟨_,n,cap,e,rfl⟩
  obtain⟨p,nn,c,hu,rfl⟩:=hform
  rw[hu]at run
  have hrun:=zm5 (P:=P) w t t' o.type e p qa nn c m qc hdd hi h0
  refine zat (run hrun) ⟨k,g,?_⟩
  have hz:ys.take (Nat.min m nn*te.sz)++cells.drop (Nat.min m nn*te.sz)=cells:=by rw[h0];simp
  rw[hz]at fin⊢
  have:=fin (hs.reset ho)
  rw[h0]at this⊢
  exact this
 ·rcases hat.2 with⟨_,⟨rfl,_⟩ |⟨_,h,_⟩⟩ |⟨b,cap,cur,e1,e2,hh,h1,h2,h3,h4,h5⟩
  ·exact absurd hpos (by simp)
  ·cases h
  ·obtain⟨sb,so,rfl,hcells⟩:=hsrc (by omega)
   have hle:Nat.min m n*te.sz<=m*te.sz:=Nat.mul_le_mul_right _ hmm
   have hle2:Nat.min m n*te.sz<=n*te.sz:=Nat.mul_le_mul_right _ hmn
   have hcc:n*te.sz<=cap*te.sz:=Nat.mul_le_mul_right _ h1
   have hk:k b=0:=by simpa using h4
   have hcl:(us.take (Nat.min m n*te.sz)).length=Nat.min m n*te.sz:=by rw[List.length_take,husl];omega
   have hsub: ∀(j:Nat) (v:Value),(us.take (Nat.min m n*te.sz))[j]?=some v->us[j]?=some v:=λj v hj=>by
    rw[List.getElem?_take]at hj
    split at hj
    ·exact hj
    ·cases hj
   have hnew:RV.listAt w k (ys.take (Nat.min m n*te.sz)) (us.take (Nat.min m n*te.sz)):=zcj hus _
   have hr:=zm6 (P:=P) w t t' o.type e te.sz b 0 n cap ⟨sb,so,none⟩ m qc _ cur e (us.take (Nat.min m n*te.sz)) hdd hi hsz hh rfl hcl (λj v hj=>by rw[Addr.add_mid];exact hcells j v (hsub j v hj)) (by rw[hcl];omega) (λv hv=>by
    obtain⟨j,hj⟩:=List.getElem?_of_mem hv
    have hjl:j< (ys.take (Nat.min m n*te.sz)).length:=by rw[<-za2 hnew];exact(List.getElem?_eq_some_iff.1 hj).1
    exact(((RV.listAt_iff _ _).1 hnew).2 j _ v (List.getElem?_eq_getElem hjl) hj).1)
   rw[e2]at run
   have hw:=zg6 (k:=k) (cs:=(cur.toList.take 0++us.take (Nat.min m n*te.sz)++cur.toList.drop (0+(us.take (Nat.min m n*te.sz)).length)).toArray) hh hk
   refine zat (run hr) ⟨k,g,fin (hs.redo ho e1 hw trivial ?_)⟩
   simp only[Ow.at_]
   have hyl:ys.length=m*te.sz:=by rw[<-za2 hus,husl]
   refine⟨by have:=hat.1;simp only[aL,List.length_take,List.length_drop];omega, .inr ⟨b,cap,_,e1,e2,setRow_heap w b cur _ e (0,0) hh,h1,h2,?_,by simpa using hk,?_⟩⟩
   ·simp only[List.size_toArray,aL,List.length_take,List.length_drop,Array.length_toList,husl];omega
   ·have hnew':=RV.list_mono hw.le _ _ hnew
    have hhi:=zde (RV.list_mono hw.le _ _ h5) (Nat.min m n*te.sz)
    have hall:=zb4 hnew' hhi
    have e:(List.take 0 cur.toList++us.take (Nat.min m n*te.sz)++List.drop (0+(us.take (Nat.min m n*te.sz)).length) cur.toList).take (n*te.sz)=us.take (Nat.min m n*te.sz)++(cur.toList.take (n*te.sz)).drop (Nat.min m n*te.sz):=by
     rw[List.take_zero,List.nil_append,Nat.zero_add,List.take_append,hcl,List.drop_take]
     congr 1
     exact List.take_of_length_le (by rw[hcl];exact hle2)
    rw[List.toList_toArray,e]
    exact hall
end
theorem zbb{S:St}{id:Nat}{e:TypeId}{sz n:Nat}{cells:List RV}(ho:oget S.O id=some (.ch e sz n cells false)):Sub S ⟨S.F,(id,some (.ch e sz n cells true))::S.O,S.nx⟩:=by
 rintro B N a w k ⟨g,hs⟩
 obtain⟨q1,q2,q3,q4⟩:=hs.owns id _ ho
 simp only[Ow.at_]at q3
 let k1:Kp:=match(g id).2 with
  |some b=>kset k b (n*sz)
  |none=>k
 have hw:Wrote w k w k1 (g id).2:=by
  refine⟨rfl,rfl,rfl,Nat.le_refl _,λb hb hne=>⟨rfl,?_⟩,λb hb=>?_⟩
  ·simp only[k1]
   cases hob:(g id).2 with
   |none=>rfl
   |some b'=>simp only[kset];rw[if_neg (λh=>hne (by rw[hob,h]))]
  ·have hkb:=(q3.blk hb.symm).1
   simp only[Bool.false_eq_true,if_false]at hkb
   exact⟨by omega,λ_ _=>rfl,λh=>by omega⟩
 have hle:=hw.le
 have h2:chAt w k1 e sz n cells true (g id).1 (g id).2:=by
  refine⟨q3.1,?_⟩
  rcases q3.2 with⟨h,h' |⟨_,h',_⟩⟩ |⟨b,cap,cur,h1,h2,h3,h4,h5,h6,h7,h8⟩
  ·exact .inl ⟨h, .inl h'⟩
  ·cases h'
  ·refine .inr ⟨b,cap,cur,h1,h2,h3,h4,h5,h6,?_,RV.list_mono hle _ _ h8⟩
   simp only[k1,h1,zbv,if_true]
 have h1:=hs.wrote hw (id:=some id) ⟨⟨_,ho⟩,rfl⟩
 have up: ∀i o',oget ((id,some (Ow.ch e sz n cells true))::S.O) i=some o'->(i=id/\o'= .ch e sz n cells true)\/(id≠i/\oget (S.strike (some id)).O i=some o'):=λi o' h=>by
  rcases zar h with⟨rfl,e'⟩ |⟨hne,h⟩
  ·cases e';exact .inl ⟨rfl,rfl⟩
  ·refine .inr ⟨hne,?_⟩
   simp only[St.strike,St.set,oget]
   split
   ·rename_i hb;exact absurd (Nat.eq_of_beq_eq_true hb) hne
   ·exact h
 refine⟨k1,g,h1.size,h1.defers,h1.keep,h1.kk,h1.facts,λi o' h=>?_,λi j o1 o2 b' hi hj hne hbi=>?_⟩
 ·rcases up i o' h with⟨rfl,rfl⟩ |⟨hne,h⟩
  ·exact⟨q1,trivial,h2,q4⟩
  ·exact h1.owns i o' h
 ·have old: ∀x ox,oget ((id,some (Ow.ch e sz n cells true))::S.O) x=some ox->∃ox',oget S.O x=some ox':=λx ox hx=>by
   rcases zar hx with⟨rfl,_⟩ |⟨_,hx⟩
   ·exact⟨_,ho⟩
   ·exact⟨ox,hx⟩
  obtain⟨p1,hp1⟩:=old i o1 hi
  obtain⟨p2,hp2⟩:=old j o2 hj
  exact hs.apart i j p1 p2 b' hp1 hp2 hne hbi
end Go.Proofs.YtkegaaonpekkgaaGreat.Sx
