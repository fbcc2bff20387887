import Derived.Test.YtkegaaonpekkgaaGreatXqKa
namespace Go.Proofs.YtkegaaonpekkgaaGreat.Sx
open Go.RowKit
theorem xK{ρ:List (Nat×Nat)}{S:St}(v:RV):oW ρ S (.r v) (.r v):=by
 cases v<;>first|trivial|exact cr
theorem yh{ρ:List (Nat×Nat)}{S:St}: ∀l:List RV,rY ρ S (l.map .r) (l.map .r)
 |[]=>rfl
 |v::r=>⟨_,_,rfl,xK v,yh r⟩
def Leaf.fit(l:Leaf):Prop:=l.box.length<=1000000000/\l.sign.length<=1000000000/\l.ident.length<=1000000000/\l.parent.length<=1000000000/\l.sig.length<=1000000000
def Par.fit(p:Par):Prop:=p.box.length<=1000000000/\p.hash.length<=1000000000/\p.late.length<=100000000/\∀x∈p.late,i64 x
def mX:Int->List Int->Bool
 |_,[]=>true
 |last,x::r=>decide (last<x/\x<65536)&&mX x r
def Par.right(p:Par):Bool:=mX (-1) p.late&&decide (p.box.length=32/\(p.hash.length=0\/p.hash.length=32))
def Leaf.none(l:Leaf):Bool:=decide (l.src.toNat=0/\l.box.length=0/\l.sign.length=0/\l.ident.length=0/\l.parent.length=0/\l.sig.length=0)
def Par.none(p:Par):Bool:=decide (p.box.length=0/\p.hash.length=0/\p.late.length=0)
theorem V4(l:Leaf)(hl:l.fit):aG 499 [.ag l.c] (.r (.b l.none)):=by
 refine aT Tryz.func499 rfl ?_
 obtain⟨h1,h2,h3,h4,h5⟩:=hl
 refine zh (λh=>?_) (λh=>?_)
 ·refine zd rfl (by omega) ?_
  refine zd rfl (by omega) ?_
  refine zd rfl (by omega) ?_
  refine zd rfl (by omega) ?_
  refine zG rfl (zf (cR RV.b ?_))
  simp only[Leaf.none,zb]at*
  rw[cD]
  simp only[zb]at*
  omega
 ·refine zf (cR RV.b ?_)
  simp only[Leaf.none,zb]at*
  rw[eq_comm]
  simp only[zb]at*
  omega
theorem SX(p:Par)(hp:p.fit):aG 500 [.ag p.c] (.r (.b p.none)):=by
 refine aT Tryz.func500 rfl ?_
 obtain⟨h1,h2,h3,_⟩:=hp
 refine zd rfl (by omega) ?_
 refine zd rfl (by omega) ?_
 refine zG rfl (zf (cR RV.b ?_))
 simp only[Par.none,zb]at*
 rw[cD]
 simp only[zb]at*
 omega
theorem qd(l:Leaf):aG 129 [.ag l.c] (.r (.b l.right)):=by
 refine aT Tryz.func129 rfl ?_
 (repeat' (first|refine zh (λh=>?_) (λh=>?_)|refine zf ?_|refine zp ?_|refine zq ?_))
 all_goals refine cR RV.b (Eq.symm ?_)
 all_goals simp only[Leaf.right,zb]at*
 all_goals omega
theorem E7(p:Par)(hp:p.fit):aG 501 [.ag p.c] (.r (.b p.right)):=by
 refine aT Tryz.func501 rfl ?_
 obtain⟨hp1,hp2,hp3,hp4⟩:=hp
 refine zy (λi:Nat×Int=>{F:=[(1,.own 0),(2,.r (.b false)),(3,.r (I i.2)),(7,.r (is p.late)),(8,.r (I p.late.length)),(9,.r (I i.1))],O:=[(0,some (.box (p.c.map .r)))],nx:=1})
  (λi=>i.1<=p.late.length/\mX (-1) p.late=mX i.2 (p.late.drop i.1)) (λi=>p.late.length-i.1) (0, -1) ⟨by simp,by simp⟩ (zN [(0,0)] ⟨yh _,trivial⟩) ?_
 rintro⟨j,last⟩ ⟨hj,hlate⟩
 simp only at hj hlate
 refine cZ (λh=>?_) λh=>?_
 ·simp only[zb]at h
  have hj':j<p.late.length:=by omega
  have hx:=hp4 _ (bY hj')
  rw[cI hj']at hlate
  simp only[mX]at hlate
  refine cV (xn rfl hj') (zg rfl ?_)
  refine zh (λh1=>?_) (λh1=>?_)
  ·simp only[zb]at h1
   refine zp (zf (cR RV.b (Eq.symm ?_)))
   have: ¬(last<p.late[j]/\p.late[j]<65536):=by omega
   simp[Par.right,hlate,this]
  ·refine zh (λh2=>?_) (λh2=>?_)
   ·simp only[zb]at h2
    refine zp (zf (cR RV.b (Eq.symm ?_)))
    have: ¬(last<p.late[j]/\p.late[j]<65536):=by omega
    simp[Par.right,hlate,this]
   ·simp only[zb]at h1 h2
    refine zq ?_
    refine zd (m:=((j+1:Nat):Int)) (by omega) (by omega) ?_
    have:last<p.late[j]/\p.late[j]<65536:=by omega
    rw[bE this,Bool.true_and]at hlate
    exact⟨(j+1,p.late[j]),⟨by simp only;omega,hlate⟩,by simp only;omega,zN [(0,0)] ⟨yh _,trivial⟩⟩
 ·simp only[zb]at h
  have:p.late.drop j=[]:=List.drop_eq_nil_of_le (by omega)
  rw[this]at hlate
  simp only[mX]at hlate
  (repeat' (first|refine zh (λh=>?_) (λh=>?_)|refine zf ?_|refine zp ?_|refine zq ?_))
  all_goals refine cR RV.b (Eq.symm ?_)
  all_goals simp only[Par.right,hlate,Bool.true_and,zb]at*
  all_goals omega
def Node.fit(n:Node):Prop:=n.leaf.fit/\n.par.fit
def Node.right(n:Node):Bool:=
 if n.kind.toNat=0 then n.leaf.none&&n.par.none else if n.kind.toNat=1 then n.leaf.right&&n.par.none else if n.kind.toNat=2 then n.leaf.none&&n.par.right else false
def xC(l:Leaf):cT:=zZ l.box++zZ l.sign++zZ l.ident++[l.src]++(if l.src.toNat=3 then zZ l.parent else[])
def xA(l:Leaf):cT:=xC l++zZ l.sig
def wM(l:List Int):cT:=l.flatMap λx=>yg 4 x.toNat
def dX(p:Par):cT:=zZ p.box++zZ p.hash++zZ (wM p.late)
def uR(n:Node):cT:=if n.kind.toNat=1 then 1::(xC n.leaf++zZ n.leaf.sig)else if n.kind.toNat=2 then 2::dX n.par else[0]
theorem LE(n:Node)(hn:n.fit):aG 441 [.ag n.c] (.r (.b n.right)):=by
 refine aT Tryz.func441 rfl ?_
 refine cZ (λh0=>?_) λh0=>?_
 ·simp only[zb]at h0
  have h0':n.kind.toNat=0:=by omega
  refine za rfl rfl (z6 (V4 n.leaf hn.1) (λh=>za rfl rfl (ze (SX n.par hn.2) (zf ?_))) (λh=>zf ?_))
  ·simp[Node.right,h0',h]
  ·simp[Node.right,h0',h,xT]
 ·simp only[zb]at h0
  have h0':n.kind.toNat≠0:=by omega
  refine cZ (λh1=>?_) λh1=>?_
  ·simp only[zb]at h1
   have h1':n.kind.toNat=1:=by omega
   refine za rfl rfl (z6 (qd n.leaf) (λh=>za rfl rfl (ze (SX n.par hn.2) (zf ?_))) (λh=>zf ?_))
   ·simp[Node.right,h1',h]
   ·simp[Node.right,h1',h,xT]
  ·simp only[zb]at h1
   have h1':n.kind.toNat≠1:=by omega
   refine cZ (λh2=>?_) λh2=>?_
   ·simp only[zb]at h2
    have h2':n.kind.toNat=2:=by omega
    refine za rfl rfl (z6 (V4 n.leaf hn.1) (λh=>za rfl rfl (ze (E7 n.par hn.2) (zf ?_))) (λh=>zf ?_))
    ·simp[Node.right,h2',h]
    ·simp[Node.right,h2',h,xT]
   ·simp only[zb]at h2
    have h2':n.kind.toNat≠2:=by omega
    refine zf ?_
    simp[Node.right,h0',h1',h2',xT]
theorem vR{e:TypeId}{l m:cT}(h:l=m):some (Ow.ch e 1 l.length (l.map U8) true)=some (Ow.ch e 1 m.length (m.map U8) true):=by rw[h]
def CU(b:cT)(l:Leaf):Nat->St
 |0=>{F:=[(0,.r (bs b)),(3,.own 0),(13,.own 1),(14,.r (I 3)),(15,.r (I 0))],O:=[(0,some (.box (l.c.map .r))),(1,some (.ch 22 1 3 [bs l.box,bs l.sign,bs l.ident] true))],nx:=2}
 |j+1=>{F:=[(0,.own 2),(3,.own 0),(13,.own 1),(14,.r (I 3)),(15,.r (I ((j+1:Nat):Int)))],O:=[(0,some (.box (l.c.map .r))),(1,some (.ch 22 1 3 [bs l.box,bs l.sign,bs l.ident] true)),
   (2,some (.ch 5 1 (b++([l.box,l.sign,l.ident].take (j+1)).flatMap zZ).length ((b++([l.box,l.sign,l.ident].take (j+1)).flatMap zZ).map U8) true))],nx:=3}
theorem jE(b:cT)(l:Leaf)(hb:b.length<=1000000000)(hl:l.fit):aG 224 [bs b,.ag l.c] (xJ (b++xC l)):=by
 refine aT Tryz.func224 rfl ?_
 obtain⟨h1,h2,h3,h4,h5⟩:=hl
 have v1:=yf l.box
 have v2:=yf l.sign
 have v3:=yf l.ident
 refine zw ?_
 refine zy (CU b l) (λj=>j<=3) (λj=>3-j) 0 (by omega) (zN [(0,0),(1,1)] ⟨yh _,⟨rfl,rfl,rfl,rfl,zn _⟩,trivial⟩) ?_
 intro j hj
 rcases(by omega:j=0\/j=1\/j=2\/j=3)with rfl |rfl |rfl |rfl
 ·refine cY ?_
  refine zm (by decide) (by decide) rfl (zg rfl ?_)
  refine ze (x5 b l.box (by omega) (by omega)) ?_
  refine zd (m:=((1:Nat):Int)) rfl (by decide) ?_
  exact⟨1,by omega,by omega,zN [(0,0),(1,1),(2,2)] ⟨yh _,⟨rfl,rfl,rfl,rfl,zn _⟩,qA (by simp),trivial⟩⟩
 ·refine cY ?_
  refine zm (by decide) (by decide) rfl (zg rfl ?_)
  refine ze (x5 (b++([l.box,l.sign,l.ident].take 1).flatMap zZ) l.sign (by simp;omega) (by omega)) ?_
  refine zd (m:=((2:Nat):Int)) rfl (by decide) ?_
  exact⟨2,by omega,by omega,zN [(0,0),(1,1),(2,3)] ⟨yh _,⟨rfl,rfl,rfl,rfl,zn _⟩,qA (by simp),trivial⟩⟩
 ·refine cY ?_
  refine zm (by decide) (by decide) rfl (zg rfl ?_)
  refine ze (x5 (b++([l.box,l.sign,l.ident].take 2).flatMap zZ) l.ident (by simp;omega) (by omega)) ?_
  refine zd (m:=((3:Nat):Int)) rfl (by decide) ?_
  exact⟨3,by omega,by omega,zN [(0,0),(1,1),(2,3)] ⟨yh _,⟨rfl,rfl,rfl,rfl,zn _⟩,qA (by simp),trivial⟩⟩
 ·refine cX ?_
  refine zw ?_
  refine z7 (j:=(b++([l.box,l.sign,l.ident].take 3).flatMap zZ++[l.src]).length) (zs:=(b++([l.box,l.sign,l.ident].take 3).flatMap zZ++[l.src]).map U8) (by simp[maxLen];omega) (by simp;omega) (by simp;omega) (by simp[uu,cellsOf]) ?_
  refine cZ (λhs=>?_) λhs=>?_
  ·simp only[zb]at hs
   have hs':l.src.toNat=3:=by omega
   refine ze (x5 (b++([l.box,l.sign,l.ident].take 3).flatMap zZ++[l.src]) l.parent (by simp;omega) (by omega)) ?_
   have e:b++([l.box,l.sign,l.ident].take 3).flatMap zZ++[l.src]++zZ l.parent=b++xC l:=by simp[xC,hs']
   exact vR e
  ·simp only[zb]at hs
   have hs':l.src.toNat≠3:=by omega
   have e:b++([l.box,l.sign,l.ident].take 3).flatMap zZ++[l.src]=b++xC l:=by simp[xC,hs']
   exact vR e
theorem qn: ∀l:List Int,(wM l).length=4*l.length
 |[]=>rfl
 |x::r=>by
  have:=qn r
  simp only[wM,List.flatMap_cons,aL,bJ]at*
  rw[yj,this];omega
def B5(b:cT)(p:Par):Nat->St
 |0=>{F:=[(0,.r (bs b)),(3,.own 0),(5,.r (bs [])),(9,.r (is p.late)),(10,.r (I p.late.length)),(11,.r (I ((0:Nat):Int)))],O:=[(0,some (.box (p.c.map .r)))],nx:=1}
 |j+1=>{F:=[(0,.r (bs b)),(3,.own 0),(5,.own 1),(9,.r (is p.late)),(10,.r (I p.late.length)),(11,.r (I ((j+1:Nat):Int)))],O:=[(0,some (.box (p.c.map .r))),
   (1,some (.ch 5 1 (wM (p.late.take (j+1))).length ((wM (p.late.take (j+1))).map U8) true))],nx:=2}
theorem oE(x:Int)(h:0<=x/\x<65536):IntKind.u64.wrap x=((x.toNat:Nat):Int):=by
 unfold IntKind.wrap
 simp only[IntKind.bits,IntKind.signed]
 simp
 omega
theorem QB(b:cT)(p:Par)(hb:b.length<=1000000000)(hp:p.fit)(hr: ∀x∈p.late,0<=x/\x<65536):aG 442 [bs b,.ag p.c] (xJ (b++dX p)):=by
 refine aT Tryz.func442 rfl ?_
 obtain⟨h1,h2,h3,_⟩:=hp
 have hll:=qn p.late
 refine zy (B5 b p) (λj=>j<=p.late.length) (λj=>p.late.length-j) 0 (by omega) (zX [(0,0)] rfl ⟨cr,rfl,z8 _,cr,cr,cr,trivial⟩ ⟨yh _,trivial⟩) ?_
 have vd1:=yf p.box
 have vd2:=yf p.hash
 have hstep: ∀j (hj:j<p.late.length),wM (p.late.take j)++yg 4 (p.late[j].toNat)=wM (p.late.take (j+1)):=λj hj=>by
  rw[List.take_add_one,bA hj]
  simp only[wM,Option.toList,List.flatMap_append,List.flatMap_cons,List.flatMap_nil,List.append_nil]
 have hlen: ∀j,j<=p.late.length->(wM (p.late.take j)).length=4*j:=λj hj=>by rw[qn,bL];omega
 intro j hj
 rcases j with _ |j
 ·refine cZ (λh=>?_) λh=>?_
  ·simp only[zb]at h
   have hj':0<p.late.length:=by omega
   refine cV (xn rfl hj') (zg rfl ?_)
   refine⟨((p.late[0].toNat:Nat):Int),(oE _ (hr _ (bY hj'))).symm,?_⟩
   refine ze (sp [] 4 p.late[0].toNat (by simp) (by omega)) ?_
   refine zd (m:=((0+1:Nat):Int)) (by omega) (by omega) ?_
   exact⟨0+1,hj',by omega,zN [(0,0),(1,1)] ⟨yh _,qA (hstep 0 hj'),trivial⟩⟩
  ·simp only[zb]at h
   have e:p.late=[]:=bU (by omega)
   refine aV ?_
   refine ze (x5 b p.box (by omega) (by omega)) ?_
   refine ze (x5 (b++zZ p.box) p.hash (by simp;omega) (by omega)) ?_
   refine ze (x5 (b++zZ p.box++zZ p.hash) [] (by simp;omega) (by simp)) ?_
   exact vR (by simp[dX,e,wM])
 ·refine cZ (λh=>?_) λh=>?_
  ·simp only[zb]at h
   have hj':j+1<p.late.length:=by omega
   refine cV (xn rfl hj') (zg rfl ?_)
   refine⟨((p.late[j+1].toNat:Nat):Int),(oE _ (hr _ (bY hj'))).symm,?_⟩
   refine ze (sp (wM (p.late.take (j+1))) 4 p.late[j+1].toNat (by rw[hlen _ hj];omega) (by omega)) ?_
   refine zd (m:=((j+1+1:Nat):Int)) (by omega) (by omega) ?_
   exact⟨j+1+1,hj',by omega,zN [(0,0),(1,2)] ⟨yh _,qA (hstep (j+1) hj'),trivial⟩⟩
  ·simp only[zb]at h
   have e:p.late.take (j+1)=p.late:=bF (by omega)
   refine aV ?_
   refine ze (x5 b p.box (by omega) (by omega)) ?_
   refine ze (x5 (b++zZ p.box) p.hash (by simp;omega) (by omega)) ?_
   refine ze (x5 (b++zZ p.box++zZ p.hash) (wM (p.late.take (j+1))) (by simp;omega) (by rw[e,hll];omega)) ?_
   exact vR (by simp[dX,e])
theorem Up: ∀(l:List Int) (a:Int), -1<=a->mX a l=true->∀x∈l,0<=x/\x<65536
 |[],_,_,_=>λx hx=>by cases hx
 |y::r,a,ha,h=>λx hx=>by
  simp only[mX,bB,decide_eq_true_eq]at h
  rcases List.mem_cons.1 hx with rfl |hx
  ·omega
  ·exact Up r y (by omega) h.2 x hx
theorem Par.right_bd{p:Par}(h:p.right=true): ∀x∈p.late,0<=x/\x<65536:=by
 simp only[Par.right,bB]at h
 exact Up _ _ (by omega) h.1
theorem Cv.tu{l m:List RV}(h:Cvs l m):Cv (.tu l) (.tu m):=λw k v hv=>by
 simp only[RV.at_]at*
 obtain⟨us,e,hp⟩:=hv
 exact⟨us,e,h.at_ hp⟩
theorem d8(n:Node)(hn:n.fit):aG 358 [.ag n.c] (.r (if n.right then .tu [bs (uR n),.i .u8 0]else .tu [bs [],.i .u8 3])):=by
 refine aT Tryz.func358 rfl ?_
 refine cU ?_
 refine z6 (LE n hn) (λhr=>?_) (λhr=>?_)
 ·refine cX ?_
  refine zw ?_
  obtain⟨⟨l1,l2,l3,l4,l5⟩,hpf⟩:=hn
  have w1:=yf n.leaf.box
  have w2:=yf n.leaf.sign
  have w3:=yf n.leaf.ident
  have w4:=yf n.leaf.parent
  refine cZ (λh1=>?_) λh1=>?_
  ·simp only[zb]at h1
   have h1':n.kind.toNat=1:=by omega
   have hk:n.kind=1:=UInt8.toNat_inj.1 h1'
   refine aV ?_
   refine cU ?_
   refine ze (jE [n.kind] n.leaf (by simp) ⟨l1,l2,l3,l4,l5⟩) ?_
   have hlen:([n.kind]++xC n.leaf).length<=1000000000000:=by
    simp only[xC,aL,bJ,bO]
    split<;>simp<;>omega
   refine ze (x5 ([n.kind]++xC n.leaf) n.leaf.sig hlen (by omega)) ?_
   refine⟨_,rfl,zf ?_⟩
   rw[cO hr,uR,cO h1',hk]
   rfl
  ·simp only[zb]at h1
   have h1':n.kind.toNat≠1:=by omega
   refine cZ (λh2=>?_) λh2=>?_
   ·simp only[zb]at h2
    have h2':n.kind.toNat=2:=by omega
    have hk:n.kind=2:=UInt8.toNat_inj.1 h2'
    have hb: ∀x∈n.par.late,0<=x/\x<65536:=by
     have:n.par.right=true:=by
      have:=hr
      simp[Node.right,h2']at this
      exact this.2
     exact Par.right_bd this
    refine cU ?_
    refine ze (QB [n.kind] n.par (by simp) hpf hb) ?_
    refine⟨_,rfl,zf ?_⟩
    rw[cO hr,uR,cQ h1',cO h2',hk]
    rfl
   ·simp only[zb]at h2
    have h2':n.kind.toNat≠2:=by omega
    have h0:n.kind.toNat=0:=by
     have:=hr
     simp only[Node.right,cQ h1',cQ h2']at this
     split at this
     ·assumption
     ·cases this
    have hk:n.kind=0:=UInt8.toNat_inj.1 h0
    refine⟨_,rfl,zf ?_⟩
    rw[cO hr,uR,cQ h1',cQ h2',hk]
    rfl
 ·refine cY ?_
  refine⟨_,rfl,?_⟩
  rw[hr]
  exact Cv.tu (zk (z8 1) (zn _))
theorem OJ(l:Leaf)(hl:l.fit):aG 352 [.ag l.c] (xJ (xC l)):=by
 refine aT Tryz.func352 rfl ?_
 obtain⟨l1,l2,l3,l4,l5⟩:=hl
 have w1:=yf l.box
 have w2:=yf l.sign
 have w3:=yf l.ident
 have w4:=yf l.parent
 refine aV ?_
 refine ze (w9 l.box (by omega)) ?_
 refine ze (w9 l.sign (by omega)) ?_
 refine ze (ve (zZ l.box) (zZ l.sign) (by omega) (by omega)) ?_
 refine ze (w9 l.ident (by omega)) ?_
 refine zw ?_
 refine ze (ve (zZ l.ident) [l.src] (by omega) (by simp)) ?_
 refine ze (ve (zZ l.box++zZ l.sign) (zZ l.ident++[l.src]) (by simp;omega) (by simp;omega)) ?_
 refine cZ (λh=>?_) λh=>?_
 ·simp only[zb]at h
  have h':l.src.toNat=3:=by omega
  refine ze (w9 l.parent (by omega)) ?_
  refine ze (ve (zZ l.box++zZ l.sign++(zZ l.ident++[l.src])) (zZ l.parent) (by simp;omega) (by omega)) ?_
  exact vR (by simp[xC,h'])
 ·simp only[zb]at h
  have h':l.src.toNat≠3:=by omega
  exact vR (by simp[xC,h'])
theorem iP(l:Leaf)(hl:l.fit):(xC l).length<=5000000000:=by
 obtain⟨l1,l2,l3,l4,l5⟩:=hl
 have w1:=yf l.box
 have w2:=yf l.sign
 have w3:=yf l.ident
 have w4:=yf l.parent
 simp only[xC,aL,bJ,bO]
 split<;>simp<;>omega
theorem rC(l:Leaf)(hl:l.fit):aG 251 [.ag l.c] (xJ (xC l++zZ l.sig)):=by
 refine aT Tryz.func251 rfl ?_
 have w:=yf l.sig
 have w2:=iP l hl
 obtain⟨_,_,_,_,l5⟩:=id hl
 refine aV ?_
 refine cU ?_
 refine ze (OJ l hl) ?_
 refine ze (w9 l.sig (by omega)) ?_
 refine ze (ve (xC l) (zZ l.sig) (by omega) (by omega)) ?_
 rfl
def FS(n:Node):Nat->St
 |0=>{F:=[(1,.own 0),(3,.r (bs [])),(4,.r (I ((0:Nat):Int)))],O:=[(0,some (.box (n.c.map .r)))],nx:=1}
 |j+1=>{F:=[(1,.own 0),(3,.own 1),(4,.r (I ((j+1:Nat):Int)))],O:=[(0,some (.box (n.c.map .r))),(1,some (.ch 5 1 (wM (n.par.late.take (j+1))).length ((wM (n.par.late.take (j+1))).map U8) true))],nx:=2}
theorem ZB{l:List Int}{j:Nat}(hj:j<l.length):wM (l.take j)++yg 4 (l[j].toNat)=wM (l.take (j+1)):=by
 rw[List.take_add_one,bA hj]
 simp only[wM,Option.toList,List.flatMap_append,List.flatMap_cons,List.flatMap_nil,List.append_nil]
theorem BN(n:Node)(hn:n.fit)(hr:n.kind.toNat=2->∀x∈n.par.late,0<=x/\x<65536):aG 234 [.ag n.c] (xJ (uR n)):=by
 refine aT Tryz.func234 rfl ?_
 have w2:=iP n.leaf hn.1
 have w3:=yf n.leaf.sig
 obtain⟨hl,h1,h2,h3,_⟩:=id hn
 obtain⟨_,_,_,_,l5⟩:=id hl
 refine cZ (λh=>?_) λh=>?_
 ·simp only[zb]at h
  have h':n.kind.toNat=1:=by omega
  refine zw ?_
  refine cU ?_
  refine ze (rC n.leaf hl) ?_
  refine ze (ve [1] (xC n.leaf++zZ n.leaf.sig) (by simp) (by simp;omega)) ?_
  exact vR (by simp[uR,h'])
 ·simp only[zb]at h
  have h':n.kind.toNat≠1:=by omega
  refine cZ (λhk=>?_) λhk=>?_
  ·simp only[zb]at hk
   have hk':n.kind.toNat=2:=by omega
   have hr':=hr hk'
   have hll:=qn n.par.late
   have vd1:=yf n.par.box
   have vd2:=yf n.par.hash
   have hlen: ∀j,j<=n.par.late.length->(wM (n.par.late.take j)).length=4*j:=λj hj=>by rw[qn,bL];omega
   refine zy (FS n) (λj=>j<=n.par.late.length) (λj=>n.par.late.length-j) 0 (by omega) (zX [(0,0)] rfl ⟨rfl,z8 _,cr,trivial⟩ ⟨yh _,trivial⟩) ?_
   intro j hj
   rcases j with _ |j
   ·refine cZ (λh=>?_) λh=>?_
    ·simp only[zb]at h
     have hj':0<n.par.late.length:=by omega
     refine cV (xn rfl hj') (zg rfl ?_)
     refine⟨((n.par.late[0].toNat:Nat):Int),(oE _ (hr' _ (bY hj'))).symm,?_⟩
     refine ze (rZ 4 n.par.late[0].toNat (by omega) (by have:=hr' _ (bY hj');omega)) ?_
     refine ze (ve [] (yg 4 n.par.late[0].toNat) (by simp) (by rw[yj];omega)) ?_
     refine zd (m:=((0+1:Nat):Int)) (by omega) (by omega) ?_
     exact⟨0+1,hj',by omega,zN [(0,0),(1,2)] ⟨yh _,qA (ZB hj'),trivial⟩⟩
    ·simp only[zb]at h
     have e:n.par.late=[]:=bU (by omega)
     refine aV ?_
     refine zw ?_
     refine ze (w9 n.par.box (by omega)) ?_
     refine ze (ve [2] (zZ n.par.box) (by simp) (by omega)) ?_
     refine ze (w9 n.par.hash (by omega)) ?_
     refine ze (w9 [] (by simp)) ?_
     refine ze (ve (zZ n.par.hash) (zZ []) (by omega) (by simp[bn];have:=mu 0;omega)) ?_
     refine ze (ve ([2]++zZ n.par.box) (zZ n.par.hash++zZ []) (by simp;omega) (by have:=mu 0;simp[bn]at*;omega)) ?_
     exact vR (by simp[uR,hk',dX,e,wM])
   ·refine cZ (λh=>?_) λh=>?_
    ·simp only[zb]at h
     have hj':j+1<n.par.late.length:=by omega
     refine cV (xn rfl hj') (zg rfl ?_)
     refine⟨((n.par.late[j+1].toNat:Nat):Int),(oE _ (hr' _ (bY hj'))).symm,?_⟩
     refine ze (rZ 4 n.par.late[j+1].toNat (by omega) (by have:=hr' _ (bY hj');omega)) ?_
     refine ze (ve (wM (n.par.late.take (j+1))) (yg 4 n.par.late[j+1].toNat) (by rw[hlen _ hj];omega) (by rw[yj];omega)) ?_
     refine zd (m:=((j+1+1:Nat):Int)) (by omega) (by omega) ?_
     exact⟨j+1+1,hj',by omega,zN [(0,0),(1,3)] ⟨yh _,qA (ZB hj'),trivial⟩⟩
    ·simp only[zb]at h
     have e:n.par.late.take (j+1)=n.par.late:=bF (by omega)
     have w4:=yf (wM (n.par.late.take (j+1)))
     have w5:=hlen _ hj
     refine aV ?_
     refine zw ?_
     refine ze (w9 n.par.box (by omega)) ?_
     refine ze (ve [2] (zZ n.par.box) (by simp) (by omega)) ?_
     refine ze (w9 n.par.hash (by omega)) ?_
     refine ze (w9 (wM (n.par.late.take (j+1))) (by omega)) ?_
     refine ze (ve (zZ n.par.hash) (zZ (wM (n.par.late.take (j+1)))) (by omega) (by omega)) ?_
     refine ze (ve ([2]++zZ n.par.box) (zZ n.par.hash++zZ (wM (n.par.late.take (j+1)))) (by simp;omega) (by simp;omega)) ?_
     exact vR (by simp[uR,hk',dX,e])
  ·simp only[zb]at hk
   have hk':n.kind.toNat≠2:=by omega
   refine zw ?_
   exact vR (m:=uR n) (l:=[0]) (by simp[uR,h',hk'])
def gE(i:Int)(n:Node):cT:=1::(yg 4 i.toNat++uR n)
theorem UF(n:Node)(hn:n.fit):(uR n).length<=10000000000:=by
 have w2:=iP n.leaf hn.1
 have w3:=yf n.leaf.sig
 obtain⟨hl,h1,h2,h3,_⟩:=id hn
 obtain⟨_,_,_,_,l5⟩:=id hl
 have hll:=qn n.par.late
 have vd1:=yf n.par.box
 have vd2:=yf n.par.hash
 have w4:=yf (wM n.par.late)
 unfold uR dX
 split
 ·simp;omega
 ·split
  ·simp;omega
  ·simp
theorem QA(i:Int)(n:Node)(hn:n.fit):aG 314 [I i,.ag n.c] (.r (if i<0\/65536<=i then .tu [bs [],.i .u8 1]else if n.right=false\/n.kind.toNat=2 then .tu [bs [],.i .u8 3]else .tu [bs (gE i n),.i .u8 0])):=by
 refine aT Tryz.func314 rfl ?_
 have hnl:=UF n hn
 have nil1: ∀(c:Int),Cv (.tu [xT (.slice none 0 0),.i .u8 c]) (.tu [bs [],.i .u8 c]):=λc=>Cv.tu (zk (z8 1) (zn _))
 refine zh (λh1=>zp ?_) (λh1=>?_)
 ·simp only[zb]at h1
  refine⟨_,rfl,?_⟩
  rw[cO (.inl h1)]
  exact nil1 1
 ·refine zh (λh2=>zp ?_) (λh2=>zq ?_)
  ·simp only[zb]at h1 h2
   refine⟨_,rfl,?_⟩
   rw[cO (.inr (by omega))]
   exact nil1 1
  ·simp only[zb]at h1 h2
   rw[cQ (show¬(i<0\/65536<=i)by omega)]
   refine za rfl rfl ?_
   refine ze (d8 n hn) ?_
   cases hr:n.right with
   |false=>
    refine zt rfl (zp ?_)
    refine⟨_,rfl,?_⟩
    rw[cO (.inl rfl)]
    exact nil1 3
   |true=>
    refine zu rfl ?_
    refine zh (λh3=>zp ?_) (λh3=>zq ?_)
    ·simp only[zb]at h3
     refine⟨_,rfl,?_⟩
     rw[cO (.inr (by omega))]
     exact nil1 3
    ·simp only[zb]at h3
     refine zw ?_
     refine⟨((i.toNat:Nat):Int),(oE _ (by omega)).symm,?_⟩
     refine ze (sp [1] 4 i.toNat (by simp) (by omega)) ?_
     refine z7 (j:=([1]++yg 4 i.toNat++uR n).length) (zs:=([1]++yg 4 i.toNat++uR n).map U8) (by simp[maxLen,yj];omega) (by simp[yj];omega) (by simp;omega) (by simp) ?_
     refine⟨_,rfl,zf ?_⟩
     rw[cQ (by simp;omega)]
     rfl
def Node.zero:Node:=⟨0,⟨[],[],[],0,[],[]⟩,⟨[],[],[]⟩⟩
def zc:List RV:=[.i .u8 0,.x (.slice none 0 0),.x (.slice none 0 0),.x (.slice none 0 0),.i .u8 0,.x (.slice none 0 0),.x (.slice none 0 0),.x (.slice none 0 0),.x (.slice none 0 0),.x (.slice none 0 0)]
theorem Cv.ag{l m:List RV}(h:Cvs l m):Cv (.ag l) (.ag m):=λw k v hv=>by
 simp only[RV.at_]at*
 obtain⟨us,e,hp⟩:=hv
 exact⟨us,e,h.list hp⟩
theorem FL:Cv (.ag zc) (.ag Node.zero.c):=Cv.ag (zk (cr) (zk (z8 1) (zk (z8 1) (zk (z8 1) (zk (cr) (zk (z8 1) (zk (z8 1) (zk (z8 1) (zk (z8 1) (zk (z8 1) zA))))))))))
def xP(l:List Spot)(x:Int):Option Node:=(l.find? λs=>decide (s.at_=x)).map (·.node)
def BS(x:Int):List Int->List Int
 |[]=>[x]
 |y::r=>if x<y then x::y::r else if x=y then y::r else y::BS x r
def AW(l:List Int):List Int:=l.foldr BS []
end Go.Proofs.YtkegaaonpekkgaaGreat.Sx
