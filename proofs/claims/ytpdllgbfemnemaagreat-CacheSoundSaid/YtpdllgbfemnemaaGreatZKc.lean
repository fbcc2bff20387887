import Derived.Test.YtpdllgbfemnemaaGreatZKb
namespace Go.Proofs.YtpdllgbfemnemaaGreat.Sx
open Go.RowKit
def Node.fit(n:Node):Prop:=n.leaf.fit/\n.par.fit
def Node.right(n:Node):Bool:=
 if n.kind.toNat=0 then n.leaf.none&&n.par.none else if n.kind.toNat=1 then n.leaf.right&&n.par.none else if n.kind.toNat=2 then n.leaf.none&&n.par.right else false
def zdh(l:Leaf):List UInt8:=vecB l.box++vecB l.sign++vecB l.ident++[l.src]++(if l.src.toNat=3 then vecB l.parent else[])
def zbq(l:List Int):List UInt8:=l.flatMap λx=>beB 4 x.toNat
def parB(p:Par):List UInt8:=vecB p.box++vecB p.hash++vecB (zbq p.late)
def zaq(n:Node):List UInt8:=if n.kind.toNat=1 then 1::(zdh n.leaf++vecB n.leaf.sig)else if n.kind.toNat=2 then 2::parB n.par else[0]
theorem zbub(n:Node)(hn:n.fit):zaf Tryz.prog 138 [.ag n.c] (.r (.b n.right)):=by
 refine zac (T:=Tab) mixed Tab_ok Tryz.func138 rfl (by kernel_rfl) ?_
 refine zh (λh0=>zq ?_) (λh0=>zt ?_)
 ·simp only[zb]at h0
  have h0':n.kind.toNat=0:=by omega
  refine za rfl rfl (Vcall.bool (z0b n.leaf hn.1) (λh=>za rfl rfl (ze (z3x n.par hn.2) (zf ?_))) (λh=>zf ?_))
  ·simp[Node.right,h0',h]
  ·simp[Node.right,h0',h,ofC]
 ·simp only[zb]at h0
  have h0':n.kind.toNat≠0:=by omega
  refine zh (λh1=>zq ?_) (λh1=>zt ?_)
  ·simp only[zb]at h1
   have h1':n.kind.toNat=1:=by omega
   refine za rfl rfl (Vcall.bool (zwl n.leaf) (λh=>za rfl rfl (ze (z3x n.par hn.2) (zf ?_))) (λh=>zf ?_))
   ·simp[Node.right,h1',h]
   ·simp[Node.right,h1',h,ofC]
  ·simp only[zb]at h1
   have h1':n.kind.toNat≠1:=by omega
   refine zh (λh2=>zq ?_) (λh2=>zt ?_)
   ·simp only[zb]at h2
    have h2':n.kind.toNat=2:=by omega
    refine za rfl rfl (Vcall.bool (z0b n.leaf hn.1) (λh=>za rfl rfl (ze (z7u n.par hn.2) (zf ?_))) (λh=>zf ?_))
    ·simp[Node.right,h2',h]
    ·simp[Node.right,h2',h,ofC]
   ·simp only[zb]at h2
    have h2':n.kind.toNat≠2:=by omega
    refine zf ?_
    simp[Node.right,h0',h1',h2',ofC]
theorem cvCh{ρ:List (Nat×Nat)}{S:St}{e:TypeId}{l m:List UInt8}(h:l=m):cvOw ρ S (.ch e 1 l.length (l.map U8) true) (.ch e 1 m.length (m.map U8) true):=by
 subst h
 exact⟨rfl,rfl,rfl,rfl,zn _⟩
theorem ziq{e:TypeId}{l m:List UInt8}(h:l=m):some (Ow.ch e 1 l.length (l.map U8) true)=some (Ow.ch e 1 m.length (m.map U8) true):=by rw[h]
def zfrb(b:List UInt8)(l:Leaf):Nat->St
 |0=>{F:=[(0, .r (bs b)),(3, .own 0),(13, .own 1),(14, .r (I 3)),(15, .r (I 0))],O:=[(0,some (.box (l.c.map .r))),(1,some (.ch 28 1 3 [bs l.box,bs l.sign,bs l.ident] true))],nx:=2}
 |j+1=>{F:=[(0, .own 2),(3, .own 0),(13, .own 1),(14, .r (I 3)),(15, .r (I ((j+1:Nat):Int)))],O:=[(0,some (.box (l.c.map .r))),(1,some (.ch 28 1 3 [bs l.box,bs l.sign,bs l.ident] true)),
   (2,some (.ch 5 1 (b++([l.box,l.sign,l.ident].take (j+1)).flatMap vecB).length ((b++([l.box,l.sign,l.ident].take (j+1)).flatMap vecB).map U8) true))],nx:=3}
theorem z56(b:List UInt8)(l:Leaf)(hb:b.length<=1000000000)(hl:l.fit):zaf Tryz.prog 139 [bs b, .ag l.c] (bch (b++zdh l)):=by
 refine zac (T:=Tab) mixed Tab_ok Tryz.func139 rfl (by kernel_rfl) ?_
 obtain⟨h1,h2,h3,h4,h5⟩:=hl
 have v1:=zat l.box
 have v2:=zat l.sign
 have v3:=zat l.ident
 refine zx ?_
 refine zy (zfrb b l) (λj=>j<=3) (λj=>3-j) 0 (by omega) (zad [(0,0),(1,1)] rfl ⟨cr,rfl,rfl,cr,cr,trivial⟩ ⟨zab _,⟨rfl,rfl,rfl,rfl,zn _⟩,trivial⟩) ?_
 intro j hj
 rcases(by omega:j=0\/j=1\/j=2\/j=3)with rfl |rfl |rfl |rfl
 ·refine zu rfl (zq ?_)
  refine zm (by decide) (by decide) rfl (zg rfl ?_)
  refine ze (zd9 b l.box (by omega) (by omega)) ?_
  refine zd (m:=((1:Nat):Int)) rfl (by decide) ?_
  exact⟨1,by omega,by omega,zad [(0,0),(1,1),(2,2)] rfl ⟨rfl,rfl,rfl,cr,cr,trivial⟩ ⟨zab _,⟨rfl,rfl,rfl,rfl,zn _⟩,cvCh (by simp),trivial⟩⟩
 ·refine zu rfl (zq ?_)
  refine zm (by decide) (by decide) rfl (zg rfl ?_)
  refine ze (zd9 (b++([l.box,l.sign,l.ident].take 1).flatMap vecB) l.sign (by simp;omega) (by omega)) ?_
  refine zd (m:=((2:Nat):Int)) rfl (by decide) ?_
  exact⟨2,by omega,by omega,zad [(0,0),(1,1),(2,3)] rfl ⟨rfl,rfl,rfl,cr,cr,trivial⟩ ⟨zab _,⟨rfl,rfl,rfl,rfl,zn _⟩,cvCh (by simp),trivial⟩⟩
 ·refine zu rfl (zq ?_)
  refine zm (by decide) (by decide) rfl (zg rfl ?_)
  refine ze (zd9 (b++([l.box,l.sign,l.ident].take 2).flatMap vecB) l.ident (by simp;omega) (by omega)) ?_
  refine zd (m:=((3:Nat):Int)) rfl (by decide) ?_
  exact⟨3,by omega,by omega,zad [(0,0),(1,1),(2,3)] rfl ⟨rfl,rfl,rfl,cr,cr,trivial⟩ ⟨zab _,⟨rfl,rfl,rfl,rfl,zn _⟩,cvCh (by simp),trivial⟩⟩
 ·refine zw rfl (zt ?_)
  refine zx ?_
  refine Vapp.mk' (j:=(b++([l.box,l.sign,l.ident].take 3).flatMap vecB++[l.src]).length) (zs:=(b++([l.box,l.sign,l.ident].take 3).flatMap vecB++[l.src]).map U8) (by simp[maxLen];omega) (by simp;omega) (by simp;omega) (by simp[zb8,cellsOf]) ?_
  refine zh (λhs=>zq ?_) (λhs=>zt ?_)
  ·simp only[zb]at hs
   have hs':l.src.toNat=3:=by omega
   refine ze (zd9 (b++([l.box,l.sign,l.ident].take 3).flatMap vecB++[l.src]) l.parent (by simp;omega) (by omega)) ?_
   have e:b++([l.box,l.sign,l.ident].take 3).flatMap vecB++[l.src]++vecB l.parent=b++zdh l:=by simp[zdh,hs']
   exact ziq e
  ·simp only[zb]at hs
   have hs':l.src.toNat≠3:=by omega
   have e:b++([l.box,l.sign,l.ident].take 3).flatMap vecB++[l.src]=b++zdh l:=by simp[zdh,hs']
   exact ziq e
theorem zh0: ∀l:List Int,(zbq l).length=4*l.length
 |[]=>rfl
 |x::r=>by
  have:=zh0 r
  simp only[zbq,List.flatMap_cons,List.length_append,List.length_cons]at*
  rw[zaw,this];omega
def zgob(b:List UInt8)(p:Par):Nat->St
 |0=>{F:=[(0, .r (bs b)),(3, .own 0),(5, .r (bs [])),(9, .r (is p.late)),(10, .r (I p.late.length)),(11, .r (I ((0:Nat):Int)))],O:=[(0,some (.box (p.c.map .r)))],nx:=1}
 |j+1=>{F:=[(0, .r (bs b)),(3, .own 0),(5, .own 1),(9, .r (is p.late)),(10, .r (I p.late.length)),(11, .r (I ((j+1:Nat):Int)))],O:=[(0,some (.box (p.c.map .r))),
   (1,some (.ch 5 1 (zbq (p.late.take (j+1))).length ((zbq (p.late.take (j+1))).map U8) true))],nx:=2}
theorem zge(x:Int)(h:0<=x/\x<65536):IntKind.u64.wrap x=((x.toNat:Nat):Int):=by
 unfold IntKind.wrap
 simp only[IntKind.bits,IntKind.signed]
 simp
 omega
theorem z7c(b:List UInt8)(p:Par)(hb:b.length<=1000000000)(hp:p.fit)(hr: ∀x∈p.late,0<=x/\x<65536):zaf Tryz.prog 140 [bs b, .ag p.c] (bch (b++parB p)):=by
 refine zac (T:=Tab) mixed Tab_ok Tryz.func140 rfl (by kernel_rfl) ?_
 obtain⟨h1,h2,h3,_⟩:=hp
 have hll:=zh0 p.late
 refine zy (zgob b p) (λj=>j<=p.late.length) (λj=>p.late.length-j) 0 (by omega) (zad [(0,0)] rfl ⟨cr,rfl,Cv.nil _,cr,cr,cr,trivial⟩ ⟨zab _,trivial⟩) ?_
 have vd1:=zat p.box
 have vd2:=zat p.hash
 have hstep: ∀j (hj:j<p.late.length),zbq (p.late.take j)++beB 4 (p.late[j].toNat)=zbq (p.late.take (j+1)):=λj hj=>by
  rw[List.take_add_one,List.getElem?_eq_getElem hj]
  simp only[zbq,Option.toList,List.flatMap_append,List.flatMap_cons,List.flatMap_nil,List.append_nil]
 have hlen: ∀j,j<=p.late.length->(zbq (p.late.take j)).length=4*j:=λj hj=>by rw[zh0,List.length_take];omega
 intro j hj
 rcases j with _ |j
 ·refine zh (λh=>zq ?_) (λh=>zt ?_)
  ·simp only[zb]at h
   have hj':0<p.late.length:=by omega
   refine zm (by omega) (by omega) (zai rfl hj') (zg rfl ?_)
   refine⟨((p.late[0].toNat:Nat):Int),(zge _ (hr _ (List.getElem_mem hj'))).symm,?_⟩
   refine ze (zsv [] 4 p.late[0].toNat (by simp) (by omega)) ?_
   refine zd (m:=((0+1:Nat):Int)) (by omega) (by omega) ?_
   exact⟨0+1,hj',by omega,zad [(0,0),(1,1)] rfl ⟨cr,rfl,rfl,cr,cr,cr,trivial⟩ ⟨zab _,cvCh (hstep 0 hj'),trivial⟩⟩
  ·simp only[zb]at h
   have e:p.late=[]:=List.eq_nil_of_length_eq_zero (by omega)
   refine Vdraw.mk' (by kernel_rfl) ?_
   refine ze (zd9 b p.box (by omega) (by omega)) ?_
   refine ze (zd9 (b++vecB p.box) p.hash (by simp;omega) (by omega)) ?_
   refine ze (zd9 (b++vecB p.box++vecB p.hash) [] (by simp;omega) (by simp)) ?_
   exact ziq (by simp[parB,e,zbq])
 ·refine zh (λh=>zq ?_) (λh=>zt ?_)
  ·simp only[zb]at h
   have hj':j+1<p.late.length:=by omega
   refine zm (by omega) (by omega) (zai rfl hj') (zg rfl ?_)
   refine⟨((p.late[j+1].toNat:Nat):Int),(zge _ (hr _ (List.getElem_mem hj'))).symm,?_⟩
   refine ze (zsv (zbq (p.late.take (j+1))) 4 p.late[j+1].toNat (by rw[hlen _ hj];omega) (by omega)) ?_
   refine zd (m:=((j+1+1:Nat):Int)) (by omega) (by omega) ?_
   exact⟨j+1+1,hj',by omega,zad [(0,0),(1,2)] rfl ⟨cr,rfl,rfl,cr,cr,cr,trivial⟩ ⟨zab _,cvCh (hstep (j+1) hj'),trivial⟩⟩
  ·simp only[zb]at h
   have e:p.late.take (j+1)=p.late:=List.take_of_length_le (by omega)
   refine Vdraw.mk' (by kernel_rfl) ?_
   refine ze (zd9 b p.box (by omega) (by omega)) ?_
   refine ze (zd9 (b++vecB p.box) p.hash (by simp;omega) (by omega)) ?_
   refine ze (zd9 (b++vecB p.box++vecB p.hash) (zbq (p.late.take (j+1))) (by simp;omega) (by rw[e,hll];omega)) ?_
   exact ziq (by simp[parB,e])
theorem zzs: ∀(l:List Int) (a:Int), -1<=a->zfh a l=true->∀x∈l,0<=x/\x<65536
 |[],_,_,_=>λx hx=>by cases hx
 |y::r,a,ha,h=>λx hx=>by
  simp only[zfh,Bool.and_eq_true,decide_eq_true_eq]at h
  rcases List.mem_cons.1 hx with rfl |hx
  ·omega
  ·exact zzs r y (by omega) h.2 x hx
theorem Par.right_bd{p:Par}(h:p.right=true): ∀x∈p.late,0<=x/\x<65536:=by
 simp only[Par.right,Bool.and_eq_true]at h
 exact zzs _ _ (by omega) h.1
theorem Cv.tu{l m:List RV}(h:Cvs l m):Cv (.tu l) (.tu m):=λw k v hv=>by
 simp only[RV.at_]at*
 obtain⟨us,e,hp⟩:=hv
 exact⟨us,e,h.at_ hp⟩
theorem zop(n:Node)(hn:n.fit):zaf Tryz.prog 95 [.ag n.c] (.r (if n.right then .tu [bs (zaq n), .i .u8 0]else .tu [bs [], .i .u8 3])):=by
 refine zac (T:=Tab) mixed Tab_ok Tryz.func95 rfl (by kernel_rfl) ?_
 refine za rfl rfl ?_
 refine Vcall.bool (zbub n hn) (λhr=>?_) (λhr=>?_)
 ·refine zw rfl (zt ?_)
  refine zx ?_
  obtain⟨⟨l1,l2,l3,l4,l5⟩,hpf⟩:=hn
  have w1:=zat n.leaf.box
  have w2:=zat n.leaf.sign
  have w3:=zat n.leaf.ident
  have w4:=zat n.leaf.parent
  refine zh (λh1=>zq ?_) (λh1=>zt ?_)
  ·simp only[zb]at h1
   have h1':n.kind.toNat=1:=by omega
   have hk:n.kind=1:=UInt8.toNat_inj.1 h1'
   refine Vdraw.mk' (by kernel_rfl) ?_
   refine za rfl rfl ?_
   refine ze (z56 [n.kind] n.leaf (by simp) ⟨l1,l2,l3,l4,l5⟩) ?_
   have hlen:([n.kind]++zdh n.leaf).length<=1000000000000:=by
    simp only[zdh,List.length_append,List.length_cons,List.length_nil]
    split<;>simp<;>omega
   refine ze (zd9 ([n.kind]++zdh n.leaf) n.leaf.sig hlen (by omega)) ?_
   refine⟨_,rfl,zf ?_⟩
   rw[if_pos hr,zaq,if_pos h1',hk]
   rfl
  ·simp only[zb]at h1
   have h1':n.kind.toNat≠1:=by omega
   refine zh (λh2=>zq ?_) (λh2=>zt ?_)
   ·simp only[zb]at h2
    have h2':n.kind.toNat=2:=by omega
    have hk:n.kind=2:=UInt8.toNat_inj.1 h2'
    have hb: ∀x∈n.par.late,0<=x/\x<65536:=by
     have:n.par.right=true:=by
      have:=hr
      simp[Node.right,h2']at this
      exact this.2
     exact Par.right_bd this
    refine za rfl rfl ?_
    refine ze (z7c [n.kind] n.par (by simp) hpf hb) ?_
    refine⟨_,rfl,zf ?_⟩
    rw[if_pos hr,zaq,if_neg h1',if_pos h2',hk]
    rfl
   ·simp only[zb]at h2
    have h2':n.kind.toNat≠2:=by omega
    have h0:n.kind.toNat=0:=by
     have:=hr
     simp only[Node.right,if_neg h1',if_neg h2']at this
     split at this
     ·assumption
     ·cases this
    have hk:n.kind=0:=UInt8.toNat_inj.1 h0
    refine⟨_,rfl,zf ?_⟩
    rw[if_pos hr,zaq,if_neg h1',if_neg h2',hk]
    rfl
 ·refine zu rfl (zq ?_)
  refine⟨_,rfl,?_⟩
  rw[hr]
  exact Cv.tu (zk (Cv.nil 1) (zn _))
end Go.Proofs.YtpdllgbfemnemaaGreat.Sx
