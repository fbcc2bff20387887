import Derived.Test.YtpdllgbfemnemaaGreatZTg
namespace Go.Proofs.YtpdllgbfemnemaaGreat.Sx
open Go.RowKit
set_option linter.unusedVariables false
section
theorem za7b(pv:Value)(m n:Int):Acts Tryz.prog 180 1 [(0, .box [.r (I m)])] [.r (I n), .own 0] [(0,pv)] 1 [(0, .box [.r (I m)])] (.r (.b (decide (n=m)))):=by
 refine zam (T:=Tab) mixed Tab_ok Tryz.func180 rfl (by kernel_rfl) rfl ⟨⟨_,_,rfl,rfl,zap,zap⟩,trivial⟩ ?_
 refine Vcmp.mk' (m:=decide (n=m)) (by rw[Bool.eq_iff_iff];simp only[zb]) ?_
 exact zah (.inl rfl) [(0,0)] [(3, .r (.b (decide (n=m))))] [] rfl ⟨cr,⟨rfl,rfl⟩,trivial⟩ ⟨⟨_,_,rfl,cr,rfl⟩,trivial⟩ ⟨⟨1000000,rfl⟩,trivial⟩ (cr)
theorem zabb(pv m1 m2:Value)(leaves own n:Int):Acts Tryz.prog 181 1 [(0, .box [.r (I leaves), .r (I own), .r (.x m1), .r (.x m2)])] [.r (I n), .own 0] [(0,pv)] 1 [(0, .box [.r (I leaves), .r (I own), .r (.x m1), .r (.x m2)])] (.r (.b (decide (n<leaves)))):=by
 refine zam (T:=Tab) mixed Tab_ok Tryz.func181 rfl (by kernel_rfl) rfl ⟨⟨_,_,rfl,rfl,zap,zap⟩,trivial⟩ ?_
 refine Vcmp.mk' (m:=decide (n<leaves)) (by rw[Bool.eq_iff_iff]) ?_
 exact zah (.inl rfl) [(0,0)] [(3, .r (.b (decide (n<leaves))))] [] rfl ⟨cr,⟨rfl,rfl⟩,trivial⟩ ⟨⟨_,_,rfl,cr,_,_,rfl,cr,_,_,rfl,cr,_,_,rfl,cr,rfl⟩,trivial⟩ ⟨⟨1000000,rfl⟩,trivial⟩ (cr)
def numP(size:Nat)(q:Nat->Bool)(l:List UInt8):PR Nat:=if l.length<size then .err 4 else if q (numA 0 (l.take size))then .ok (numA 0 (l.take size)) (l.drop size)else .err 3
def z04(p:PR Nat)(O:List (Nat×Ow))(O1:List (Nat×Ow))(n e:Nat):Prop:=match p with
 | .err e'=>O1=(0, .box [.r .any, .r .any])::O/\n=0/\e=e'
 | .ok m r=>O1=(0,rdO (bs r) 0)::O/\n=m/\e=0
theorem z5s{size:Nat}(h:size=1\/size=4)(l:List UInt8):numA 0 (l.take size)<4294967296:=by
 have h1:=zia (l.take size) 0 1 (by omega)
 have h2:(256:Nat)^(l.take size).length<=256^4:=Nat.pow_le_pow_right (by omega) (by rw[List.length_take];omega)
 have:(256:Nat)^4=4294967296:=by decide
 omega
theorem zna(v pv:Value)(mk:Int)(size:Nat)(hs:size=1\/size=4)(l:List UInt8)(hl:l.length<=100000000)
  (O1:List (Nat×Ow)) (n e:Nat) (h:z04 (numP size (λn=>decide ((n:Int)=mk)) l) [(1, .box ([.r (I mk)]))] O1 n e):
  Acts Tryz.prog 179 2 [(0,rdO (bs l) 0),(1, .box ([.r (I mk)]))] [.own 0, .r (I size), .r (.x (.func (.func 180) #[] #[pv]))] [(0,v),(1,pv)] 2 O1 (.r (.tu [I n,Er e])):=by
 refine zam (T:=Tab) mixed Tab_ok Tryz.func179 rfl (by kernel_rfl) rfl ?_ ?_
 ·cases hp:numP size (λn=>decide ((n:Int)=mk)) l with
  |err e'=>rw[hp]at h;obtain⟨rfl,_⟩:=h;exact⟨⟨_,_,rfl,rfl,zap,zap⟩,⟨_,_,rfl,rfl,zap,zap⟩,trivial⟩
  |ok m r=>rw[hp]at h;obtain⟨rfl,_⟩:=h;exact⟨⟨_,_,rfl,rfl,zap,zap⟩,⟨_,_,rfl,rfl,zap,zap⟩,trivial⟩
 unfold numP at h
 by_cases hlt:l.length<size
 ·rw[if_pos hlt]at h
  obtain⟨rfl,rfl,rfl⟩:=h
  refine zj [(0,0)] [0] (λvs _=>zik (vs 0) l size (by omega) hlt) (zi rfl ⟨_,_,rfl,rfl,_,_,rfl,cr,rfl⟩) rfl ⟨⟨_,_,rfl,cr,_,_,rfl,cr,rfl⟩,trivial⟩ ⟨zaa,trivial⟩ ?_
  refine zd (m:=0) rfl (by omega) ?_
  refine zj [(0,0)] [0] (λvs _=>zcy (vs 0) 4) (zi rfl ⟨_,_,rfl,rfl,rfl⟩) rfl ⟨⟨_,_,rfl,trivial,_,_,rfl,cr,rfl⟩,trivial⟩ ⟨zaa,trivial⟩ ?_
  refine zu rfl (zq ?_)
  exact zah (.inl rfl) [(0,0),(1,1)] [(6, .r (I 0)),(7, .r (Er 4))] [] rfl ⟨cr,cr,⟨rfl,rfl⟩,⟨rfl,rfl⟩,trivial⟩ ⟨⟨_,_,rfl,trivial,_,_,rfl,trivial,rfl⟩,⟨_,_,rfl,cr,rfl⟩,trivial⟩ ⟨⟨1000000,rfl⟩,⟨1000001,rfl⟩,trivial⟩ ⟨_,rfl,cr⟩
 rw[if_neg hlt]at h
 have hb:=z5s hs l
 obtain⟨m,hm⟩: ∃m,m=numA 0 (l.take size):=⟨_,rfl⟩
 rw[<-hm]at h hb
 refine zj [(0,0)] [0] (λvs _=>zno (vs 0) l size (by omega) (by omega)) (zi rfl ⟨_,_,rfl,rfl,_,_,rfl,cr,rfl⟩) rfl ⟨⟨_,_,rfl,cr,_,_,rfl,cr,rfl⟩,trivial⟩ ⟨zaa,trivial⟩ ?_
 rw[<-hm]
 refine zd (m:=((m:Nat):Int)) rfl (by omega) ?_
 refine zj [(0,0)] [0] (λvs _=>zfn (vs 0) (l.drop size)) (zi rfl ⟨_,_,rfl,rfl,rfl⟩) rfl ⟨⟨_,_,rfl,cr,_,_,rfl,cr,rfl⟩,trivial⟩ ⟨zaa,trivial⟩ ?_
 refine zw rfl (zt ?_)
 refine zj [(0,1)] [0] (λvs _=>za7b (vs 0) mk (m:Int)) (Handed.clo (fs:=[.r (I m)]) (cs:=[.own 0]) rfl rfl ⟨_,_,rfl,cr,rfl⟩ ⟨_,_,rfl,⟨1,1000001,rfl,rfl⟩,rfl⟩) rfl ⟨⟨_,_,rfl,cr,rfl⟩,trivial⟩ ⟨zaa,trivial⟩ ?_
 simp only at h
 cases hq:(λn=>decide ((n:Int)=mk)) m with
 |true=>
  simp only at hq
  rw[hq]
  rw[if_pos hq]at h
  obtain⟨rfl,rfl,rfl⟩:=h
  refine zw rfl (zt ?_)
  exact zah (.inl rfl) [(0,0),(1,1)] [(6, .r (I _)),(7, .r (Er 0))] [] rfl ⟨cr,cr,⟨rfl,rfl⟩,⟨rfl,rfl⟩,trivial⟩ ⟨⟨_,_,rfl,cr,_,_,rfl,cr,rfl⟩,⟨_,_,rfl,cr,rfl⟩,trivial⟩ ⟨⟨1000000,rfl⟩,⟨1000001,rfl⟩,trivial⟩ ⟨_,rfl,cr⟩
 |false=>
  simp only at hq
  rw[hq]
  rw[if_neg (by rw[hq];simp)]at h
  obtain⟨rfl,rfl,rfl⟩:=h
  refine zu rfl (zq ?_)
  exact zah (.inl rfl) [(0,0),(1,1)] [(6, .r (I 0)),(7, .r (Er 3))] [] rfl ⟨cr,cr,⟨rfl,rfl⟩,⟨rfl,rfl⟩,trivial⟩ ⟨⟨_,_,rfl,trivial,_,_,rfl,trivial,rfl⟩,⟨_,_,rfl,cr,rfl⟩,trivial⟩ ⟨⟨1000000,rfl⟩,⟨1000001,rfl⟩,trivial⟩ ⟨_,rfl,cr⟩
theorem zl7(v pv:Value)(leaves own:Int)(m1 m2:Value)(size:Nat)(hs:size=1\/size=4)(l:List UInt8)(hl:l.length<=100000000)
  (O1:List (Nat×Ow)) (n e:Nat) (h:z04 (numP size (λn=>decide ((n:Int)<leaves)) l) [(1, .box ([.r (I leaves), .r (I own), .r (.x m1), .r (.x m2)]))] O1 n e):
  Acts Tryz.prog 179 2 [(0,rdO (bs l) 0),(1, .box ([.r (I leaves), .r (I own), .r (.x m1), .r (.x m2)]))] [.own 0, .r (I size), .r (.x (.func (.func 181) #[] #[pv]))] [(0,v),(1,pv)] 2 O1 (.r (.tu [I n,Er e])):=by
 refine zam (T:=Tab) mixed Tab_ok Tryz.func179 rfl (by kernel_rfl) rfl ?_ ?_
 ·cases hp:numP size (λn=>decide ((n:Int)<leaves)) l with
  |err e'=>rw[hp]at h;obtain⟨rfl,_⟩:=h;exact⟨⟨_,_,rfl,rfl,zap,zap⟩,⟨_,_,rfl,rfl,zap,zap⟩,trivial⟩
  |ok m r=>rw[hp]at h;obtain⟨rfl,_⟩:=h;exact⟨⟨_,_,rfl,rfl,zap,zap⟩,⟨_,_,rfl,rfl,zap,zap⟩,trivial⟩
 unfold numP at h
 by_cases hlt:l.length<size
 ·rw[if_pos hlt]at h
  obtain⟨rfl,rfl,rfl⟩:=h
  refine zj [(0,0)] [0] (λvs _=>zik (vs 0) l size (by omega) hlt) (zi rfl ⟨_,_,rfl,rfl,_,_,rfl,cr,rfl⟩) rfl ⟨⟨_,_,rfl,cr,_,_,rfl,cr,rfl⟩,trivial⟩ ⟨zaa,trivial⟩ ?_
  refine zd (m:=0) rfl (by omega) ?_
  refine zj [(0,0)] [0] (λvs _=>zcy (vs 0) 4) (zi rfl ⟨_,_,rfl,rfl,rfl⟩) rfl ⟨⟨_,_,rfl,trivial,_,_,rfl,cr,rfl⟩,trivial⟩ ⟨zaa,trivial⟩ ?_
  refine zu rfl (zq ?_)
  exact zah (.inl rfl) [(0,0),(1,1)] [(6, .r (I 0)),(7, .r (Er 4))] [] rfl ⟨cr,cr,⟨rfl,rfl⟩,⟨rfl,rfl⟩,trivial⟩ ⟨⟨_,_,rfl,trivial,_,_,rfl,trivial,rfl⟩,⟨_,_,rfl,cr,_,_,rfl,cr,_,_,rfl,cr,_,_,rfl,cr,rfl⟩,trivial⟩ ⟨⟨1000000,rfl⟩,⟨1000001,rfl⟩,trivial⟩ ⟨_,rfl,cr⟩
 rw[if_neg hlt]at h
 have hb:=z5s hs l
 obtain⟨m,hm⟩: ∃m,m=numA 0 (l.take size):=⟨_,rfl⟩
 rw[<-hm]at h hb
 refine zj [(0,0)] [0] (λvs _=>zno (vs 0) l size (by omega) (by omega)) (zi rfl ⟨_,_,rfl,rfl,_,_,rfl,cr,rfl⟩) rfl ⟨⟨_,_,rfl,cr,_,_,rfl,cr,rfl⟩,trivial⟩ ⟨zaa,trivial⟩ ?_
 rw[<-hm]
 refine zd (m:=((m:Nat):Int)) rfl (by omega) ?_
 refine zj [(0,0)] [0] (λvs _=>zfn (vs 0) (l.drop size)) (zi rfl ⟨_,_,rfl,rfl,rfl⟩) rfl ⟨⟨_,_,rfl,cr,_,_,rfl,cr,rfl⟩,trivial⟩ ⟨zaa,trivial⟩ ?_
 refine zw rfl (zt ?_)
 refine zj [(0,1)] [0] (λvs _=>zabb (vs 0) m1 m2 leaves own (m:Int)) (Handed.clo (fs:=[.r (I m)]) (cs:=[.own 0]) rfl rfl ⟨_,_,rfl,cr,rfl⟩ ⟨_,_,rfl,⟨1,1000001,rfl,rfl⟩,rfl⟩) rfl ⟨⟨_,_,rfl,cr,_,_,rfl,cr,_,_,rfl,cr,_,_,rfl,cr,rfl⟩,trivial⟩ ⟨zaa,trivial⟩ ?_
 simp only at h
 cases hq:(λn=>decide ((n:Int)<leaves)) m with
 |true=>
  simp only at hq
  rw[hq]
  rw[if_pos hq]at h
  obtain⟨rfl,rfl,rfl⟩:=h
  refine zw rfl (zt ?_)
  exact zah (.inl rfl) [(0,0),(1,1)] [(6, .r (I _)),(7, .r (Er 0))] [] rfl ⟨cr,cr,⟨rfl,rfl⟩,⟨rfl,rfl⟩,trivial⟩ ⟨⟨_,_,rfl,cr,_,_,rfl,cr,rfl⟩,⟨_,_,rfl,cr,_,_,rfl,cr,_,_,rfl,cr,_,_,rfl,cr,rfl⟩,trivial⟩ ⟨⟨1000000,rfl⟩,⟨1000001,rfl⟩,trivial⟩ ⟨_,rfl,cr⟩
 |false=>
  simp only at hq
  rw[hq]
  rw[if_neg (by rw[hq];simp)]at h
  obtain⟨rfl,rfl,rfl⟩:=h
  refine zu rfl (zq ?_)
  exact zah (.inl rfl) [(0,0),(1,1)] [(6, .r (I 0)),(7, .r (Er 3))] [] rfl ⟨cr,cr,⟨rfl,rfl⟩,⟨rfl,rfl⟩,trivial⟩ ⟨⟨_,_,rfl,trivial,_,_,rfl,trivial,rfl⟩,⟨_,_,rfl,cr,_,_,rfl,cr,_,_,rfl,cr,_,_,rfl,cr,rfl⟩,trivial⟩ ⟨⟨1000000,rfl⟩,⟨1000001,rfl⟩,trivial⟩ ⟨_,rfl,cr⟩
theorem znc(v:Value)(l:List UInt8)(hl:l.length<=100000000)(O1:List (Nat×Ow))(n e:Nat)(h:z04 (numP 4 (λn=>za0 n) l) [] O1 n e):
  Acts Tryz.prog 179 1 [(0,rdO (bs l) 0)] [.own 0, .r (I 4), .r (.x (.func (.func 54) #[] #[]))] [(0,v)] 1 O1 (.r (.tu [I n,Er e])):=by
 refine zam (T:=Tab) mixed Tab_ok Tryz.func179 rfl (by kernel_rfl) rfl ?_ ?_
 ·cases hp:numP 4 (λn=>za0 n) l with
  |err e'=>rw[hp]at h;obtain⟨rfl,_⟩:=h;exact⟨⟨_,_,rfl,rfl,zap,zap⟩,trivial⟩
  |ok m r=>rw[hp]at h;obtain⟨rfl,_⟩:=h;exact⟨⟨_,_,rfl,rfl,zap,zap⟩,trivial⟩
 unfold numP at h
 by_cases hlt:l.length<4
 ·rw[if_pos hlt]at h
  obtain⟨rfl,rfl,rfl⟩:=h
  refine zj [(0,0)] [0] (λvs _=>zik (vs 0) l 4 (by omega) hlt) (zi rfl ⟨_,_,rfl,rfl,_,_,rfl,cr,rfl⟩) rfl ⟨⟨_,_,rfl,cr,_,_,rfl,cr,rfl⟩,trivial⟩ ⟨zaa,trivial⟩ ?_
  refine zd (m:=0) rfl (by omega) ?_
  refine zj [(0,0)] [0] (λvs _=>zcy (vs 0) 4) (zi rfl ⟨_,_,rfl,rfl,rfl⟩) rfl ⟨⟨_,_,rfl,trivial,_,_,rfl,cr,rfl⟩,trivial⟩ ⟨zaa,trivial⟩ ?_
  refine zu rfl (zq ?_)
  exact zah (.inl rfl) [(0,0)] [(6, .r (I 0)),(7, .r (Er 4))] [] rfl ⟨cr,cr,⟨rfl,rfl⟩,trivial⟩ ⟨⟨_,_,rfl,trivial,_,_,rfl,trivial,rfl⟩,trivial⟩ ⟨⟨1000000,rfl⟩,trivial⟩ ⟨_,rfl,cr⟩
 rw[if_neg hlt]at h
 have hb:=z5s (.inr rfl) l
 obtain⟨m,hm⟩: ∃m,m=numA 0 (l.take 4):=⟨_,rfl⟩
 rw[<-hm]at h hb
 refine zj [(0,0)] [0] (λvs _=>zno (vs 0) l 4 (by omega) (by omega)) (zi rfl ⟨_,_,rfl,rfl,_,_,rfl,cr,rfl⟩) rfl ⟨⟨_,_,rfl,cr,_,_,rfl,cr,rfl⟩,trivial⟩ ⟨zaa,trivial⟩ ?_
 rw[<-hm]
 refine zd (m:=((m:Nat):Int)) rfl (by omega) ?_
 refine zj [(0,0)] [0] (λvs _=>zfn (vs 0) (l.drop 4)) (zi rfl ⟨_,_,rfl,rfl,rfl⟩) rfl ⟨⟨_,_,rfl,cr,_,_,rfl,cr,rfl⟩,trivial⟩ ⟨zaa,trivial⟩ ?_
 refine zw rfl (zt ?_)
 refine zj [] [] (λvs _=>zyl (zpi (m:Int))) (Handed.clo (fs:=[.r (I m)]) (cs:=[]) rfl rfl ⟨_,_,rfl,cr,rfl⟩ rfl) rfl trivial trivial ?_
 simp only at h
 cases hq:za0 (m:Int)with
 |true=>
  rw[if_pos hq]at h
  obtain⟨rfl,rfl,rfl⟩:=h
  refine zw rfl (zt ?_)
  exact zah (.inl rfl) [(0,0)] [(6, .r (I _)),(7, .r (Er 0))] [] rfl ⟨cr,cr,⟨rfl,rfl⟩,trivial⟩ ⟨⟨_,_,rfl,cr,_,_,rfl,cr,rfl⟩,trivial⟩ ⟨⟨1000000,rfl⟩,trivial⟩ ⟨_,rfl,cr⟩
 |false=>
  rw[if_neg (by rw[hq];simp)]at h
  obtain⟨rfl,rfl,rfl⟩:=h
  refine zu rfl (zq ?_)
  exact zah (.inl rfl) [(0,0)] [(6, .r (I 0)),(7, .r (Er 3))] [] rfl ⟨cr,cr,⟨rfl,rfl⟩,trivial⟩ ⟨⟨_,_,rfl,trivial,_,_,rfl,trivial,rfl⟩,trivial⟩ ⟨⟨1000000,rfl⟩,trivial⟩ ⟨_,rfl,cr⟩
end
section
theorem z90(u x:Int)(hu:za6 u):zaf Tryz.prog 217 [I u, .ptr [I x]] (.r (.b (!zal (2*u) x))):=by
 refine zac (T:=Tab) mixed Tab_ok Tryz.func217 rfl (by kernel_rfl) ?_
 unfold za6 at hu
 refine zd rfl (by omega) ?_
 refine zg rfl ?_
 refine ze (zi9 (2*u) x) ?_
 exact Vcmp.mk' rfl (cr)
theorem zdub(u x:Int)(hu:za6 u):zaf Tryz.prog 235 [I u, .ptr [I x]] (.r (.b (zal (2*u) x))):=by
 refine zac (T:=Tab) mixed Tab_ok Tryz.func235 rfl (by kernel_rfl) ?_
 unfold za6 at hu
 refine zd rfl (by omega) ?_
 refine zg rfl ?_
 refine ze (zi9 (2*u) x) ?_
 exact cr
theorem z8i(l:List Int)(x:Int)(hl:l.length<=1000000000)(hd: ∀u∈l,za6 u):zaf Tryz.prog 219 [is l,I x] (.r (.b (l.any λu=>zal (2*u) x))):=by
 refine zac (T:=Tab) mixed Tab_ok Tryz.func219 rfl (by kernel_rfl) ?_
 refine Vstep.sub (ze4 (t:=3) [I x] rfl rfl) (Vstep.mkfun I za6 _ rfl rfl (λu hu=>zdub u x hu) ?_)
 refine ze (zc3 l za6 _ hl hd) ?_
 exact cr
theorem zacb(x:Int)(n:Node)(hn:n.fit):zaf Tryz.prog 203 [I x, .ag n.c] (.r (.b (za2 x n))):=by
 refine zac (T:=Tab) mixed Tab_ok Tryz.func203 rfl (by kernel_rfl) ?_
 refine za rfl rfl ?_
 refine ze (zop n hn) ?_
 have clo:=λ(u:Int) (hu:za6 u)=>z90 u x hu
 cases hr:n.right with
 |false=>
  refine⟨by decide,_,rfl,?_⟩
  refine zh (λh=>zq ?_) (λh=>zt ?_)
  ·refine zw rfl ?_
   exact zf (congrArg RV.b (by simp[za2,hr]))
  ·refine zw rfl ?_
   exact zf (congrArg RV.b (by simp[za2,hr]))
 |true=>
  have hlate:=Node.right_late hr
  have hll:n.par.late.length<=1000000000:=by have:=hn.2.2.2.1;omega
  have fin: ∀{β:Bool},β=n.par.late.any (λu=> !zal (2*u) x)->n.kind.toNat≠zco x->(!β)=za2 x n:=λhb hk=>by
   subst hb
   rw[z3a]
   simp[za2,hr,hk]
  refine⟨by decide,_,rfl,?_⟩
  refine zh (λh=>zq ?_) (λh=>zt ?_)
  ·simp only[zb]at h
   refine zu rfl ?_
   refine zh (λh2=>?_) (λh2=>?_)
   ·simp only[zb]at h2
    refine Vstep.sub (ze4 (t:=2) [I x] rfl rfl) (Vstep.mkfun I za6 _ rfl rfl clo ?_)
    refine ze (zc3 n.par.late za6 _ hll hlate) ?_
    exact Vcmp.mk' rfl (zf (congrArg RV.b (fin rfl (by simp[zco,h];omega))))
   ·simp only[zb]at h2
    refine zf (congrArg RV.b ?_)
    have:n.kind.toNat=zco x:=by simp[zco,h];omega
    simp[za2,this]
  ·simp only[zb]at h
   refine zu rfl ?_
   refine zh (λh2=>?_) (λh2=>?_)
   ·simp only[zb]at h2
    refine Vstep.sub (ze4 (t:=2) [I x] rfl rfl) (Vstep.mkfun I za6 _ rfl rfl clo ?_)
    refine ze (zc3 n.par.late za6 _ hll hlate) ?_
    exact Vcmp.mk' rfl (zf (congrArg RV.b (fin rfl (by simp[zco,h];omega))))
   ·simp only[zb]at h2
    refine zf (congrArg RV.b ?_)
    have:n.kind.toNat=zco x:=by simp[zco,h];omega
    simp[za2,this]
def zif(O:List Spot)(x:Int):Node:=(zae O x).getD Node.zero
abbrev pbox(leaves own:Int)(O:List Spot)(H:List Stub):Ow:= .box [.r (I leaves), .r (I own), .r (.s (mapS (za5 O))), .r (.s (mapS (zba H)))]
theorem g_at(pv:Value)(leaves own:Int)(O:List Spot)(H:List Stub)(x:Int):Acts Tryz.prog 205 1 [(0,pbox leaves own O H)] [.r (I x), .own 0] [(0,pv)] 2 [(0,pbox leaves own O H)] (.r (.tu [.ag (zif O x).c, .b (found O x)])):=by
 refine zam (T:=Tab) mixed Tab_ok Tryz.func205 rfl (by kernel_rfl) rfl ⟨⟨_,_,rfl,rfl,zap,zap⟩,trivial⟩ ?_
 refine Vstep.node2 rfl rfl rfl (λm hm=>?_) (λhm=>?_)
 ·refine za rfl rfl ?_
  have e1:zif O x=m:=by unfold zif;rw[hm];rfl
  have e2:found O x=true:=by unfold found;rw[hm];rfl
  rw[e1,e2]
  exact zah (.inl rfl) [(0,0),(1,1)] [(3, .own 1),(4, .r (.b true))] [(1,some (.box (m.c.map .r)))] rfl ⟨rfl,cr,⟨rfl,rfl⟩,trivial⟩ ⟨⟨_,_,rfl,cr,_,_,rfl,cr,_,_,rfl,cr,_,_,rfl,cr,rfl⟩,⟨_,_,rfl,cr,_,_,rfl,cr,_,_,rfl,cr,_,_,rfl,cr,_,_,rfl,cr,_,_,rfl,cr,_,_,rfl,cr,_,_,rfl,cr,_,_,rfl,cr,_,_,rfl,cr,rfl⟩,trivial⟩ ⟨⟨1000000,rfl⟩,trivial⟩ (za rfl rfl ⟨_,rfl,cr⟩)
 ·refine za rfl rfl ?_
  have e1:zif O x=Node.zero:=by unfold zif;rw[hm];rfl
  have e2:found O x=false:=by unfold found;rw[hm];rfl
  rw[e1,e2]
  exact zah (.inl rfl) [(0,0),(1,1)] [(3, .own 1),(4, .r (.b false))] [(1,some (.box (zc.map .r)))] rfl ⟨rfl,cr,⟨rfl,rfl⟩,trivial⟩ ⟨⟨_,_,rfl,cr,_,_,rfl,cr,_,_,rfl,cr,_,_,rfl,cr,rfl⟩,⟨_,_,rfl,cr,_,_,rfl,cr,_,_,rfl,cr,_,_,rfl,cr,_,_,rfl,cr,_,_,rfl,cr,_,_,rfl,cr,_,_,rfl,cr,_,_,rfl,cr,_,_,rfl,cr,rfl⟩,trivial⟩ ⟨⟨1000000,rfl⟩,trivial⟩ (za rfl rfl ⟨_,rfl,Cv.tu (zk zg4 (zn _))⟩)
end
section
abbrev V3:=List Int×List Int×Bool
def kidV(p:Nat->Nat->List Int->V3)(i:Int)(only:Bool)(h how:Nat)(n:Node)(late:List Int)(j:Nat):V3:=
 if how=0/\zal (2*i) (nd h j)=true then p j 0 []
 else if how=0/\only=true then([],[(nd h j:Int)],true)
 else if how=0\/(how=1/\n.kind.toNat=0)then p j 1 []
 else if late.any (λu=>zal (2*u) (nd h j))=true then p j 2 late
 else([],[(nd h j:Int)],true)
def visV(O:List Spot)(i:Int)(only:Bool):Nat->Nat->Nat->List Int->V3
 |0,k,_,_=>match zae O (nd 0 k)with
  |none=>([],[],false)
  |some _=>([(nd 0 k:Int)],[],true)
 |h+1,k,how,late=>match zae O (nd (h+1) k)with
  |none=>([],[],false)
  |some n=>
   let a:=kidV (λj w l=>visV O i only h j w l) i only h how n (if how=1 then n.par.late else late) (2*k)
   let b:=kidV (λj w l=>visV O i only h j w l) i only h how n (if how=1 then n.par.late else late) (2*k+1)
   (a.1++[(nd (h+1) k:Int)]++b.1,a.2.1++b.2.1,a.2.2&&b.2.2)
theorem zn3{p:Nat->Nat->List Int->V3}{b:Nat}(hb:1<=b)(hp: ∀j w l,(p j w l).1.length<=b/\(p j w l).2.1.length<=b)(i:Int)(only:Bool)(h how:Nat)(n:Node)(late:List Int)(j:Nat):(kidV p i only h how n late j).1.length<=b/\(kidV p i only h how n late j).2.1.length<=b:=by
 unfold kidV
 split
 ·exact hp _ _ _
 ·split
  ·exact⟨by simp,by simpa using hb⟩
  ·split
   ·exact hp _ _ _
   ·split
    ·exact hp _ _ _
    ·exact⟨by simp,by simpa using hb⟩
theorem zn5(O:List Spot)(i:Int)(only:Bool): ∀(h k how:Nat) (late:List Int),(visV O i only h k how late).1.length<=2^(h+1)-1/\(visV O i only h k how late).2.1.length<=2^(h+1)-1
 |0,k,how,late=>by
  simp only[visV]
  split<;>simp
 |h+1,k,how,late=>by
  simp only[visV]
  have hp:0<2^(h+1):=Nat.pow_pos (by omega)
  have e:2^(h+1+1)=2*2^(h+1):=by rw[Nat.pow_succ 2 (h+1)];omega
  split
  ·simp
  ·rename_i n _
   have h2:2<=2^(h+1):=by rw[Nat.pow_succ];have:0<2^h:=Nat.pow_pos (by omega);omega
   have key: ∀q:Nat->Nat->List Int->V3,(∀j w l,(q j w l).1.length<=2^(h+1)-1/\(q j w l).2.1.length<=2^(h+1)-1)->
     ((kidV q i only h how n (if how=1 then n.par.late else late) (2*k)).1++[(nd (h+1) k:Int)]++(kidV q i only h how n (if how=1 then n.par.late else late) (2*k+1)).1).length<=2^(h+1+1)-1/\
     ((kidV q i only h how n (if how=1 then n.par.late else late) (2*k)).2.1++(kidV q i only h how n (if how=1 then n.par.late else late) (2*k+1)).2.1).length<=2^(h+1+1)-1:=λq hq=>by
    have a:=zn3 (b:=2^(h+1)-1) (by omega) hq i only h how n (if how=1 then n.par.late else late) (2*k)
    have b:=zn3 (b:=2^(h+1)-1) (by omega) hq i only h how n (if how=1 then n.par.late else late) (2*k+1)
    simp only[List.length_append,List.length_cons,List.length_nil]
    omega
   exact key _ λj w l=>zn5 O i only h j w l
structure VC where
 leaves:Int
 own:Int
 O:List Spot
 H:List Stub
 i:Int
 only:Bool
 p0:Value
 p1:Value
 p2:Value
 p3:Value
 p4:Value
 p5:Value
 p6:Value
 p7:Value
 p8:Value
def VC.fat(c:VC):Value:= .func (.func 205) #[] #[c.p0]
def VC.vis(c:VC):Value:= .func (.func 220) #[] #[c.p3,c.p6,c.p8,c.p4]
def VC.chi(c:VC):Value:= .func (.func 218) #[] #[c.p1,c.p7,c.p2,c.p5]
def VC.mem(c:VC)(A B:List Int)(ok:Bool):List (Nat×Ow):=
 [(0,pbox c.leaves c.own c.O c.H),(1, .box [.r (I c.i)]),(2, .box [.r (.b c.only)]),(3, .box [.r (.x c.fat)]),(4, .box [.own 9]),(5, .box [.own 10]),(6, .box [.r (.b ok)]),(7, .box [.r (.x c.vis)]),(8, .box [.r (.x c.chi)]),
 (9, .ch 3 1 A.length (A.map I) false),(10, .ch 3 1 B.length (B.map I) false)]
def VC.nms(c:VC):List (Nat×Value):=[(0,c.p0),(1,c.p1),(2,c.p2),(3,c.p3),(4,c.p4),(5,c.p5),(6,c.p6),(7,c.p7),(8,c.p8)]
theorem VC.same(c:VC)(A B A' B':List Int)(ok ok':Bool):zkl (c.mem A B ok) (c.mem A' B' ok') c.nms:=
 ⟨⟨_,_,rfl,rfl,zap,zap⟩,⟨_,_,rfl,rfl,zap,zap⟩,⟨_,_,rfl,rfl,zap,zap⟩,⟨_,_,rfl,rfl,zap,zap⟩,⟨_,_,rfl,rfl,zap,zap⟩,⟨_,_,rfl,rfl,zap,zap⟩,⟨_,_,rfl,rfl,zap,zap⟩,⟨_,_,rfl,rfl,zap,zap⟩,⟨_,_,rfl,rfl,zap,zap⟩,trivial⟩
def VC.Vis(c:VC)(h:Nat):Prop:=∀(k how:Nat) (late:List Int) (A B:List Int) (ok:Bool),k<2^(16-h)->late.length<=100000000->(∀u∈late,za6 u)->A.length+2^(h+1)<=1000000->B.length+2^(h+1)<=1000000->
 Acts Tryz.prog 220 11 (c.mem A B ok) [.r (I (nd h k)), .r (I how), .r (is late), .own 3, .own 6, .own 8, .own 4] c.nms 11
  (c.mem (A++(visV c.O c.i c.only h k how late).1) (B++(visV c.O c.i c.only h k how late).2.1) (ok&&(visV c.O c.i c.only h k how late).2.2)) (.r (.tu []))
set_option maxHeartbeats 4000000 in
theorem VC.child(c:VC)(hi0:0<=c.i/\c.i<65536)(h:Nat)(hh:h<=16)(ih:c.Vis h)(j how:Nat)(n:Node)(late:List Int)(A B:List Int)(ok:Bool)(hj:j<2^(16-h))(hl:late.length<=100000000)(hd: ∀u∈late,za6 u)(hA:A.length+2^(h+1)<=1000000)(hB:B.length+2^(h+1)<=1000000)(r:V3)
  (hr:r=kidV (λj w l=>visV c.O c.i c.only h j w l) c.i c.only h how n late j):
  Acts Tryz.prog 218 11 (c.mem A B ok) [.r (I (nd h j)), .r (I how), .r (.ag n.c), .r (is late), .own 1, .own 7, .own 2, .own 5] c.nms 11 (c.mem (A++r.1) (B++r.2.1) (ok&&r.2.2)) (.r (.tu [])):=by
 refine zam (T:=Tab) mixed Tab_ok Tryz.func218 rfl (by kernel_rfl) rfl (c.same _ _ _ _ _ _) ?_
 have hp:2<=2^(h+1):=by rw[Nat.pow_succ];have:0<2^h:=Nat.pow_pos (by omega);omega
 have hkc:=n.kind.toNat_lt
 unfold kidV at hr
 by_cases h0:how=0
 ·subst h0
  refine zu rfl ?_
  refine zd (m:=2*c.i) rfl (by omega) ?_
  refine ze (zi9 (2*c.i) (nd h j)) ?_
  cases hu:zal (2*c.i) (nd h j)with
  |true=>
   rw[if_pos ⟨rfl,hu⟩]at hr
   subst hr
   refine zq ?_
   refine zj [(0,0),(1,1),(2,2),(3,3),(4,4),(5,5),(6,6),(7,7),(8,8),(9,9),(10,10)] [0,1,2,3,4,5,6,7,8] (λvs hv=>zbu (by simp only[List.map];rw[hv 0 0 1000000 _ rfl rfl,hv 1 1 1000001 _ rfl rfl,hv 2 2 1000002 _ rfl rfl,hv 3 3 1000003 _ rfl rfl,hv 4 4 1000004 _ rfl rfl,hv 5 5 1000005 _ rfl rfl,hv 6 6 1000006 _ rfl rfl,hv 7 7 1000007 _ rfl rfl,hv 8 8 1000008 _ rfl rfl];rfl) (ih j 0 [] A B ok (by omega) (by simp) (by simp) (by omega) (by omega))) (Handed.clo (fs:=[.r (I _), .r (I _), .r (is [])]) (cs:=[.own 3, .own 6, .own 8, .own 4]) rfl rfl ⟨_,_,rfl,cr,_,_,rfl,cr,_,_,rfl,Cv.nil 1,rfl⟩ ⟨_,_,rfl,⟨3,1000003,rfl,rfl⟩,_,_,rfl,⟨6,1000006,rfl,rfl⟩,_,_,rfl,⟨8,1000008,rfl,rfl⟩,_,_,rfl,⟨4,1000004,rfl,rfl⟩,rfl⟩) rfl ⟨⟨_,_,rfl,cr,_,_,rfl,cr,_,_,rfl,cr,_,_,rfl,cr,rfl⟩,⟨_,_,rfl,cr,rfl⟩,⟨_,_,rfl,cr,rfl⟩,⟨_,_,rfl,cr,rfl⟩,⟨_,_,rfl,rfl,rfl⟩,⟨_,_,rfl,rfl,rfl⟩,⟨_,_,rfl,cr,rfl⟩,⟨_,_,rfl,cr,rfl⟩,⟨_,_,rfl,cr,rfl⟩,⟨rfl,rfl,rfl,rfl,zn _⟩,⟨rfl,rfl,rfl,rfl,zn _⟩,trivial⟩ ⟨zaa,zaa,zaa,zaa,zaa,zaa,zaa,zaa,zaa,zcx,zcx,trivial⟩ ?_
   exact zah (.inr rfl) [(0,0),(1,1),(2,2),(3,3),(4,4),(5,5),(6,6),(7,7),(8,8),(9,21),(10,22)] [] [] rfl ⟨⟨rfl,rfl⟩,⟨rfl,rfl⟩,⟨rfl,rfl⟩,⟨rfl,rfl⟩,⟨rfl,rfl⟩,⟨rfl,rfl⟩,⟨rfl,rfl⟩,⟨rfl,rfl⟩,⟨rfl,rfl⟩,trivial⟩ ⟨⟨_,_,rfl,cr,_,_,rfl,cr,_,_,rfl,cr,_,_,rfl,cr,rfl⟩,⟨_,_,rfl,cr,rfl⟩,⟨_,_,rfl,cr,rfl⟩,⟨_,_,rfl,cr,rfl⟩,⟨_,_,rfl,rfl,rfl⟩,⟨_,_,rfl,rfl,rfl⟩,⟨_,_,rfl,cr,rfl⟩,⟨_,_,rfl,cr,rfl⟩,⟨_,_,rfl,cr,rfl⟩,⟨rfl,rfl,rfl,rfl,zn _⟩,⟨rfl,rfl,rfl,rfl,zn _⟩,trivial⟩ ⟨⟨1000000,rfl⟩,⟨1000001,rfl⟩,⟨1000002,rfl⟩,⟨1000003,rfl⟩,⟨1000004,rfl⟩,⟨1000005,rfl⟩,⟨1000006,rfl⟩,⟨1000007,rfl⟩,⟨1000008,rfl⟩,trivial⟩ ⟨_,rfl,cr⟩
  |false=>
   rw[if_neg (by rw[hu];simp)]at hr
   refine zt ?_
   refine zu rfl ?_
   refine Vif.mk' (λho=>?_) (λho=>?_)
   ·rw[if_pos ⟨rfl,ho⟩]at hr
    subst hr
    refine zx ?_
    refine Vapp.mk' (j:=(B++[(nd h j:Int)]).length) (zs:=(B++[(nd h j:Int)]).map I) (by simp only[maxLen];omega) (by simp;omega) (by simp) (by rw[List.map_append];rfl) ?_
    rw[List.append_nil,Bool.and_true]
    exact zah (.inr rfl) [(0,0),(1,1),(2,2),(3,3),(4,4),(5,5),(6,6),(7,7),(8,8),(9,9),(10,13)] [] [] rfl ⟨⟨rfl,rfl⟩,⟨rfl,rfl⟩,⟨rfl,rfl⟩,⟨rfl,rfl⟩,⟨rfl,rfl⟩,⟨rfl,rfl⟩,⟨rfl,rfl⟩,⟨rfl,rfl⟩,⟨rfl,rfl⟩,trivial⟩ ⟨⟨_,_,rfl,cr,_,_,rfl,cr,_,_,rfl,cr,_,_,rfl,cr,rfl⟩,⟨_,_,rfl,cr,rfl⟩,⟨_,_,rfl,cr,rfl⟩,⟨_,_,rfl,cr,rfl⟩,⟨_,_,rfl,rfl,rfl⟩,⟨_,_,rfl,rfl,rfl⟩,⟨_,_,rfl,cr,rfl⟩,⟨_,_,rfl,cr,rfl⟩,⟨_,_,rfl,cr,rfl⟩,⟨rfl,rfl,rfl,rfl,zn _⟩,⟨rfl,rfl,rfl,rfl,zn _⟩,trivial⟩ ⟨⟨1000000,rfl⟩,⟨1000001,rfl⟩,⟨1000002,rfl⟩,⟨1000003,rfl⟩,⟨1000004,rfl⟩,⟨1000005,rfl⟩,⟨1000006,rfl⟩,⟨1000007,rfl⟩,⟨1000008,rfl⟩,trivial⟩ ⟨_,rfl,cr⟩
   ·rw[if_neg (by rw[ho];simp),if_pos (.inl rfl)]at hr
    subst hr
    refine zu rfl ?_
    refine zq ?_
    refine zj [(0,0),(1,1),(2,2),(3,3),(4,4),(5,5),(6,6),(7,7),(8,8),(9,9),(10,10)] [0,1,2,3,4,5,6,7,8] (λvs hv=>zbu (by simp only[List.map];rw[hv 0 0 1000000 _ rfl rfl,hv 1 1 1000001 _ rfl rfl,hv 2 2 1000002 _ rfl rfl,hv 3 3 1000003 _ rfl rfl,hv 4 4 1000004 _ rfl rfl,hv 5 5 1000005 _ rfl rfl,hv 6 6 1000006 _ rfl rfl,hv 7 7 1000007 _ rfl rfl,hv 8 8 1000008 _ rfl rfl];rfl) (ih j 1 [] A B ok (by omega) (by simp) (by simp) (by omega) (by omega))) (Handed.clo (fs:=[.r (I _), .r (I _), .r (is [])]) (cs:=[.own 3, .own 6, .own 8, .own 4]) rfl rfl ⟨_,_,rfl,cr,_,_,rfl,cr,_,_,rfl,Cv.nil 1,rfl⟩ ⟨_,_,rfl,⟨3,1000003,rfl,rfl⟩,_,_,rfl,⟨6,1000006,rfl,rfl⟩,_,_,rfl,⟨8,1000008,rfl,rfl⟩,_,_,rfl,⟨4,1000004,rfl,rfl⟩,rfl⟩) rfl ⟨⟨_,_,rfl,cr,_,_,rfl,cr,_,_,rfl,cr,_,_,rfl,cr,rfl⟩,⟨_,_,rfl,cr,rfl⟩,⟨_,_,rfl,cr,rfl⟩,⟨_,_,rfl,cr,rfl⟩,⟨_,_,rfl,rfl,rfl⟩,⟨_,_,rfl,rfl,rfl⟩,⟨_,_,rfl,cr,rfl⟩,⟨_,_,rfl,cr,rfl⟩,⟨_,_,rfl,cr,rfl⟩,⟨rfl,rfl,rfl,rfl,zn _⟩,⟨rfl,rfl,rfl,rfl,zn _⟩,trivial⟩ ⟨zaa,zaa,zaa,zaa,zaa,zaa,zaa,zaa,zaa,zcx,zcx,trivial⟩ ?_
    exact zah (.inr rfl) [(0,0),(1,1),(2,2),(3,3),(4,4),(5,5),(6,6),(7,7),(8,8),(9,21),(10,22)] [] [] rfl ⟨⟨rfl,rfl⟩,⟨rfl,rfl⟩,⟨rfl,rfl⟩,⟨rfl,rfl⟩,⟨rfl,rfl⟩,⟨rfl,rfl⟩,⟨rfl,rfl⟩,⟨rfl,rfl⟩,⟨rfl,rfl⟩,trivial⟩ ⟨⟨_,_,rfl,cr,_,_,rfl,cr,_,_,rfl,cr,_,_,rfl,cr,rfl⟩,⟨_,_,rfl,cr,rfl⟩,⟨_,_,rfl,cr,rfl⟩,⟨_,_,rfl,cr,rfl⟩,⟨_,_,rfl,rfl,rfl⟩,⟨_,_,rfl,rfl,rfl⟩,⟨_,_,rfl,cr,rfl⟩,⟨_,_,rfl,cr,rfl⟩,⟨_,_,rfl,cr,rfl⟩,⟨rfl,rfl,rfl,rfl,zn _⟩,⟨rfl,rfl,rfl,rfl,zn _⟩,trivial⟩ ⟨⟨1000000,rfl⟩,⟨1000001,rfl⟩,⟨1000002,rfl⟩,⟨1000003,rfl⟩,⟨1000004,rfl⟩,⟨1000005,rfl⟩,⟨1000006,rfl⟩,⟨1000007,rfl⟩,⟨1000008,rfl⟩,trivial⟩ ⟨_,rfl,cr⟩
 rw[if_neg (λhh=>h0 hh.1),if_neg (λhh=>h0 hh.1)]at hr
 refine zw (by simp only[zb];omega) (zt ?_)
 refine zw (by simp only[zb];omega) (zt ?_)
 refine zw (by simp only[zb];omega) ?_
 by_cases h1:how=1/\n.kind.toNat=0
 ·rw[if_pos (.inr h1)]at hr
  subst hr
  refine zu (by simp only[zb];omega) ?_
  refine zu (by simp only[zb];omega) ?_
  refine zq ?_
  refine zj [(0,0),(1,1),(2,2),(3,3),(4,4),(5,5),(6,6),(7,7),(8,8),(9,9),(10,10)] [0,1,2,3,4,5,6,7,8] (λvs hv=>zbu (by simp only[List.map];rw[hv 0 0 1000000 _ rfl rfl,hv 1 1 1000001 _ rfl rfl,hv 2 2 1000002 _ rfl rfl,hv 3 3 1000003 _ rfl rfl,hv 4 4 1000004 _ rfl rfl,hv 5 5 1000005 _ rfl rfl,hv 6 6 1000006 _ rfl rfl,hv 7 7 1000007 _ rfl rfl,hv 8 8 1000008 _ rfl rfl];rfl) (ih j 1 [] A B ok (by omega) (by simp) (by simp) (by omega) (by omega))) (Handed.clo (fs:=[.r (I _), .r (I _), .r (is [])]) (cs:=[.own 3, .own 6, .own 8, .own 4]) rfl rfl ⟨_,_,rfl,cr,_,_,rfl,cr,_,_,rfl,Cv.nil 1,rfl⟩ ⟨_,_,rfl,⟨3,1000003,rfl,rfl⟩,_,_,rfl,⟨6,1000006,rfl,rfl⟩,_,_,rfl,⟨8,1000008,rfl,rfl⟩,_,_,rfl,⟨4,1000004,rfl,rfl⟩,rfl⟩) rfl ⟨⟨_,_,rfl,cr,_,_,rfl,cr,_,_,rfl,cr,_,_,rfl,cr,rfl⟩,⟨_,_,rfl,cr,rfl⟩,⟨_,_,rfl,cr,rfl⟩,⟨_,_,rfl,cr,rfl⟩,⟨_,_,rfl,rfl,rfl⟩,⟨_,_,rfl,rfl,rfl⟩,⟨_,_,rfl,cr,rfl⟩,⟨_,_,rfl,cr,rfl⟩,⟨_,_,rfl,cr,rfl⟩,⟨rfl,rfl,rfl,rfl,zn _⟩,⟨rfl,rfl,rfl,rfl,zn _⟩,trivial⟩ ⟨zaa,zaa,zaa,zaa,zaa,zaa,zaa,zaa,zaa,zcx,zcx,trivial⟩ ?_
  exact zah (.inr rfl) [(0,0),(1,1),(2,2),(3,3),(4,4),(5,5),(6,6),(7,7),(8,8),(9,21),(10,22)] [] [] rfl ⟨⟨rfl,rfl⟩,⟨rfl,rfl⟩,⟨rfl,rfl⟩,⟨rfl,rfl⟩,⟨rfl,rfl⟩,⟨rfl,rfl⟩,⟨rfl,rfl⟩,⟨rfl,rfl⟩,⟨rfl,rfl⟩,trivial⟩ ⟨⟨_,_,rfl,cr,_,_,rfl,cr,_,_,rfl,cr,_,_,rfl,cr,rfl⟩,⟨_,_,rfl,cr,rfl⟩,⟨_,_,rfl,cr,rfl⟩,⟨_,_,rfl,cr,rfl⟩,⟨_,_,rfl,rfl,rfl⟩,⟨_,_,rfl,rfl,rfl⟩,⟨_,_,rfl,cr,rfl⟩,⟨_,_,rfl,cr,rfl⟩,⟨_,_,rfl,cr,rfl⟩,⟨rfl,rfl,rfl,rfl,zn _⟩,⟨rfl,rfl,rfl,rfl,zn _⟩,trivial⟩ ⟨⟨1000000,rfl⟩,⟨1000001,rfl⟩,⟨1000002,rfl⟩,⟨1000003,rfl⟩,⟨1000004,rfl⟩,⟨1000005,rfl⟩,⟨1000006,rfl⟩,⟨1000007,rfl⟩,⟨1000008,rfl⟩,trivial⟩ ⟨_,rfl,cr⟩
 rw[if_neg (λhh=>hh.elim h0 h1)]at hr
 by_cases h11:how=1
 ·refine zu (by simp only[zb];omega) ?_
  refine zw (by simp only[zb];omega) ?_
  refine zt ?_
  refine ze (z8i late (nd h j) (by omega) hd) ?_
  cases hu:late.any (λu=>zal (2*u) (nd h j))with
  |true=>
   rw[if_pos hu]at hr
   subst hr
   refine zq ?_
   refine zj [(0,0),(1,1),(2,2),(3,3),(4,4),(5,5),(6,6),(7,7),(8,8),(9,9),(10,10)] [0,1,2,3,4,5,6,7,8] (λvs hv=>zbu (by simp only[List.map];rw[hv 0 0 1000000 _ rfl rfl,hv 1 1 1000001 _ rfl rfl,hv 2 2 1000002 _ rfl rfl,hv 3 3 1000003 _ rfl rfl,hv 4 4 1000004 _ rfl rfl,hv 5 5 1000005 _ rfl rfl,hv 6 6 1000006 _ rfl rfl,hv 7 7 1000007 _ rfl rfl,hv 8 8 1000008 _ rfl rfl];rfl) (ih j 2 late A B ok (by omega) hl hd (by omega) (by omega))) (Handed.clo (fs:=[.r (I _), .r (I _), .r (is late)]) (cs:=[.own 3, .own 6, .own 8, .own 4]) rfl rfl ⟨_,_,rfl,cr,_,_,rfl,cr,_,_,rfl,cr,rfl⟩ ⟨_,_,rfl,⟨3,1000003,rfl,rfl⟩,_,_,rfl,⟨6,1000006,rfl,rfl⟩,_,_,rfl,⟨8,1000008,rfl,rfl⟩,_,_,rfl,⟨4,1000004,rfl,rfl⟩,rfl⟩) rfl ⟨⟨_,_,rfl,cr,_,_,rfl,cr,_,_,rfl,cr,_,_,rfl,cr,rfl⟩,⟨_,_,rfl,cr,rfl⟩,⟨_,_,rfl,cr,rfl⟩,⟨_,_,rfl,cr,rfl⟩,⟨_,_,rfl,rfl,rfl⟩,⟨_,_,rfl,rfl,rfl⟩,⟨_,_,rfl,cr,rfl⟩,⟨_,_,rfl,cr,rfl⟩,⟨_,_,rfl,cr,rfl⟩,⟨rfl,rfl,rfl,rfl,zn _⟩,⟨rfl,rfl,rfl,rfl,zn _⟩,trivial⟩ ⟨zaa,zaa,zaa,zaa,zaa,zaa,zaa,zaa,zaa,zcx,zcx,trivial⟩ ?_
   exact zah (.inr rfl) [(0,0),(1,1),(2,2),(3,3),(4,4),(5,5),(6,6),(7,7),(8,8),(9,21),(10,22)] [] [] rfl ⟨⟨rfl,rfl⟩,⟨rfl,rfl⟩,⟨rfl,rfl⟩,⟨rfl,rfl⟩,⟨rfl,rfl⟩,⟨rfl,rfl⟩,⟨rfl,rfl⟩,⟨rfl,rfl⟩,⟨rfl,rfl⟩,trivial⟩ ⟨⟨_,_,rfl,cr,_,_,rfl,cr,_,_,rfl,cr,_,_,rfl,cr,rfl⟩,⟨_,_,rfl,cr,rfl⟩,⟨_,_,rfl,cr,rfl⟩,⟨_,_,rfl,cr,rfl⟩,⟨_,_,rfl,rfl,rfl⟩,⟨_,_,rfl,rfl,rfl⟩,⟨_,_,rfl,cr,rfl⟩,⟨_,_,rfl,cr,rfl⟩,⟨_,_,rfl,cr,rfl⟩,⟨rfl,rfl,rfl,rfl,zn _⟩,⟨rfl,rfl,rfl,rfl,zn _⟩,trivial⟩ ⟨⟨1000000,rfl⟩,⟨1000001,rfl⟩,⟨1000002,rfl⟩,⟨1000003,rfl⟩,⟨1000004,rfl⟩,⟨1000005,rfl⟩,⟨1000006,rfl⟩,⟨1000007,rfl⟩,⟨1000008,rfl⟩,trivial⟩ ⟨_,rfl,cr⟩
  |false=>
   rw[if_neg (by rw[hu];simp)]at hr
   subst hr
   refine zt ?_
   refine zx ?_
   refine Vapp.mk' (j:=(B++[(nd h j:Int)]).length) (zs:=(B++[(nd h j:Int)]).map I) (by simp only[maxLen];omega) (by simp;omega) (by simp) (by rw[List.map_append];rfl) ?_
   rw[List.append_nil,Bool.and_true]
   exact zah (.inr rfl) [(0,0),(1,1),(2,2),(3,3),(4,4),(5,5),(6,6),(7,7),(8,8),(9,9),(10,13)] [] [] rfl ⟨⟨rfl,rfl⟩,⟨rfl,rfl⟩,⟨rfl,rfl⟩,⟨rfl,rfl⟩,⟨rfl,rfl⟩,⟨rfl,rfl⟩,⟨rfl,rfl⟩,⟨rfl,rfl⟩,⟨rfl,rfl⟩,trivial⟩ ⟨⟨_,_,rfl,cr,_,_,rfl,cr,_,_,rfl,cr,_,_,rfl,cr,rfl⟩,⟨_,_,rfl,cr,rfl⟩,⟨_,_,rfl,cr,rfl⟩,⟨_,_,rfl,cr,rfl⟩,⟨_,_,rfl,rfl,rfl⟩,⟨_,_,rfl,rfl,rfl⟩,⟨_,_,rfl,cr,rfl⟩,⟨_,_,rfl,cr,rfl⟩,⟨_,_,rfl,cr,rfl⟩,⟨rfl,rfl,rfl,rfl,zn _⟩,⟨rfl,rfl,rfl,rfl,zn _⟩,trivial⟩ ⟨⟨1000000,rfl⟩,⟨1000001,rfl⟩,⟨1000002,rfl⟩,⟨1000003,rfl⟩,⟨1000004,rfl⟩,⟨1000005,rfl⟩,⟨1000006,rfl⟩,⟨1000007,rfl⟩,⟨1000008,rfl⟩,trivial⟩ ⟨_,rfl,cr⟩
 ·refine zw (by simp only[zb];omega) ?_
  refine zt ?_
  refine ze (z8i late (nd h j) (by omega) hd) ?_
  cases hu:late.any (λu=>zal (2*u) (nd h j))with
  |true=>
   rw[if_pos hu]at hr
   subst hr
   refine zq ?_
   refine zj [(0,0),(1,1),(2,2),(3,3),(4,4),(5,5),(6,6),(7,7),(8,8),(9,9),(10,10)] [0,1,2,3,4,5,6,7,8] (λvs hv=>zbu (by simp only[List.map];rw[hv 0 0 1000000 _ rfl rfl,hv 1 1 1000001 _ rfl rfl,hv 2 2 1000002 _ rfl rfl,hv 3 3 1000003 _ rfl rfl,hv 4 4 1000004 _ rfl rfl,hv 5 5 1000005 _ rfl rfl,hv 6 6 1000006 _ rfl rfl,hv 7 7 1000007 _ rfl rfl,hv 8 8 1000008 _ rfl rfl];rfl) (ih j 2 late A B ok (by omega) hl hd (by omega) (by omega))) (Handed.clo (fs:=[.r (I _), .r (I _), .r (is late)]) (cs:=[.own 3, .own 6, .own 8, .own 4]) rfl rfl ⟨_,_,rfl,cr,_,_,rfl,cr,_,_,rfl,cr,rfl⟩ ⟨_,_,rfl,⟨3,1000003,rfl,rfl⟩,_,_,rfl,⟨6,1000006,rfl,rfl⟩,_,_,rfl,⟨8,1000008,rfl,rfl⟩,_,_,rfl,⟨4,1000004,rfl,rfl⟩,rfl⟩) rfl ⟨⟨_,_,rfl,cr,_,_,rfl,cr,_,_,rfl,cr,_,_,rfl,cr,rfl⟩,⟨_,_,rfl,cr,rfl⟩,⟨_,_,rfl,cr,rfl⟩,⟨_,_,rfl,cr,rfl⟩,⟨_,_,rfl,rfl,rfl⟩,⟨_,_,rfl,rfl,rfl⟩,⟨_,_,rfl,cr,rfl⟩,⟨_,_,rfl,cr,rfl⟩,⟨_,_,rfl,cr,rfl⟩,⟨rfl,rfl,rfl,rfl,zn _⟩,⟨rfl,rfl,rfl,rfl,zn _⟩,trivial⟩ ⟨zaa,zaa,zaa,zaa,zaa,zaa,zaa,zaa,zaa,zcx,zcx,trivial⟩ ?_
   exact zah (.inr rfl) [(0,0),(1,1),(2,2),(3,3),(4,4),(5,5),(6,6),(7,7),(8,8),(9,21),(10,22)] [] [] rfl ⟨⟨rfl,rfl⟩,⟨rfl,rfl⟩,⟨rfl,rfl⟩,⟨rfl,rfl⟩,⟨rfl,rfl⟩,⟨rfl,rfl⟩,⟨rfl,rfl⟩,⟨rfl,rfl⟩,⟨rfl,rfl⟩,trivial⟩ ⟨⟨_,_,rfl,cr,_,_,rfl,cr,_,_,rfl,cr,_,_,rfl,cr,rfl⟩,⟨_,_,rfl,cr,rfl⟩,⟨_,_,rfl,cr,rfl⟩,⟨_,_,rfl,cr,rfl⟩,⟨_,_,rfl,rfl,rfl⟩,⟨_,_,rfl,rfl,rfl⟩,⟨_,_,rfl,cr,rfl⟩,⟨_,_,rfl,cr,rfl⟩,⟨_,_,rfl,cr,rfl⟩,⟨rfl,rfl,rfl,rfl,zn _⟩,⟨rfl,rfl,rfl,rfl,zn _⟩,trivial⟩ ⟨⟨1000000,rfl⟩,⟨1000001,rfl⟩,⟨1000002,rfl⟩,⟨1000003,rfl⟩,⟨1000004,rfl⟩,⟨1000005,rfl⟩,⟨1000006,rfl⟩,⟨1000007,rfl⟩,⟨1000008,rfl⟩,trivial⟩ ⟨_,rfl,cr⟩
  |false=>
   rw[if_neg (by rw[hu];simp)]at hr
   subst hr
   refine zt ?_
   refine zx ?_
   refine Vapp.mk' (j:=(B++[(nd h j:Int)]).length) (zs:=(B++[(nd h j:Int)]).map I) (by simp only[maxLen];omega) (by simp;omega) (by simp) (by rw[List.map_append];rfl) ?_
   rw[List.append_nil,Bool.and_true]
   exact zah (.inr rfl) [(0,0),(1,1),(2,2),(3,3),(4,4),(5,5),(6,6),(7,7),(8,8),(9,9),(10,13)] [] [] rfl ⟨⟨rfl,rfl⟩,⟨rfl,rfl⟩,⟨rfl,rfl⟩,⟨rfl,rfl⟩,⟨rfl,rfl⟩,⟨rfl,rfl⟩,⟨rfl,rfl⟩,⟨rfl,rfl⟩,⟨rfl,rfl⟩,trivial⟩ ⟨⟨_,_,rfl,cr,_,_,rfl,cr,_,_,rfl,cr,_,_,rfl,cr,rfl⟩,⟨_,_,rfl,cr,rfl⟩,⟨_,_,rfl,cr,rfl⟩,⟨_,_,rfl,cr,rfl⟩,⟨_,_,rfl,rfl,rfl⟩,⟨_,_,rfl,rfl,rfl⟩,⟨_,_,rfl,cr,rfl⟩,⟨_,_,rfl,cr,rfl⟩,⟨_,_,rfl,cr,rfl⟩,⟨rfl,rfl,rfl,rfl,zn _⟩,⟨rfl,rfl,rfl,rfl,zn _⟩,trivial⟩ ⟨⟨1000000,rfl⟩,⟨1000001,rfl⟩,⟨1000002,rfl⟩,⟨1000003,rfl⟩,⟨1000004,rfl⟩,⟨1000005,rfl⟩,⟨1000006,rfl⟩,⟨1000007,rfl⟩,⟨1000008,rfl⟩,trivial⟩ ⟨_,rfl,cr⟩
set_option maxHeartbeats 4000000 in
theorem VC.visit_zero(c:VC)(hO: ∀x n,zae c.O x=some n->n.par.late.length<=100000000/\∀u∈n.par.late,za6 u)(hi0:0<=c.i/\c.i<65536)(k how:Nat)(late A B:List Int)(ok:Bool)(hk:k<2^(16-0))(hl:late.length<=100000000)(hd: ∀u∈late,za6 u)(hA:A.length+2^(0+1)<=1000000)(hB:B.length+2^(0+1)<=1000000)(r:V3)
  (hr:r=visV c.O c.i c.only 0 k how late):
  Acts Tryz.prog 220 11 (c.mem A B ok) [.r (I (nd 0 k)), .r (I how), .r (is late), .own 3, .own 6, .own 8, .own 4] c.nms 11 (c.mem (A++r.1) (B++r.2.1) (ok&&r.2.2)) (.r (.tu [])):=by
 refine zam (T:=Tab) mixed Tab_ok Tryz.func220 rfl (by kernel_rfl) rfl (c.same _ _ _ _ _ _) ?_
 refine zj [(0,0)] [0] (λvs _=>g_at (vs 0) c.leaves c.own c.O c.H (nd 0 k:Int)) (Handed.clo (fs:=[.r (I _)]) (cs:=[.own 0]) rfl rfl ⟨_,_,rfl,cr,rfl⟩ ⟨_,_,rfl,⟨0,1000000,rfl,rfl⟩,rfl⟩) rfl ⟨⟨_,_,rfl,cr,_,_,rfl,cr,_,_,rfl,cr,_,_,rfl,cr,rfl⟩,trivial⟩ ⟨zaa,trivial⟩ ?_
 cases hn:zae c.O (nd 0 k:Int)with
 |none=>
  rw[show found c.O (nd 0 k:Int)=false by unfold found;rw[hn];rfl]
  simp only[visV,hn]at hr
  refine zu rfl (zq ?_)
  have e1:A++r.1=A:=by rw[hr];simp
  have e2:B++r.2.1=B:=by rw[hr];simp
  have e3:(ok&&r.2.2)=false:=by rw[hr];simp
  rw[e1,e2,e3]
  exact zah (.inl rfl) [(0,0),(1,1),(2,2),(3,3),(4,4),(5,5),(6,6),(7,7),(8,8),(9,9),(10,10)] [] [] rfl ⟨⟨rfl,rfl⟩,⟨rfl,rfl⟩,⟨rfl,rfl⟩,⟨rfl,rfl⟩,⟨rfl,rfl⟩,⟨rfl,rfl⟩,⟨rfl,rfl⟩,⟨rfl,rfl⟩,⟨rfl,rfl⟩,trivial⟩ ⟨⟨_,_,rfl,cr,_,_,rfl,cr,_,_,rfl,cr,_,_,rfl,cr,rfl⟩,⟨_,_,rfl,cr,rfl⟩,⟨_,_,rfl,cr,rfl⟩,⟨_,_,rfl,cr,rfl⟩,⟨_,_,rfl,rfl,rfl⟩,⟨_,_,rfl,rfl,rfl⟩,⟨_,_,rfl,cr,rfl⟩,⟨_,_,rfl,cr,rfl⟩,⟨_,_,rfl,cr,rfl⟩,⟨rfl,rfl,rfl,rfl,zn _⟩,⟨rfl,rfl,rfl,rfl,zn _⟩,trivial⟩ ⟨⟨1000000,rfl⟩,⟨1000001,rfl⟩,⟨1000002,rfl⟩,⟨1000003,rfl⟩,⟨1000004,rfl⟩,⟨1000005,rfl⟩,⟨1000006,rfl⟩,⟨1000007,rfl⟩,⟨1000008,rfl⟩,trivial⟩ ⟨_,rfl,cr⟩
 |some n=>
  rw[show found c.O (nd 0 k:Int)=true by unfold found;rw[hn];rfl,show zif c.O (nd 0 k:Int)=n by unfold zif;rw[hn];rfl]
  simp only[visV,hn]at hr
  refine zw rfl (zt ?_)
  by_cases h1:how=1
  ·refine zu (by simp only[zb];omega) (zq ?_)
   refine⟨by decide,_,rfl,?_⟩
   refine zw (by rw[zck];rfl) (zt ?_)
   refine zx ?_
   refine Vapp.mk' (j:=(A++[(nd 0 k:Int)]).length) (zs:=(A++[(nd 0 k:Int)]).map I) (by simp only[maxLen,List.length_append];omega) (by simp;omega) (by rw[List.length_append (bs:=[_])];rfl) (List.map_append (f:=I) (l₁:=A) (l₂:=[(nd 0 k:Int)])).symm ?_
   refine⟨by decide,_,rfl,?_⟩
   refine zw (by rw[zck];rfl) (zt ?_)
   have e1:A++r.1=A++[(nd 0 k:Int)]:=by rw[hr]
   have e2:B++r.2.1=B:=by rw[hr];simp
   have e3:(ok&&r.2.2)=ok:=by rw[hr];simp
   rw[e1,e2,e3]
   exact zah (.inr rfl) [(0,0),(1,1),(2,2),(3,3),(4,4),(5,5),(6,6),(7,7),(8,8),(9,15),(10,10)] [] [] rfl ⟨⟨rfl,rfl⟩,⟨rfl,rfl⟩,⟨rfl,rfl⟩,⟨rfl,rfl⟩,⟨rfl,rfl⟩,⟨rfl,rfl⟩,⟨rfl,rfl⟩,⟨rfl,rfl⟩,⟨rfl,rfl⟩,trivial⟩ ⟨⟨_,_,rfl,cr,_,_,rfl,cr,_,_,rfl,cr,_,_,rfl,cr,rfl⟩,⟨_,_,rfl,cr,rfl⟩,⟨_,_,rfl,cr,rfl⟩,⟨_,_,rfl,cr,rfl⟩,⟨_,_,rfl,rfl,rfl⟩,⟨_,_,rfl,rfl,rfl⟩,⟨_,_,rfl,cr,rfl⟩,⟨_,_,rfl,cr,rfl⟩,⟨_,_,rfl,cr,rfl⟩,⟨rfl,rfl,rfl,rfl,zn _⟩,⟨rfl,rfl,rfl,rfl,zn _⟩,trivial⟩ ⟨⟨1000000,rfl⟩,⟨1000001,rfl⟩,⟨1000002,rfl⟩,⟨1000003,rfl⟩,⟨1000004,rfl⟩,⟨1000005,rfl⟩,⟨1000006,rfl⟩,⟨1000007,rfl⟩,⟨1000008,rfl⟩,trivial⟩ ⟨_,rfl,cr⟩
  ·refine zw (by simp only[zb];omega) (zt ?_)
   refine⟨by decide,_,rfl,?_⟩
   refine zw (by rw[zck];rfl) (zt ?_)
   refine zx ?_
   refine Vapp.mk' (j:=(A++[(nd 0 k:Int)]).length) (zs:=(A++[(nd 0 k:Int)]).map I) (by simp only[maxLen,List.length_append];omega) (by simp;omega) (by rw[List.length_append (bs:=[_])];rfl) (List.map_append (f:=I) (l₁:=A) (l₂:=[(nd 0 k:Int)])).symm ?_
   refine⟨by decide,_,rfl,?_⟩
   refine zw (by rw[zck];rfl) (zt ?_)
   have e1:A++r.1=A++[(nd 0 k:Int)]:=by rw[hr]
   have e2:B++r.2.1=B:=by rw[hr];simp
   have e3:(ok&&r.2.2)=ok:=by rw[hr];simp
   rw[e1,e2,e3]
   exact zah (.inr rfl) [(0,0),(1,1),(2,2),(3,3),(4,4),(5,5),(6,6),(7,7),(8,8),(9,15),(10,10)] [] [] rfl ⟨⟨rfl,rfl⟩,⟨rfl,rfl⟩,⟨rfl,rfl⟩,⟨rfl,rfl⟩,⟨rfl,rfl⟩,⟨rfl,rfl⟩,⟨rfl,rfl⟩,⟨rfl,rfl⟩,⟨rfl,rfl⟩,trivial⟩ ⟨⟨_,_,rfl,cr,_,_,rfl,cr,_,_,rfl,cr,_,_,rfl,cr,rfl⟩,⟨_,_,rfl,cr,rfl⟩,⟨_,_,rfl,cr,rfl⟩,⟨_,_,rfl,cr,rfl⟩,⟨_,_,rfl,rfl,rfl⟩,⟨_,_,rfl,rfl,rfl⟩,⟨_,_,rfl,cr,rfl⟩,⟨_,_,rfl,cr,rfl⟩,⟨_,_,rfl,cr,rfl⟩,⟨rfl,rfl,rfl,rfl,zn _⟩,⟨rfl,rfl,rfl,rfl,zn _⟩,trivial⟩ ⟨⟨1000000,rfl⟩,⟨1000001,rfl⟩,⟨1000002,rfl⟩,⟨1000003,rfl⟩,⟨1000004,rfl⟩,⟨1000005,rfl⟩,⟨1000006,rfl⟩,⟨1000007,rfl⟩,⟨1000008,rfl⟩,trivial⟩ ⟨_,rfl,cr⟩
set_option maxHeartbeats 4000000 in
theorem VC.visit_up(c:VC)(hO: ∀x n,zae c.O x=some n->n.par.late.length<=100000000/\∀u∈n.par.late,za6 u)(hi0:0<=c.i/\c.i<65536)(h:Nat)(hh:h+1<=16)(ih:c.Vis h)(k how:Nat)(late A B:List Int)(ok:Bool)(hk:k<2^(16-(h+1)))(hl:late.length<=100000000)(hd: ∀u∈late,za6 u)(hA:A.length+2^((h+1)+1)<=1000000)(hB:B.length+2^((h+1)+1)<=1000000)(r:V3)
  (hr:r=visV c.O c.i c.only (h+1) k how late):
  Acts Tryz.prog 220 11 (c.mem A B ok) [.r (I (nd (h+1) k)), .r (I how), .r (is late), .own 3, .own 6, .own 8, .own 4] c.nms 11 (c.mem (A++r.1) (B++r.2.1) (ok&&r.2.2)) (.r (.tu [])):=by
 refine zam (T:=Tab) mixed Tab_ok Tryz.func220 rfl (by kernel_rfl) rfl (c.same _ _ _ _ _ _) ?_
 have hleft:=zdk (d:=16) (by omega) (show h+1<=16 by omega) hk
 have hright:=zc7 (d:=16) (by omega) (show h+1<=16 by omega) hk
 have hk2:2^(16-h)=2*2^(16-(h+1)):=by rw[show 16-h=(16-(h+1))+1 by omega,Nat.pow_succ];omega
 have hp:2<=2^(h+1):=by rw[Nat.pow_succ];have:0<2^h:=Nat.pow_pos (by omega);omega
 have hp2:2^(h+1+1)=2*2^(h+1):=by rw[Nat.pow_succ 2 (h+1)];omega
 refine zj [(0,0)] [0] (λvs _=>g_at (vs 0) c.leaves c.own c.O c.H (nd (h+1) k:Int)) (Handed.clo (fs:=[.r (I _)]) (cs:=[.own 0]) rfl rfl ⟨_,_,rfl,cr,rfl⟩ ⟨_,_,rfl,⟨0,1000000,rfl,rfl⟩,rfl⟩) rfl ⟨⟨_,_,rfl,cr,_,_,rfl,cr,_,_,rfl,cr,_,_,rfl,cr,rfl⟩,trivial⟩ ⟨zaa,trivial⟩ ?_
 cases hn:zae c.O (nd (h+1) k:Int)with
 |none=>
  rw[show found c.O (nd (h+1) k:Int)=false by unfold found;rw[hn];rfl]
  simp only[visV,hn]at hr
  refine zu rfl (zq ?_)
  have e1:A++r.1=A:=by rw[hr];simp
  have e2:B++r.2.1=B:=by rw[hr];simp
  have e3:(ok&&r.2.2)=false:=by rw[hr];simp
  rw[e1,e2,e3]
  exact zah (.inl rfl) [(0,0),(1,1),(2,2),(3,3),(4,4),(5,5),(6,6),(7,7),(8,8),(9,9),(10,10)] [] [] rfl ⟨⟨rfl,rfl⟩,⟨rfl,rfl⟩,⟨rfl,rfl⟩,⟨rfl,rfl⟩,⟨rfl,rfl⟩,⟨rfl,rfl⟩,⟨rfl,rfl⟩,⟨rfl,rfl⟩,⟨rfl,rfl⟩,trivial⟩ ⟨⟨_,_,rfl,cr,_,_,rfl,cr,_,_,rfl,cr,_,_,rfl,cr,rfl⟩,⟨_,_,rfl,cr,rfl⟩,⟨_,_,rfl,cr,rfl⟩,⟨_,_,rfl,cr,rfl⟩,⟨_,_,rfl,rfl,rfl⟩,⟨_,_,rfl,rfl,rfl⟩,⟨_,_,rfl,cr,rfl⟩,⟨_,_,rfl,cr,rfl⟩,⟨_,_,rfl,cr,rfl⟩,⟨rfl,rfl,rfl,rfl,zn _⟩,⟨rfl,rfl,rfl,rfl,zn _⟩,trivial⟩ ⟨⟨1000000,rfl⟩,⟨1000001,rfl⟩,⟨1000002,rfl⟩,⟨1000003,rfl⟩,⟨1000004,rfl⟩,⟨1000005,rfl⟩,⟨1000006,rfl⟩,⟨1000007,rfl⟩,⟨1000008,rfl⟩,trivial⟩ ⟨_,rfl,cr⟩
 |some n=>
  rw[show found c.O (nd (h+1) k:Int)=true by unfold found;rw[hn];rfl,show zif c.O (nd (h+1) k:Int)=n by unfold zif;rw[hn];rfl]
  simp only[visV,hn]at hr
  refine zw rfl (zt ?_)
  obtain⟨hnl,hnd⟩:=hO _ n hn
  by_cases h1:how=1
  ·rw[if_pos h1]at hr
   refine zu (by simp only[zb];omega) (zq ?_)
   refine⟨by decide,_,rfl,?_⟩
   refine zu (by rw[zc5];rfl) (zq ?_)
   obtain⟨ra,hra⟩: ∃ra,ra=kidV (λj w l=>visV c.O c.i c.only h j w l) c.i c.only h how n n.par.late (2*k):=⟨_,rfl⟩
   obtain⟨rb,hrb⟩: ∃rb,rb=kidV (λj w l=>visV c.O c.i c.only h j w l) c.i c.only h how n n.par.late (2*k+1):=⟨_,rfl⟩
   have la:=zn3 (b:=2^(h+1)-1) (by omega) (λj w l=>zn5 c.O c.i c.only h j w l) c.i c.only h how n n.par.late (2*k)
   rw[<-hra]at la
   refine Vdraw.cut 6 (by kernel_rfl) ?_
   refine ze (zii _) ?_
   rw[hleft]
   refine za rfl rfl ?_
   refine zj [(0,0),(1,1),(2,2),(3,3),(4,4),(5,5),(6,6),(7,7),(8,8),(9,9),(10,10)] [0,1,2,3,4,5,6,7,8] (λvs hv=>zbu (by simp only[List.map];rw[hv 0 0 1000000 _ rfl rfl,hv 1 1 1000001 _ rfl rfl,hv 2 2 1000002 _ rfl rfl,hv 3 3 1000003 _ rfl rfl,hv 4 4 1000004 _ rfl rfl,hv 5 5 1000005 _ rfl rfl,hv 6 6 1000006 _ rfl rfl,hv 7 7 1000007 _ rfl rfl,hv 8 8 1000008 _ rfl rfl];rfl) (c.child hi0 h (by omega) ih (2*k) how n n.par.late A B ok (by omega) hnl hnd (by first |omega |(simp only[List.length_append,List.length_cons,List.length_nil];omega)) (by first |omega |(simp only[List.length_append];omega)) _ rfl)) (Handed.clo (fs:=[.r (I _), .r (I _), .r (.ag n.c), .r (is n.par.late)]) (cs:=[.own 1, .own 7, .own 2, .own 5]) rfl rfl ⟨_,_,rfl,cr,_,_,rfl,cr,_,_,rfl,cr,_,_,rfl,cr,rfl⟩ ⟨_,_,rfl,⟨1,1000001,rfl,rfl⟩,_,_,rfl,⟨7,1000007,rfl,rfl⟩,_,_,rfl,⟨2,1000002,rfl,rfl⟩,_,_,rfl,⟨5,1000005,rfl,rfl⟩,rfl⟩) rfl ⟨⟨_,_,rfl,cr,_,_,rfl,cr,_,_,rfl,cr,_,_,rfl,cr,rfl⟩,⟨_,_,rfl,cr,rfl⟩,⟨_,_,rfl,cr,rfl⟩,⟨_,_,rfl,cr,rfl⟩,⟨_,_,rfl,rfl,rfl⟩,⟨_,_,rfl,rfl,rfl⟩,⟨_,_,rfl,cr,rfl⟩,⟨_,_,rfl,cr,rfl⟩,⟨_,_,rfl,cr,rfl⟩,⟨rfl,rfl,rfl,rfl,zn _⟩,⟨rfl,rfl,rfl,rfl,zn _⟩,trivial⟩ ⟨zaa,zaa,zaa,zaa,zaa,zaa,zaa,zaa,zaa,zcx,zcx,trivial⟩ ?_
   rw[<-hra]
   refine zx ?_
   refine Vapp.mk' (j:=((A++ra.1)++[(nd (h+1) k:Int)]).length) (zs:=((A++ra.1)++[(nd (h+1) k:Int)]).map I) (by simp only[maxLen,List.length_append];omega) (by simp;omega) (by rw[List.length_append (bs:=[_])];rfl) (List.map_append (f:=I) (l₁:=(A++ra.1)) (l₂:=[(nd (h+1) k:Int)])).symm ?_
   refine⟨by decide,_,rfl,?_⟩
   refine zu (by rw[zc5];rfl) (zq ?_)
   refine Vdraw.cut 6 (by kernel_rfl) ?_
   refine ze (zg5 _) ?_
   rw[hright]
   refine za rfl rfl ?_
   refine zj [(0,0),(1,1),(2,2),(3,3),(4,4),(5,5),(6,6),(7,7),(8,8),(9,26),(10,24)] [0,1,2,3,4,5,6,7,8] (λvs hv=>zbu (by simp only[List.map];rw[hv 0 0 1000000 _ rfl rfl,hv 1 1 1000001 _ rfl rfl,hv 2 2 1000002 _ rfl rfl,hv 3 3 1000003 _ rfl rfl,hv 4 4 1000004 _ rfl rfl,hv 5 5 1000005 _ rfl rfl,hv 6 6 1000006 _ rfl rfl,hv 7 7 1000007 _ rfl rfl,hv 8 8 1000008 _ rfl rfl];rfl) (c.child hi0 h (by omega) ih (2*k+1) how n n.par.late (A++ra.1++[(nd (h+1) k:Int)]) (B++ra.2.1) (ok&&ra.2.2) (by omega) hnl hnd (by first |omega |(simp only[List.length_append,List.length_cons,List.length_nil];omega)) (by first |omega |(simp only[List.length_append];omega)) _ rfl)) (Handed.clo (fs:=[.r (I _), .r (I _), .r (.ag n.c), .r (is n.par.late)]) (cs:=[.own 1, .own 7, .own 2, .own 5]) rfl rfl ⟨_,_,rfl,cr,_,_,rfl,cr,_,_,rfl,cr,_,_,rfl,cr,rfl⟩ ⟨_,_,rfl,⟨1,1000001,rfl,rfl⟩,_,_,rfl,⟨7,1000007,rfl,rfl⟩,_,_,rfl,⟨2,1000002,rfl,rfl⟩,_,_,rfl,⟨5,1000005,rfl,rfl⟩,rfl⟩) rfl ⟨⟨_,_,rfl,cr,_,_,rfl,cr,_,_,rfl,cr,_,_,rfl,cr,rfl⟩,⟨_,_,rfl,cr,rfl⟩,⟨_,_,rfl,cr,rfl⟩,⟨_,_,rfl,cr,rfl⟩,⟨_,_,rfl,rfl,rfl⟩,⟨_,_,rfl,rfl,rfl⟩,⟨_,_,rfl,cr,rfl⟩,⟨_,_,rfl,cr,rfl⟩,⟨_,_,rfl,cr,rfl⟩,⟨rfl,rfl,rfl,rfl,zn _⟩,⟨rfl,rfl,rfl,rfl,zn _⟩,trivial⟩ ⟨zaa,zaa,zaa,zaa,zaa,zaa,zaa,zaa,zaa,zcx,zcx,trivial⟩ ?_
   rw[<-hrb]
   have e1:A++r.1=A++ra.1++[(nd (h+1) k:Int)]++rb.1:=by rw[hr,hra,hrb];simp only[List.append_assoc]
   have e2:B++r.2.1=B++ra.2.1++rb.2.1:=by rw[hr,hra,hrb];simp only[List.append_assoc]
   have e3:(ok&&r.2.2)=((ok&&ra.2.2)&&rb.2.2):=by rw[hr,hra,hrb];simp only[Bool.and_assoc]
   rw[e1,e2,e3]
   exact zah (.inr rfl) [(0,0),(1,1),(2,2),(3,3),(4,4),(5,5),(6,6),(7,7),(8,8),(9,36),(10,37)] [] [] rfl ⟨⟨rfl,rfl⟩,⟨rfl,rfl⟩,⟨rfl,rfl⟩,⟨rfl,rfl⟩,⟨rfl,rfl⟩,⟨rfl,rfl⟩,⟨rfl,rfl⟩,⟨rfl,rfl⟩,⟨rfl,rfl⟩,trivial⟩ ⟨⟨_,_,rfl,cr,_,_,rfl,cr,_,_,rfl,cr,_,_,rfl,cr,rfl⟩,⟨_,_,rfl,cr,rfl⟩,⟨_,_,rfl,cr,rfl⟩,⟨_,_,rfl,cr,rfl⟩,⟨_,_,rfl,rfl,rfl⟩,⟨_,_,rfl,rfl,rfl⟩,⟨_,_,rfl,cr,rfl⟩,⟨_,_,rfl,cr,rfl⟩,⟨_,_,rfl,cr,rfl⟩,⟨rfl,rfl,rfl,rfl,zn _⟩,⟨rfl,rfl,rfl,rfl,zn _⟩,trivial⟩ ⟨⟨1000000,rfl⟩,⟨1000001,rfl⟩,⟨1000002,rfl⟩,⟨1000003,rfl⟩,⟨1000004,rfl⟩,⟨1000005,rfl⟩,⟨1000006,rfl⟩,⟨1000007,rfl⟩,⟨1000008,rfl⟩,trivial⟩ ⟨_,rfl,cr⟩
  ·rw[if_neg h1]at hr
   refine zw (by simp only[zb];omega) (zt ?_)
   refine⟨by decide,_,rfl,?_⟩
   refine zu (by rw[zc5];rfl) (zq ?_)
   obtain⟨ra,hra⟩: ∃ra,ra=kidV (λj w l=>visV c.O c.i c.only h j w l) c.i c.only h how n late (2*k):=⟨_,rfl⟩
   obtain⟨rb,hrb⟩: ∃rb,rb=kidV (λj w l=>visV c.O c.i c.only h j w l) c.i c.only h how n late (2*k+1):=⟨_,rfl⟩
   have la:=zn3 (b:=2^(h+1)-1) (by omega) (λj w l=>zn5 c.O c.i c.only h j w l) c.i c.only h how n late (2*k)
   rw[<-hra]at la
   refine Vdraw.cut 6 (by kernel_rfl) ?_
   refine ze (zii _) ?_
   rw[hleft]
   refine za rfl rfl ?_
   refine zj [(0,0),(1,1),(2,2),(3,3),(4,4),(5,5),(6,6),(7,7),(8,8),(9,9),(10,10)] [0,1,2,3,4,5,6,7,8] (λvs hv=>zbu (by simp only[List.map];rw[hv 0 0 1000000 _ rfl rfl,hv 1 1 1000001 _ rfl rfl,hv 2 2 1000002 _ rfl rfl,hv 3 3 1000003 _ rfl rfl,hv 4 4 1000004 _ rfl rfl,hv 5 5 1000005 _ rfl rfl,hv 6 6 1000006 _ rfl rfl,hv 7 7 1000007 _ rfl rfl,hv 8 8 1000008 _ rfl rfl];rfl) (c.child hi0 h (by omega) ih (2*k) how n late A B ok (by omega) hl hd (by first |omega |(simp only[List.length_append,List.length_cons,List.length_nil];omega)) (by first |omega |(simp only[List.length_append];omega)) _ rfl)) (Handed.clo (fs:=[.r (I _), .r (I _), .r (.ag n.c), .r (is late)]) (cs:=[.own 1, .own 7, .own 2, .own 5]) rfl rfl ⟨_,_,rfl,cr,_,_,rfl,cr,_,_,rfl,cr,_,_,rfl,cr,rfl⟩ ⟨_,_,rfl,⟨1,1000001,rfl,rfl⟩,_,_,rfl,⟨7,1000007,rfl,rfl⟩,_,_,rfl,⟨2,1000002,rfl,rfl⟩,_,_,rfl,⟨5,1000005,rfl,rfl⟩,rfl⟩) rfl ⟨⟨_,_,rfl,cr,_,_,rfl,cr,_,_,rfl,cr,_,_,rfl,cr,rfl⟩,⟨_,_,rfl,cr,rfl⟩,⟨_,_,rfl,cr,rfl⟩,⟨_,_,rfl,cr,rfl⟩,⟨_,_,rfl,rfl,rfl⟩,⟨_,_,rfl,rfl,rfl⟩,⟨_,_,rfl,cr,rfl⟩,⟨_,_,rfl,cr,rfl⟩,⟨_,_,rfl,cr,rfl⟩,⟨rfl,rfl,rfl,rfl,zn _⟩,⟨rfl,rfl,rfl,rfl,zn _⟩,trivial⟩ ⟨zaa,zaa,zaa,zaa,zaa,zaa,zaa,zaa,zaa,zcx,zcx,trivial⟩ ?_
   rw[<-hra]
   refine zx ?_
   refine Vapp.mk' (j:=((A++ra.1)++[(nd (h+1) k:Int)]).length) (zs:=((A++ra.1)++[(nd (h+1) k:Int)]).map I) (by simp only[maxLen,List.length_append];omega) (by simp;omega) (by rw[List.length_append (bs:=[_])];rfl) (List.map_append (f:=I) (l₁:=(A++ra.1)) (l₂:=[(nd (h+1) k:Int)])).symm ?_
   refine⟨by decide,_,rfl,?_⟩
   refine zu (by rw[zc5];rfl) (zq ?_)
   refine Vdraw.cut 6 (by kernel_rfl) ?_
   refine ze (zg5 _) ?_
   rw[hright]
   refine za rfl rfl ?_
   refine zj [(0,0),(1,1),(2,2),(3,3),(4,4),(5,5),(6,6),(7,7),(8,8),(9,26),(10,24)] [0,1,2,3,4,5,6,7,8] (λvs hv=>zbu (by simp only[List.map];rw[hv 0 0 1000000 _ rfl rfl,hv 1 1 1000001 _ rfl rfl,hv 2 2 1000002 _ rfl rfl,hv 3 3 1000003 _ rfl rfl,hv 4 4 1000004 _ rfl rfl,hv 5 5 1000005 _ rfl rfl,hv 6 6 1000006 _ rfl rfl,hv 7 7 1000007 _ rfl rfl,hv 8 8 1000008 _ rfl rfl];rfl) (c.child hi0 h (by omega) ih (2*k+1) how n late (A++ra.1++[(nd (h+1) k:Int)]) (B++ra.2.1) (ok&&ra.2.2) (by omega) hl hd (by first |omega |(simp only[List.length_append,List.length_cons,List.length_nil];omega)) (by first |omega |(simp only[List.length_append];omega)) _ rfl)) (Handed.clo (fs:=[.r (I _), .r (I _), .r (.ag n.c), .r (is late)]) (cs:=[.own 1, .own 7, .own 2, .own 5]) rfl rfl ⟨_,_,rfl,cr,_,_,rfl,cr,_,_,rfl,cr,_,_,rfl,cr,rfl⟩ ⟨_,_,rfl,⟨1,1000001,rfl,rfl⟩,_,_,rfl,⟨7,1000007,rfl,rfl⟩,_,_,rfl,⟨2,1000002,rfl,rfl⟩,_,_,rfl,⟨5,1000005,rfl,rfl⟩,rfl⟩) rfl ⟨⟨_,_,rfl,cr,_,_,rfl,cr,_,_,rfl,cr,_,_,rfl,cr,rfl⟩,⟨_,_,rfl,cr,rfl⟩,⟨_,_,rfl,cr,rfl⟩,⟨_,_,rfl,cr,rfl⟩,⟨_,_,rfl,rfl,rfl⟩,⟨_,_,rfl,rfl,rfl⟩,⟨_,_,rfl,cr,rfl⟩,⟨_,_,rfl,cr,rfl⟩,⟨_,_,rfl,cr,rfl⟩,⟨rfl,rfl,rfl,rfl,zn _⟩,⟨rfl,rfl,rfl,rfl,zn _⟩,trivial⟩ ⟨zaa,zaa,zaa,zaa,zaa,zaa,zaa,zaa,zaa,zcx,zcx,trivial⟩ ?_
   rw[<-hrb]
   have e1:A++r.1=A++ra.1++[(nd (h+1) k:Int)]++rb.1:=by rw[hr,hra,hrb];simp only[List.append_assoc]
   have e2:B++r.2.1=B++ra.2.1++rb.2.1:=by rw[hr,hra,hrb];simp only[List.append_assoc]
   have e3:(ok&&r.2.2)=((ok&&ra.2.2)&&rb.2.2):=by rw[hr,hra,hrb];simp only[Bool.and_assoc]
   rw[e1,e2,e3]
   exact zah (.inr rfl) [(0,0),(1,1),(2,2),(3,3),(4,4),(5,5),(6,6),(7,7),(8,8),(9,36),(10,37)] [] [] rfl ⟨⟨rfl,rfl⟩,⟨rfl,rfl⟩,⟨rfl,rfl⟩,⟨rfl,rfl⟩,⟨rfl,rfl⟩,⟨rfl,rfl⟩,⟨rfl,rfl⟩,⟨rfl,rfl⟩,⟨rfl,rfl⟩,trivial⟩ ⟨⟨_,_,rfl,cr,_,_,rfl,cr,_,_,rfl,cr,_,_,rfl,cr,rfl⟩,⟨_,_,rfl,cr,rfl⟩,⟨_,_,rfl,cr,rfl⟩,⟨_,_,rfl,cr,rfl⟩,⟨_,_,rfl,rfl,rfl⟩,⟨_,_,rfl,rfl,rfl⟩,⟨_,_,rfl,cr,rfl⟩,⟨_,_,rfl,cr,rfl⟩,⟨_,_,rfl,cr,rfl⟩,⟨rfl,rfl,rfl,rfl,zn _⟩,⟨rfl,rfl,rfl,rfl,zn _⟩,trivial⟩ ⟨⟨1000000,rfl⟩,⟨1000001,rfl⟩,⟨1000002,rfl⟩,⟨1000003,rfl⟩,⟨1000004,rfl⟩,⟨1000005,rfl⟩,⟨1000006,rfl⟩,⟨1000007,rfl⟩,⟨1000008,rfl⟩,trivial⟩ ⟨_,rfl,cr⟩
theorem VC.visit(c:VC)(hO: ∀x n,zae c.O x=some n->n.par.late.length<=100000000/\∀u∈n.par.late,za6 u)(hi0:0<=c.i/\c.i<65536): ∀h,h<=16->c.Vis h
 |0,_=>λk how late A B ok hk hl hd hA hB=>c.visit_zero hO hi0 k how late A B ok hk hl hd hA hB _ rfl
 |h+1,hh=>λk how late A B ok hk hl hd hA hB=>c.visit_up hO hi0 h hh (c.visit hO hi0 h (by omega)) k how late A B ok hk hl hd hA hB _ rfl
end
section
section
variable {P:Program} {T:TT} {S:St} {o:Oper}
theorem Vstep.nm(id t:Nat)(hid:Nat.blt id S.nx=true){K:St->Prop}(h: ∀v,Vstep P ⟨(t, .nm id v)::S.F,S.O,S.nx⟩ o K):Vstep P S o K:=by
 refine⟨Σ v:Value,(h v).out.choose,λx=>(h x.1).out.choose_spec.choose x.2,λB N a w k Q hs0 hd=>?_,λx=>(h x.1).out.choose_spec.choose_spec.2 x.2⟩
 obtain⟨g,hs⟩:=hs0
 have hs1:Sat B N ⟨(t, .nm id (g id).1)::S.F,S.O,S.nx⟩ a w k:=by
  refine⟨g,hs.size,hs.defers,hs.keep,hs.kk,λt' f hf=>?_,hs.owns,hs.apart⟩
  rcases zca hf with⟨rfl,rfl⟩ |⟨_,hf⟩
  ·exact⟨by simp[Nat.blt]at hid;simp only[TF.lt];omega,rfl⟩
  ·exact hs.facts t' f hf
 refine Oper.wp_mono ?_ ((h (g id).1).out.choose_spec.choose_spec.1 B N a w k Q hs1 hd)
 rintro a' w' ⟨i,k',hs'⟩
 exact⟨⟨(g id).1,i⟩,k',hs'⟩
def zt0(S:St):List Operand->List Value->Prop
 |[],vs=>vs=[]
 |x::xs,vs=>∃v r,vs=v::r/\(∃id t,opr S x=some (.own id)/\fget S.F t=some (.nm id v))/\zt0 S xs r
theorem Vstep.mkfunX{f:FuncId}{cap:Array Operand}(vs:List Value){K:St->Prop}(hop:o.op= .makeFunc (.func f) #[] cap) (hc:zt0 S cap.toList vs) (hK:newK S o.dst (.r (.x (.func (.func f) #[] vs.toArray))) none K):Vstep P S o K:=by
 rw[zci]at hK
 refine Vstep.one (λB N a w k Q ⟨g,hs⟩ hd=>?_) hK
 have key: ∀(xs:List Operand) (vs:List Value),zt0 S xs vs->xs.map a.eval=vs:=by
  intro xs
  induction xs with
  |nil=>intro vs h;simp only[zt0]at h;subst h;rfl
  |cons x r ih=>
   intro vs h
   simp only[zt0]at h
   obtain⟨v,r',rfl,⟨id,t,hx,ht⟩,hr⟩:=h
   have h1:=(zak hs hx).2
   have h2:=(hs.facts t _ ht).2
   simp only[TF.at_]at h1 h2
   rw[List.map_cons,ih r' hr,h1,h2]
 have hv:cap.map a.eval=vs.toArray:=by
  apply Array.ext'
  rw[Array.toList_map]
  exact key _ _ hc
 refine zbr (v:= .func (.func f) #[] vs.toArray) (w':=w) (by simp[execOp,hop,Instr.makeFunc,hv]) ⟨k,g,hs.put hd trivial ?_⟩
 simp only[TF.at_,RV.at_]
theorem zdpb{T:TT}{results:List ResultVar}{names:List (Nat×Value)}{n1:Nat}{O1:List (Nat×Ow)}{res:TF}{ex:Exit}{S S':St}(h:Sub S S')(he:endT T results names n1 O1 res ex S'):endT T results names n1 O1 res ex S:=by
 obtain⟨hex,S1,hs,h2⟩:=he
 exact⟨hex,S1,Sub.trans h hs,h2⟩
end
set_option maxHeartbeats 4000000 in
theorem za2b(leaves own:Int)(O:List Spot)(H:List Stub)(p0:Value)(hO: ∀x n,zae O x=some n->n.par.late.length<=100000000/\∀u∈n.par.late,za6 u)(d:Nat)(hd:d<=16)(n i:Int)(hn:n=((2^d:Nat):Int))(hi0:0<=i/\i<65536)(only:Bool)(r:V3)(hr:r=visV O i only d 0 0 []):
  Acts Tryz.prog 204 1 [(0,pbox leaves own O H)] [.r (I n), .r (I i), .r (.b only), .r (.x (.func (.func 205) #[] #[p0]))] [(0,p0)] 11 [(0,pbox leaves own O H)] (.r (.tu [is r.1,is r.2.1, .b r.2.2])):=by
 refine zam (T:=Tab) mixed Tab_ok Tryz.func204 rfl (by kernel_rfl) rfl ⟨⟨_,_,rfl,rfl,zap,zap⟩,trivial⟩ ?_
 have hroot:zgu n=(nd d 0:Int):=by
  have hfit:za0 n=true:=by rw[hn];exact zdd d hd
  unfold zgu
  rw[if_pos hfit,zg0,hn]
 have hp:2^(d+1)<=131072:=Nat.pow_le_pow_right (n:=2) (by omega) (show d+1<=17 by omega)
 refine Vstep.nm 1 1000001 rfl λp1=>Vstep.nm 7 1000007 rfl λp7=>Vstep.nm 2 1000002 rfl λp2=>Vstep.nm 5 1000005 rfl λp5=>Vstep.mkfunX [p1,p7,p2,p5] rfl ⟨_,_,rfl,⟨1,1000001,rfl,rfl⟩,_,_,rfl,⟨7,1000007,rfl,rfl⟩,_,_,rfl,⟨2,1000002,rfl,rfl⟩,_,_,rfl,⟨5,1000005,rfl,rfl⟩,rfl⟩ ?_
 refine Vstep.nm 3 1000003 rfl λp3=>Vstep.nm 6 1000006 rfl λp6=>Vstep.nm 8 1000008 rfl λp8=>Vstep.nm 4 1000004 rfl λp4=>Vstep.mkfunX [p3,p6,p8,p4] rfl ⟨_,_,rfl,⟨3,1000003,rfl,rfl⟩,_,_,rfl,⟨6,1000006,rfl,rfl⟩,_,_,rfl,⟨8,1000008,rfl,rfl⟩,_,_,rfl,⟨4,1000004,rfl,rfl⟩,rfl⟩ ?_
 obtain⟨c,hc⟩: ∃c:VC,c=⟨leaves,own,O,H,i,only,p0,p1,p2,p3,p4,p5,p6,p7,p8⟩:=⟨_,rfl⟩
 refine Vdraw.cut 3 (by kernel_rfl) ?_
 refine ze (zvn n) ?_
 rw[hroot]
 have hvis:=(VC.visit ⟨leaves,own,O,H,i,only,p0,p1,p2,p3,p4,p5,p6,p7,p8⟩ hO hi0 d hd) 0 0 [] [] [] true (Nat.pow_pos (by omega)) (by simp) (by simp) (by simp only[List.length_nil];omega) (by simp only[List.length_nil];omega)
 simp only at hvis
 rw[<-hr,List.nil_append,List.nil_append,Bool.true_and]at hvis
 refine Vstep.sub (Sub.trans (zcu false 4 0 3 1 rfl rfl) (zcu false 5 0 3 1 rfl rfl)) ?_
 refine zj [(0,0),(1,1),(2,2),(3,3),(4,4),(5,5),(6,6),(7,7),(8,8),(9,9),(10,10)] [0,1,2,3,4,5,6,7,8] (λvs hv=>zbu (by simp only[List.map];rw[hv 0 0 1000000 _ rfl rfl,hv 1 1 1000001 _ rfl rfl,hv 2 2 1000002 _ rfl rfl,hv 3 3 1000003 _ rfl rfl,hv 4 4 1000004 _ rfl rfl,hv 5 5 1000005 _ rfl rfl,hv 6 6 1000006 _ rfl rfl,hv 7 7 1000007 _ rfl rfl,hv 8 8 1000008 _ rfl rfl];rfl) hvis) (Handed.clo (fs:=[.r (I _), .r (I _), .r (is [])]) (cs:=[.own 3, .own 6, .own 8, .own 4]) rfl rfl ⟨_,_,rfl,cr,_,_,rfl,cr,_,_,rfl,Cv.nil 1,rfl⟩ ⟨_,_,rfl,⟨3,1000003,rfl,rfl⟩,_,_,rfl,⟨6,1000006,rfl,rfl⟩,_,_,rfl,⟨8,1000008,rfl,rfl⟩,_,_,rfl,⟨4,1000004,rfl,rfl⟩,rfl⟩) rfl ⟨⟨_,_,rfl,cr,_,_,rfl,cr,_,_,rfl,cr,_,_,rfl,cr,rfl⟩,⟨_,_,rfl,cr,rfl⟩,⟨_,_,rfl,cr,rfl⟩,⟨_,_,rfl,cr,rfl⟩,⟨_,_,rfl,rfl,rfl⟩,⟨_,_,rfl,rfl,rfl⟩,⟨_,_,rfl,cr,rfl⟩,⟨_,_,rfl,cr,rfl⟩,⟨_,_,rfl,cr,rfl⟩,⟨rfl,rfl,rfl,rfl,zn _⟩,⟨rfl,rfl,rfl,rfl,zn _⟩,trivial⟩ ⟨zaa,zaa,zaa,zaa,zaa,zaa,zaa,zaa,zaa,zcx,zcx,trivial⟩ ?_
 refine Vdraw.code (Vcode.float mixed Tab_ok 5 [⟨0,19, .own 9,[]⟩,⟨1,20, .own 10,[]⟩,⟨2,21, .r (.b r.2.2),[]⟩] [(3,[0]),(4,[1])] (by kernel_rfl) (F:=[(8, .own 4),(9, .own 5),(10, .own 6),(1000000, .nm 0 p0)]) (O:=[(0,some (pbox leaves own O H)),(4,some (.box [.own 9])),(5,some (.box [.own 10])),(6,some (.box [.r (.b r.2.2)])),(9,some (.ch 3 1 r.1.length (r.1.map I) false)),(10,some (.ch 3 1 r.2.1.length (r.2.1.map I) false))]) (nx:=11) (zad [(0,0),(4,4),(5,5),(6,6),(9,20),(10,21)] rfl ⟨rfl,rfl,rfl,⟨rfl,rfl⟩,trivial⟩ ⟨⟨_,_,rfl,cr,_,_,rfl,cr,_,_,rfl,cr,_,_,rfl,cr,rfl⟩,⟨_,_,rfl,rfl,rfl⟩,⟨_,_,rfl,rfl,rfl⟩,⟨_,_,rfl,cr,rfl⟩,⟨rfl,rfl,rfl,rfl,zn _⟩,⟨rfl,rfl,rfl,rfl,zn _⟩,trivial⟩) ?_)
 refine⟨rfl,⟨λY=>zo _,λY=>zo _,λY=>zo _,trivial⟩,[(8, .own 4),(9, .own 5),(10, .own 6),(1000000, .nm 0 p0)],(4,some (.box [.own 9]))::[(0,some (pbox leaves own O H)),(4,some (.box [.own 9])),(5,some (.box [.own 10])),(6,some (.box [.r (.b r.2.2)])),(9,some (.ch 3 1 r.1.length (r.1.map I) false)),(10,some (.ch 3 1 r.2.1.length (r.2.1.map I) false))],11,λY=>zo _,?_⟩
 refine⟨rfl,⟨λY=>zo _,λY=>zo _,λY=>zo _,trivial⟩,[(8, .own 4),(9, .own 5),(10, .own 6),(1000000, .nm 0 p0)],(5,some (.box [.own 10]))::(4,some (.box [.own 9]))::[(0,some (pbox leaves own O H)),(4,some (.box [.own 9])),(5,some (.box [.own 10])),(6,some (.box [.r (.b r.2.2)])),(9,some (.ch 3 1 r.1.length (r.1.map I) false)),(10,some (.ch 3 1 r.2.1.length (r.2.1.map I) false))],11,λY=>zo _,?_⟩
 refine⟨rfl,⟨λY=>zo _,λY=>zo _,λY=>zo _,trivial⟩,?_⟩
 refine zdpb (Sub.trans (zj1 (id:=9) rfl) (zj1 (id:=10) rfl)) ?_
 exact zah (.inl rfl) [(0,0),(4,4),(5,5),(6,6),(9,9),(10,10)] [(8, .own 4),(9, .own 5),(10, .own 6)] [(4,some (.box [.own 9])),(5,some (.box [.own 10])),(6,some (.box [.r (.b r.2.2)])),(9,some (.ch 3 1 r.1.length (r.1.map I) true)),(10,some (.ch 3 1 r.2.1.length (r.2.1.map I) true))] rfl ⟨rfl,rfl,rfl,⟨rfl,rfl⟩,trivial⟩ ⟨⟨_,_,rfl,cr,_,_,rfl,cr,_,_,rfl,cr,_,_,rfl,cr,rfl⟩,⟨_,_,rfl,rfl,rfl⟩,⟨_,_,rfl,rfl,rfl⟩,⟨_,_,rfl,cr,rfl⟩,⟨rfl,rfl,rfl,rfl,zn _⟩,⟨rfl,rfl,rfl,rfl,zn _⟩,trivial⟩ ⟨⟨1000000,rfl⟩,trivial⟩ ⟨_,rfl,cr⟩
end
end Go.Proofs.YtpdllgbfemnemaaGreat.Sx
