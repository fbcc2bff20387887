import Derived.Test.YtpdllgbfemnemaaGreatZTe
import Derived.Test.YtpdllgbfemnemaaGreatZRe
namespace Go.Proofs.YtpdllgbfemnemaaGreat.Sx
open Go.RowKit
set_option linter.unusedVariables false
section
def lfC(y:Leaf):List RV:=[U8 1,bs y.box,bs y.sign,bs y.ident,U8 y.src,bs y.parent,bs y.sig, .x (.slice none 0 0), .x (.slice none 0 0), .x (.slice none 0 0)]
def prC(y:Par):List RV:=[U8 2, .x (.slice none 0 0), .x (.slice none 0 0), .x (.slice none 0 0), .i .u8 0, .x (.slice none 0 0), .x (.slice none 0 0),bs y.box,bs y.hash,is y.late]
theorem z0f(P:Par):Cv (.ag (prC P)) (.ag (Node.c ⟨2,zl,P⟩)):=z15 P
theorem zyd(L:Leaf):Cv (.ag (lfC L)) (.ag (Node.c ⟨1,L,zp⟩)):=zzi L
theorem zwa(l:List UInt8):parP l=match zbw 3 l with
  | .err e=> .err e
  | .ok vs r=>if(vs.getD 2 []).length%4=0/\(zgc vs).right=true then .ok ⟨2,zl,zgc vs⟩ r else .err 3:=rfl
theorem zavb{l:List UInt8}{e:Nat}(h:parP l= .err e):e=3\/e=4:=by
 rw[zwa]at h
 cases hv:zbw 3 l with
 |err e'=>rw[hv]at h;injection h with h;subst h;exact zhy 3 hv
 |ok vs s=>
  rw[hv]at h
  simp only at h
  split at h
  ·cases h
  ·injection h with h;omega
theorem zcub{l r:List UInt8}{vs:List (List UInt8)}(hv:zbw 3 l= .ok vs r): ∃x0 x1 x2 r0 r1,vecP l= .ok x0 r0/\vecP r0= .ok x1 r1/\vecP r1= .ok x2 r/\vs=[x0,x1,x2]:=by
 simp only[zbw]at hv
 cases h0:vecP l with
 |err e'=>rw[h0]at hv;cases hv
 |ok x0 r0=>
  rw[h0]at hv
  simp only at hv
  cases h1:vecP r0 with
  |err e'=>rw[h1]at hv;cases hv
  |ok x1 r1=>
   rw[h1]at hv
   simp only at hv
   cases h2:vecP r1 with
   |err e'=>rw[h2]at hv;cases hv
   |ok x2 r2=>
    rw[h2]at hv
    simp only[PR.ok.injEq]at hv
    obtain⟨rfl,rfl⟩:=hv
    exact⟨x0,x1,x2,r0,r1,rfl,h1,h2,rfl⟩
theorem zyf(v:Value)(l:List UInt8)(e:Nat)(hl:l.length<=100000000)(h:parP l= .err e):Acts Tryz.prog 216 1 (rdL l) [.own 0] [(0,v)] 2 rdZ (.r (.tu [.ag zp.c,Er e])):=by
 rw[zwa]at h
 cases hv:zbw 3 l with
 |err e'=>rw[hv]at h;injection h with h;subst h;exact zvv v l (by omega) e' hv
 |ok vs r=>
  rw[hv]at h
  obtain⟨x0,x1,x2,r0,r1,h0,h1,h2,rfl⟩:=zcub hv
  simp only at h
  split at h
  ·cases h
  ·rename_i hn
   injection h with h
   subst h
   exact znl v l hl x0 x1 x2 r0 r1 r h0 h1 h2 _ _ _ (by rw[if_neg (show¬(x2.length%4=0/\(zgc [x0,x1,x2]).right=true)from hn)];exact⟨rfl,rfl,rfl⟩)
theorem zxn(v:Value)(l r:List UInt8)(n:Node)(hl:l.length<=100000000)(h:parP l= .ok n r):n=⟨2,zl,n.par⟩/\Acts Tryz.prog 216 1 (rdL l) [.own 0] [(0,v)] 2 (rdL r) (.r (.tu [.ag n.par.c,Er 0])):=by
 rw[zwa]at h
 cases hv:zbw 3 l with
 |err e'=>rw[hv]at h;cases h
 |ok vs q=>
  rw[hv]at h
  obtain⟨x0,x1,x2,r0,r1,h0,h1,h2,rfl⟩:=zcub hv
  simp only at h
  split at h
  ·rename_i hn
   injection h with h3 h4
   subst h3;subst h4
   exact⟨rfl,znl v l hl x0 x1 x2 r0 r1 q h0 h1 h2 _ _ _ (by rw[if_pos (show x2.length%4=0/\(zgc [x0,x1,x2]).right=true from hn)];exact⟨rfl,rfl,rfl⟩)⟩
  ·cases h
set_option maxHeartbeats 2000000 in
theorem zue(v:Value)(l:List UInt8)(hl:l.length<=100000000)(O1:List (Nat×Ow))(x:Node)(e:Nat)
  (h:match zbz l with
   | .err e'=>O1=rdZ/\x=Node.zero/\e=e'
   | .ok y r=>O1=rdL r/\x=y/\e=0):Acts Tryz.prog 202 1 (rdL l) [.own 0] [(0,v)] 2 O1 (.r (.tu [.ag x.c,Er e])):=by
 refine zam (T:=Tab) mixed Tab_ok Tryz.func202 rfl (by kernel_rfl) rfl ?_ ?_
 ·cases hP:zbz l with
  |err e'=>rw[hP]at h;obtain⟨rfl,_,_⟩:=h;exact zlg _ _ _
  |ok m r=>rw[hP]at h;obtain⟨rfl,_,_⟩:=h;exact zb2 _ _ _ _ _
 cases l with
 |nil=>
  obtain⟨rfl,rfl,rfl⟩:=h
  refine zj [(0,0)] [0] (λvs _=>zik (vs 0) [] 1 (by omega) (by simp)) (zi rfl ⟨_,_,rfl,rfl,_,_,rfl,cr,rfl⟩) rfl ⟨⟨_,_,rfl,cr,_,_,rfl,cr,rfl⟩,trivial⟩ ⟨zaa,trivial⟩ ?_
  refine Vint.byte 0 rfl ?_
  refine zj [(0,0)] [0] (λvs _=>zcy (vs 0) _) (zi rfl ⟨_,_,rfl,rfl,rfl⟩) rfl ⟨⟨_,_,rfl,trivial,_,_,rfl,cr,rfl⟩,trivial⟩ ⟨zaa,trivial⟩ ?_
  refine zu rfl (zq ?_)
  exact zah (.inl rfl) [(0,0),(1,1)] [(2, .own 1),(3, .r (Er _))] [(1,some (.box ((zc:List RV).map .r)))] rfl ⟨rfl,cr,⟨rfl,rfl⟩,trivial⟩ ⟨⟨_,_,rfl,trivial,_,_,rfl,trivial,rfl⟩,⟨_,_,rfl,cr,_,_,rfl,cr,_,_,rfl,cr,_,_,rfl,cr,_,_,rfl,cr,_,_,rfl,cr,_,_,rfl,cr,_,_,rfl,cr,_,_,rfl,cr,_,_,rfl,cr,rfl⟩,trivial⟩ ⟨⟨1000000,rfl⟩,trivial⟩ (za rfl rfl ⟨_,rfl,Cv.tu (zk zg4 (zn _))⟩)
 |cons c r=>
  have hcl:=c.toNat_lt
  have hlr:r.length<=100000000:=by simp only[List.length_cons]at hl;omega
  refine zj [(0,0)] [0] (λvs _=>zno (vs 0) (c::r) 1 (by omega) (by simp)) (zi rfl ⟨_,_,rfl,rfl,_,_,rfl,cr,rfl⟩) rfl ⟨⟨_,_,rfl,cr,_,_,rfl,cr,rfl⟩,trivial⟩ ⟨zaa,trivial⟩ ?_
  rw[show List.take 1 (c::r)=[c]from rfl,num1]
  refine Vint.byte c rfl ?_
  refine zj [(0,0)] [0] (λvs _=>zfn (vs 0) r) (zi rfl ⟨_,_,rfl,rfl,rfl⟩) rfl ⟨⟨_,_,rfl,cr,_,_,rfl,cr,rfl⟩,trivial⟩ ⟨zaa,trivial⟩ ?_
  refine zw rfl (zt ?_)
  simp only[zbz]at h
  by_cases hc0:c.toNat=0
  ·rw[if_pos hc0]at h
   obtain⟨rfl,rfl,rfl⟩:=h
   refine zu (by simp only[zb];omega) (zq ?_)
   refine za rfl rfl ?_
   obtain rfl:c=0:=UInt8.toNat.inj hc0
   exact zah (.inl rfl) [(0,0),(1,1)] [(2, .own 1),(3, .r (Er 0))] [(1,some (.box ((zc:List RV).map .r)))] rfl ⟨rfl,cr,⟨rfl,rfl⟩,trivial⟩ ⟨⟨_,_,rfl,cr,_,_,rfl,cr,rfl⟩,⟨_,_,rfl,cr,_,_,rfl,cr,_,_,rfl,cr,_,_,rfl,cr,_,_,rfl,cr,_,_,rfl,cr,_,_,rfl,cr,_,_,rfl,cr,_,_,rfl,cr,_,_,rfl,cr,rfl⟩,trivial⟩ ⟨⟨1000000,rfl⟩,trivial⟩ (za rfl rfl ⟨_,rfl,Cv.tu (zk zg4 (zn _))⟩)
  rw[if_neg hc0]at h
  refine zw (by simp only[zb];omega) (zt ?_)
  by_cases hc1:c.toNat=1
  ·rw[if_pos hc1]at h
   refine zu (by simp only[zb];omega) (zq ?_)
   obtain rfl:c=1:=UInt8.toNat.inj hc1
   cases hp:zej r with
   |err e'=>
    rw[hp]at h
    obtain⟨rfl,rfl,rfl⟩:=h
    have he:=zxq hp
    refine zj [(0,0)] [0] (λvs _=>zwc (vs 0) r _ (by omega) hp) (zi rfl ⟨_,_,rfl,rfl,rfl⟩) rfl ⟨⟨_,_,rfl,cr,_,_,rfl,cr,rfl⟩,trivial⟩ ⟨zaa,trivial⟩ ?_
    refine zu (by simp only[zb];omega) (zq ?_)
    exact zah (.inl rfl) [(0,0),(1,1)] [(2, .own 1),(3, .r (Er _))] [(1,some (.box ((zc:List RV).map .r)))] rfl ⟨rfl,cr,⟨rfl,rfl⟩,trivial⟩ ⟨⟨_,_,rfl,trivial,_,_,rfl,trivial,rfl⟩,⟨_,_,rfl,cr,_,_,rfl,cr,_,_,rfl,cr,_,_,rfl,cr,_,_,rfl,cr,_,_,rfl,cr,_,_,rfl,cr,_,_,rfl,cr,_,_,rfl,cr,_,_,rfl,cr,rfl⟩,trivial⟩ ⟨⟨1000000,rfl⟩,trivial⟩ (za rfl rfl ⟨_,rfl,Cv.tu (zk zg4 (zn _))⟩)
   |ok y q=>
    rw[hp]at h
    obtain⟨rfl,rfl,rfl⟩:=h
    refine zj [(0,0)] [0] (λvs _=>z4r (vs 0) r q y (by omega) hp) (zi rfl ⟨_,_,rfl,rfl,rfl⟩) rfl ⟨⟨_,_,rfl,cr,_,_,rfl,cr,rfl⟩,trivial⟩ ⟨zaa,trivial⟩ ?_
    refine zw rfl (zt ?_)
    refine za rfl rfl ?_
    exact zah (.inl rfl) [(0,0),(1,1)] [(2, .own 1),(3, .r (Er 0))] [(1,some (.box ((lfC y:List RV).map .r)))] rfl ⟨rfl,cr,⟨rfl,rfl⟩,trivial⟩ ⟨⟨_,_,rfl,cr,_,_,rfl,cr,rfl⟩,⟨_,_,rfl,cr,_,_,rfl,cr,_,_,rfl,cr,_,_,rfl,cr,_,_,rfl,cr,_,_,rfl,cr,_,_,rfl,cr,_,_,rfl,cr,_,_,rfl,cr,_,_,rfl,cr,rfl⟩,trivial⟩ ⟨⟨1000000,rfl⟩,trivial⟩ (za rfl rfl ⟨_,rfl,Cv.tu (zk (zyd y) (zn _))⟩)
  rw[if_neg hc1]at h
  refine zw (by simp only[zb];omega) (zt ?_)
  by_cases hc2:c.toNat=2
  ·rw[if_pos hc2]at h
   refine zu (by simp only[zb];omega) (zq ?_)
   obtain rfl:c=2:=UInt8.toNat.inj hc2
   cases hp:parP r with
   |err e'=>
    rw[hp]at h
    obtain⟨rfl,rfl,rfl⟩:=h
    have he:=zavb hp
    refine zj [(0,0)] [0] (λvs _=>zyf (vs 0) r _ hlr hp) (zi rfl ⟨_,_,rfl,rfl,rfl⟩) rfl ⟨⟨_,_,rfl,cr,_,_,rfl,cr,rfl⟩,trivial⟩ ⟨zaa,trivial⟩ ?_
    refine zu (by simp only[zb];omega) (zq ?_)
    exact zah (.inl rfl) [(0,0),(1,1)] [(2, .own 1),(3, .r (Er _))] [(1,some (.box ((zc:List RV).map .r)))] rfl ⟨rfl,cr,⟨rfl,rfl⟩,trivial⟩ ⟨⟨_,_,rfl,trivial,_,_,rfl,trivial,rfl⟩,⟨_,_,rfl,cr,_,_,rfl,cr,_,_,rfl,cr,_,_,rfl,cr,_,_,rfl,cr,_,_,rfl,cr,_,_,rfl,cr,_,_,rfl,cr,_,_,rfl,cr,_,_,rfl,cr,rfl⟩,trivial⟩ ⟨⟨1000000,rfl⟩,trivial⟩ (za rfl rfl ⟨_,rfl,Cv.tu (zk zg4 (zn _))⟩)
   |ok y q=>
    rw[hp]at h
    obtain⟨rfl,rfl,rfl⟩:=h
    have hg:=(zxn v r q x hlr hp).1
    refine zj [(0,0)] [0] (λvs _=>(zxn (vs 0) r q x hlr hp).2) (zi rfl ⟨_,_,rfl,rfl,rfl⟩) rfl ⟨⟨_,_,rfl,cr,_,_,rfl,cr,rfl⟩,trivial⟩ ⟨zaa,trivial⟩ ?_
    refine zw rfl (zt ?_)
    refine za rfl rfl ?_
    have hcv:Cv (.ag (prC x.par)) (.ag x.c):=by rw[hg];exact z0f x.par
    exact zah (.inl rfl) [(0,0),(1,1)] [(2, .own 1),(3, .r (Er 0))] [(1,some (.box ((prC x.par:List RV).map .r)))] rfl ⟨rfl,cr,⟨rfl,rfl⟩,trivial⟩ ⟨⟨_,_,rfl,cr,_,_,rfl,cr,rfl⟩,⟨_,_,rfl,cr,_,_,rfl,cr,_,_,rfl,cr,_,_,rfl,cr,_,_,rfl,cr,_,_,rfl,cr,_,_,rfl,cr,_,_,rfl,cr,_,_,rfl,cr,_,_,rfl,cr,rfl⟩,trivial⟩ ⟨⟨1000000,rfl⟩,trivial⟩ (za rfl rfl ⟨_,rfl,Cv.tu (zk hcv (zn _))⟩)
  rw[if_neg hc2]at h
  obtain⟨rfl,rfl,rfl⟩:=h
  refine zw (by simp only[zb];omega) (zt ?_)
  refine zu rfl (zq ?_)
  exact zah (.inl rfl) [(0,0),(1,1)] [(2, .own 1),(3, .r (Er _))] [(1,some (.box ((zc:List RV).map .r)))] rfl ⟨rfl,cr,⟨rfl,rfl⟩,trivial⟩ ⟨⟨_,_,rfl,trivial,_,_,rfl,trivial,rfl⟩,⟨_,_,rfl,cr,_,_,rfl,cr,_,_,rfl,cr,_,_,rfl,cr,_,_,rfl,cr,_,_,rfl,cr,_,_,rfl,cr,_,_,rfl,cr,_,_,rfl,cr,_,_,rfl,cr,rfl⟩,trivial⟩ ⟨⟨1000000,rfl⟩,trivial⟩ (za rfl rfl ⟨_,rfl,Cv.tu (zk zg4 (zn _))⟩)
theorem zr7(v:Value)(l:List UInt8)(e:Nat)(hl:l.length<=100000000)(h:zbz l= .err e):Acts Tryz.prog 202 1 (rdL l) [.own 0] [(0,v)] 2 rdZ (.r (.tu [.ag Node.zero.c,Er e])):=
 zue v l hl _ _ _ (by rw[h];exact⟨rfl,rfl,rfl⟩)
theorem z37(v:Value)(l r:List UInt8)(n:Node)(hl:l.length<=100000000)(h:zbz l= .ok n r):Acts Tryz.prog 202 1 (rdL l) [.own 0] [(0,v)] 2 (rdL r) (.r (.tu [.ag n.c,Er 0])):=
 zue v l hl _ _ _ (by rw[h];exact⟨rfl,rfl,rfl⟩)
end
section
def zb7:Nat->Nat->List UInt8->PR (List Spot×List Stub)
 |_,_,[]=> .err 4
 |h,k,c::r=>
  if 1<c.toNat then .err 3 else if c.toNat=0 then(if r.length<32 then .err 4 else .ok ([],[⟨(nd h k:Int),r.take 32⟩]) (r.drop 32))
  else match zbz r with
   | .err e=> .err e
   | .ok n s=>
    match h with
    |0=>if n.kind.toNat=2 then .err 3 else .ok ([⟨(nd 0 k:Int),n⟩],[]) s
    |h+1=>if n.kind.toNat=1 then .err 3 else match zb7 h (2*k) s with
     | .err e=> .err e
     | .ok a s=>match zb7 h (2*k+1) s with
      | .err e=> .err e
      | .ok b s=> .ok ([⟨(nd (h+1) k:Int),n⟩]++a.1++b.1,a.2++b.2) s
def zur(p q:PR (List Spot×List Stub)):Prop:=match p with
 | .err e=>q= .err e
 | .ok x r=>∃y,q= .ok (y,x.2) r/\y.Perm x.1
theorem zwi: ∀(h k:Nat) (l:List UInt8),zur (zbn h k l) (zb7 h k l):=by
 intro h
 induction h with
 |zero=>
  intro k l
  cases l with
  |nil=>rfl
  |cons c r=>
   simp only[zbn,zb7]
   split
   ·rfl
   ·split
    ·split
     ·rfl
     ·exact⟨_,rfl,List.Perm.refl _⟩
    ·cases zbz r with
     |err e=>rfl
     |ok n s=>
      simp only
      split
      ·rfl
      ·exact⟨_,rfl,List.Perm.refl _⟩
 |succ h ih=>
  intro k l
  cases l with
  |nil=>rfl
  |cons c r=>
   simp only[zbn,zb7]
   split
   ·rfl
   ·split
    ·split
     ·rfl
     ·exact⟨_,rfl,List.Perm.refl _⟩
    ·cases zbz r with
     |err e=>rfl
     |ok n s=>
      simp only
      split
      ·rfl
      ·have h1:=ih (2*k) s
       cases ha:zbn h (2*k) s with
       |err e=>rw[ha]at h1;simp only[zur]at h1;rw[h1];rfl
       |ok a s1=>
        rw[ha]at h1
        obtain⟨y,hy,py⟩:=h1
        rw[hy]
        simp only
        have h2:=ih (2*k+1) s1
        cases hb:zbn h (2*k+1) s1 with
        |err e=>rw[hb]at h2;simp only[zur]at h2;rw[h2];rfl
        |ok b s2=>
         rw[hb]at h2
         obtain⟨z,hz,pz⟩:=h2
         rw[hz]
         refine⟨_,rfl,?_⟩
         simp only[List.singleton_append,List.append_assoc,List.cons_append]
         exact(((py.append pz).cons _)).trans List.perm_middle.symm
theorem zi3: ∀(h k:Nat) {l r:List UInt8} {y:List Spot×List Stub},zb7 h k l= .ok y r->(∀s∈y.1,inR h k s.at_)/\(∀s∈y.2,inR h k s.at_)/\r.length<=l.length:=by
 intro h
 induction h with
 |zero=>
  intro k l r y hl
  cases l with
  |nil=>cases hl
  |cons c q=>
   simp only[zb7]at hl
   split at hl
   ·cases hl
   ·split at hl
    ·split at hl
     ·cases hl
     ·injection hl with h1 h2;subst h1;subst h2
      exact⟨λs hs=>(by cases hs),λs hs=>by rw[List.mem_singleton.1 hs];exact za9 _ _,by simp;omega⟩
    ·cases hn:zbz q with
     |err e=>rw[hn]at hl;cases hl
     |ok n s=>
      rw[hn]at hl
      obtain⟨j,rfl,hj⟩:=zfq hn
      simp only at hl
      split at hl
      ·cases hl
      ·injection hl with h1 h2;subst h1;subst h2
       exact⟨λs hs=>by rw[List.mem_singleton.1 hs];exact za9 _ _,λs hs=>by(cases hs),by simp;omega⟩
 |succ h ih=>
  intro k l r y hl
  cases l with
  |nil=>cases hl
  |cons c q=>
   simp only[zb7]at hl
   split at hl
   ·cases hl
   ·split at hl
    ·split at hl
     ·cases hl
     ·injection hl with h1 h2;subst h1;subst h2
      exact⟨λs hs=>(by cases hs),λs hs=>by rw[List.mem_singleton.1 hs];exact za9 _ _,by simp;omega⟩
    ·cases hn:zbz q with
     |err e=>rw[hn]at hl;cases hl
     |ok n s=>
      rw[hn]at hl
      obtain⟨j,rfl,hj⟩:=zfq hn
      simp only at hl
      split at hl
      ·cases hl
      ·cases ha:zb7 h (2*k) (q.drop j)with
       |err e=>rw[ha]at hl;cases hl
       |ok a s1=>
        rw[ha]at hl
        simp only at hl
        cases hb:zb7 h (2*k+1) s1 with
        |err e=>rw[hb]at hl;cases hl
        |ok b s2=>
         rw[hb]at hl
         injection hl with h1 h2;subst h1;subst h2
         obtain⟨a1,a2,a3⟩:=ih _ ha
         obtain⟨b1,b2,b3⟩:=ih _ hb
         refine⟨λs hs=>?_,λs hs=>?_,by rw[List.length_drop]at a3;simp;omega⟩
         ·rcases List.mem_append.1 hs with hs |hs
          ·rcases List.mem_append.1 hs with hs |hs
           ·rw[List.mem_singleton.1 hs];exact za9 _ _
           ·exact(zbs (a1 s hs)).1
          ·exact(zbv (b1 s hs)).1
         ·rcases List.mem_append.1 hs with hs |hs
          ·exact(zbs (a2 s hs)).1
          ·exact(zbv (b2 s hs)).1
def mapZ:GOw where
 at_ w k vb:=∃ents,(mapO ents).at_ w k vb
 mono:=λh hb ⟨e,he⟩=>⟨e,(mapO e).mono h hb he⟩
 one:=λ⟨e,he⟩=>(mapO e).one he
theorem zz6:Nmd (.gen mapZ):=λw k g vb ⟨e,he⟩=>zjg (ents:=e) w k g vb he
theorem zbu{P:Program}{f:FuncId}{n0 n1:Nat}{O0 O1:List (Nat×Ow)}{args:List TF}{names names':List (Nat×Value)}{res:TF}(e:names=names')(h:Acts P f n0 O0 args names n1 O1 res):Acts P f n0 O0 args names' n1 O1 res:=e▸h
theorem zmi{A:List Spot}{x:Int}(h: ∀s∈A,s.at_≠x):zcw (za5 A) x=none:=by
 rw[zg2,Option.map_eq_none_iff]
 unfold zae
 rw[Option.map_eq_none_iff,List.find?_eq_none]
 intro s hs
 simpa using h s hs
theorem zmo{A:List Stub}{x:Int}(h: ∀s∈A,s.at_≠x):zcw (zba A) x=none:=by
 rw[zgs,Option.map_eq_none_iff]
 unfold zcc
 rw[Option.map_eq_none_iff,List.find?_eq_none]
 intro s hs
 simpa using h s hs
abbrev pcR(leaves own:Int)(m1 m2:Value):RV:= .ag [I leaves,I own, .x m1, .x m2]
abbrev tkO(l:List UInt8)(A:List Spot)(B:List Stub):List (Nat×Ow):=[(0,rdO (bs l) 0),(1, .gen (mapO (za5 A))),(2, .gen (mapO (zba B)))]
abbrev tkZ:List (Nat×Ow):=[(0, .box [.r .any, .r .any]),(1, .gen mapZ),(2, .gen mapZ)]
abbrev tkN(v m1 m2:Value):List (Nat×Value):=[(0,v),(1,m1),(2,m2)]
theorem zdab(l l':List UInt8)(A A':List Spot)(B B':List Stub)(v m1 m2:Value):zkl (tkO l A B) (tkO l' A' B') (tkN v m1 m2):=⟨⟨_,_,rfl,rfl,zap,zap⟩,⟨_,_,rfl,rfl,zjg,zjg⟩,⟨_,_,rfl,rfl,zjg,zjg⟩,trivial⟩
theorem zaob(l:List UInt8)(A:List Spot)(B:List Stub)(v m1 m2:Value):zkl (tkO l A B) tkZ (tkN v m1 m2):=⟨⟨_,_,rfl,rfl,zap,zap⟩,⟨_,_,rfl,rfl,zjg,zz6⟩,⟨_,_,rfl,rfl,zjg,zz6⟩,trivial⟩
def zqk(q:PR (List Spot×List Stub))(A:List Spot)(B:List Stub)(O1:List (Nat×Ow))(e:Nat):Prop:=match q with
 | .err e'=>O1=tkZ/\e=e'
 | .ok y r=>O1=tkO r (A++y.1) (B++y.2)/\e=0
theorem z9w{q:PR (List Spot×List Stub)}{l:List UInt8}{A:List Spot}{B:List Stub}{O1:List (Nat×Ow)}{e:Nat}(v m1 m2:Value)(h:zqk q A B O1 e):zkl (tkO l A B) O1 (tkN v m1 m2):=by
 cases q with
 |err e'=>obtain⟨rfl,_⟩:=h;exact zaob _ _ _ _ _ _
 |ok y r=>obtain⟨rfl,_⟩:=h;exact zdab _ _ _ _ _ _ _ _ _
theorem zql(h k:Nat){l:List UInt8}{e:Nat}(hq:zb7 h k l= .err e):e=3\/e=4:=by
 have:=zwi h k l
 cases hp:zbn h k l with
 |err e'=>rw[hp]at this;simp only[zur]at this;rw[this]at hq;injection hq with hq;subst hq;exact z9p h k hp
 |ok x r=>rw[hp]at this;obtain⟨y,hy,_⟩:=this;rw[hy]at hq;cases hq
set_option maxHeartbeats 4000000 in
theorem z1m(v m1 m2:Value)(leaves own:Int)(k:Nat)(hk:k<2^(16-0))(l:List UInt8)(hl:l.length<=100000000)(A:List Spot)(B:List Stub)(hA: ∀s∈A,¬inR 0 k s.at_)(hB: ∀s∈B,¬inR 0 k s.at_)(O1:List (Nat×Ow))(e:Nat)
  (hq:zqk (zb7 0 k l) A B O1 e):Acts Tryz.prog 182 3 (tkO l A B) [.r (pcR leaves own m1 m2), .own 0, .r (I (nd 0 k))] (tkN v m1 m2) 3 O1 (.r (Er e)):=by
 refine zam (T:=Tab) mixed Tab_ok Tryz.func182 rfl (by kernel_rfl) rfl (z9w v m1 m2 hq) ?_
 have hnA:zcw (za5 A) (nd 0 k:Int)=none:=zmi λs hs e=>hA s hs (by rw[e];exact za9 _ _)
 have hnB:zcw (zba B) (nd 0 k:Int)=none:=zmo λs hs e=>hB s hs (by rw[e];exact za9 _ _)
 cases l with
 |nil=>
  obtain⟨rfl,rfl⟩:=hq
  refine zj [(0,0)] [0] (λvs _=>zr6 (vs 0)) (zi rfl ⟨_,_,rfl,rfl,rfl⟩) rfl ⟨⟨_,_,rfl,cr,_,_,rfl,cr,rfl⟩,trivial⟩ ⟨zaa,trivial⟩ ?_
  refine zj [(0,0)] [0] (λvs _=>zcy (vs 0) 4) (zi rfl ⟨_,_,rfl,rfl,rfl⟩) rfl ⟨⟨_,_,rfl,trivial,_,_,rfl,cr,rfl⟩,trivial⟩ ⟨zaa,trivial⟩ ?_
  refine zu rfl (zq ?_)
  exact zah (.inl rfl) [(0,0),(1,1),(2,2)] [(6, .r (Er 4))] [] rfl ⟨cr,⟨rfl,rfl⟩,⟨rfl,rfl⟩,⟨rfl,rfl⟩,trivial⟩ ⟨⟨_,_,rfl,trivial,_,_,rfl,trivial,rfl⟩,λ_ _ _ hh=>⟨_,hh⟩,λ_ _ _ hh=>⟨_,hh⟩,trivial⟩ ⟨⟨1000000,rfl⟩,⟨1000001,rfl⟩,⟨1000002,rfl⟩,trivial⟩ (cr)
 |cons c s=>
  have hcl:=c.toNat_lt
  have hls:s.length<=100000000:=by simp only[List.length_cons]at hl;omega
  simp only[zb7]at hq
  by_cases h1:1<c.toNat
  ·rw[if_pos h1]at hq
   obtain⟨rfl,rfl⟩:=hq
   refine zj [(0,0)] [0] (λvs _=>zsi (vs 0) c s h1) (zi rfl ⟨_,_,rfl,rfl,rfl⟩) rfl ⟨⟨_,_,rfl,cr,_,_,rfl,cr,rfl⟩,trivial⟩ ⟨zaa,trivial⟩ ?_
   refine zj [(0,0)] [0] (λvs _=>zcy (vs 0) 3) (zi rfl ⟨_,_,rfl,rfl,rfl⟩) rfl ⟨⟨_,_,rfl,trivial,_,_,rfl,cr,rfl⟩,trivial⟩ ⟨zaa,trivial⟩ ?_
   refine zu rfl (zq ?_)
   exact zah (.inl rfl) [(0,0),(1,1),(2,2)] [(6, .r (Er 3))] [] rfl ⟨cr,⟨rfl,rfl⟩,⟨rfl,rfl⟩,⟨rfl,rfl⟩,trivial⟩ ⟨⟨_,_,rfl,trivial,_,_,rfl,trivial,rfl⟩,λ_ _ _ hh=>⟨_,hh⟩,λ_ _ _ hh=>⟨_,hh⟩,trivial⟩ ⟨⟨1000000,rfl⟩,⟨1000001,rfl⟩,⟨1000002,rfl⟩,trivial⟩ (cr)
  rw[if_neg h1]at hq
  refine zj [(0,0)] [0] (λvs _=>z3k (vs 0) c s (by omega)) (zi rfl ⟨_,_,rfl,rfl,rfl⟩) rfl ⟨⟨_,_,rfl,cr,_,_,rfl,cr,rfl⟩,trivial⟩ ⟨zaa,trivial⟩ ?_
  refine zj [(0,0)] [0] (λvs _=>zfn (vs 0) s) (zi rfl ⟨_,_,rfl,rfl,rfl⟩) rfl ⟨⟨_,_,rfl,cr,_,_,rfl,cr,rfl⟩,trivial⟩ ⟨zaa,trivial⟩ ?_
  refine zw rfl (zt ?_)
  by_cases h0:c.toNat=0
  ·rw[if_pos h0]at hq
   rw[show decide (c.toNat=1)=false by simp;omega]
   refine zu rfl (zq ?_)
   refine Vdraw.code (Vcode.float mixed Tab_ok 5 [⟨0,21, .adr 3 3,[]⟩,⟨1,22, .r (.x m2),[0]⟩,⟨2,23, .r (I (nd 0 k)),[]⟩] [(3,[]),(4,[])] (by kernel_rfl) (F:=[(1, .own 0),(2, .r (I (nd 0 k))),(3, .own 3),(1000000, .nm 0 v),(1000001, .nm 1 m1),(1000002, .nm 2 m2)]) (O:=[(0,some (rdO (bs s) 0)),(1,some (.gen (mapO (za5 A)))),(2,some (.gen (mapO (zba B)))),(3,some (.box [.r (I leaves), .r (I own), .r (.x m1), .r (.x m2)]))]) (nx:=4) (zad [(0,0),(1,1),(2,2),(3,3)] rfl ⟨rfl,cr,rfl,⟨rfl,rfl⟩,⟨rfl,rfl⟩,⟨rfl,rfl⟩,trivial⟩ ⟨⟨_,_,rfl,cr,_,_,rfl,cr,rfl⟩,λ_ _ _ hh=>hh,λ_ _ _ hh=>hh,⟨_,_,rfl,cr,_,_,rfl,cr,_,_,rfl,cr,_,_,rfl,cr,rfl⟩,trivial⟩) ?_)
   refine⟨rfl,⟨λY=>zo _,λY=>zo _,λY=>zo _,trivial⟩,(24, .own 0)::[(1, .own 0),(2, .r (I (nd 0 k))),(3, .own 3),(1000000, .nm 0 v),(1000001, .nm 1 m1),(1000002, .nm 2 m2)],[(0,some (rdO (bs s) 0)),(1,some (.gen (mapO (za5 A)))),(2,some (.gen (mapO (zba B)))),(3,some (.box [.r (I leaves), .r (I own), .r (.x m1), .r (.x m2)]))],4,λY=>zo _,?_⟩
   by_cases h32:s.length<32
   ·rw[if_pos h32]at hq
    obtain⟨rfl,rfl⟩:=hq
    refine⟨rfl,⟨λY=>zo _,λY=>zo _,λY=>zo _,trivial⟩,(25, .r (bs []))::(24, .own 0)::[(1, .own 0),(2, .r (I (nd 0 k))),(3, .own 3),(1000000, .nm 0 v),(1000001, .nm 1 m1),(1000002, .nm 2 m2)],(0,some (rdO .any 4))::(0,none)::[(0,some (rdO (bs s) 0)),(1,some (.gen (mapO (za5 A)))),(2,some (.gen (mapO (zba B)))),(3,some (.box [.r (I leaves), .r (I own), .r (.x m1), .r (.x m2)]))],5,λY=>?_,?_⟩
    ·exact zj [(0,0)] [0] (λvs _=>zlc (vs 0) s 32 h32) (zi rfl ⟨_,_,rfl,rfl,_,_,rfl,cr,rfl⟩) rfl ⟨⟨_,_,rfl,cr,_,_,rfl,cr,rfl⟩,trivial⟩ ⟨zaa,trivial⟩ (zo _)
    refine⟨rfl,⟨λY=>zo _,λY=>zo _,λY=>zo _,trivial⟩,?_⟩
    refine Vstep.mapPut 2 1000002 rfl rfl rfl rfl rfl rfl rfl zgo zg1 hnB ?_
    refine zj [(0,0)] [0] (λvs _=>zcy (vs 0) 4) (zi rfl ⟨_,_,rfl,rfl,rfl⟩) rfl ⟨⟨_,_,rfl,trivial,_,_,rfl,cr,rfl⟩,trivial⟩ ⟨zaa,trivial⟩ ?_
    exact zah (.inl rfl) [(0,0),(1,1),(2,2)] [(6, .r (Er 4))] [] rfl ⟨cr,⟨rfl,rfl⟩,⟨rfl,rfl⟩,⟨rfl,rfl⟩,trivial⟩ ⟨⟨_,_,rfl,trivial,_,_,rfl,trivial,rfl⟩,λ_ _ _ hh=>⟨_,hh⟩,λ_ _ _ hh=>⟨_,hh⟩,trivial⟩ ⟨⟨1000000,rfl⟩,⟨1000001,rfl⟩,⟨1000002,rfl⟩,trivial⟩ (cr)
   ·rw[if_neg h32]at hq
    obtain⟨rfl,rfl⟩:=hq
    refine⟨rfl,⟨λY=>zo _,λY=>zo _,λY=>zo _,trivial⟩,(25, .r (bs (s.take 32)))::(24, .own 0)::[(1, .own 0),(2, .r (I (nd 0 k))),(3, .own 3),(1000000, .nm 0 v),(1000001, .nm 1 m1),(1000002, .nm 2 m2)],(0,some (rdO (bs (s.drop 32)) 0))::(0,none)::[(0,some (rdO (bs s) 0)),(1,some (.gen (mapO (za5 A)))),(2,some (.gen (mapO (zba B)))),(3,some (.box [.r (I leaves), .r (I own), .r (.x m1), .r (.x m2)]))],5,λY=>?_,?_⟩
    ·exact zj [(0,0)] [0] (λvs _=>zs6 (vs 0) s 32 (by omega) (by omega)) (zi rfl ⟨_,_,rfl,rfl,_,_,rfl,cr,rfl⟩) rfl ⟨⟨_,_,rfl,cr,_,_,rfl,cr,rfl⟩,trivial⟩ ⟨zaa,trivial⟩ (zo _)
    refine⟨rfl,⟨λY=>zo _,λY=>zo _,λY=>zo _,trivial⟩,?_⟩
    refine Vstep.mapPut 2 1000002 rfl rfl rfl rfl rfl rfl rfl zgo zg1 hnB ?_
    refine zj [(0,0)] [0] (λvs _=>zfn (vs 0) (s.drop 32)) (zi rfl ⟨_,_,rfl,rfl,rfl⟩) rfl ⟨⟨_,_,rfl,cr,_,_,rfl,cr,rfl⟩,trivial⟩ ⟨zaa,trivial⟩ ?_
    have eA:za5 (A++[])=za5 A:=by rw[List.append_nil]
    have eB:zba (B++[⟨(nd 0 k:Int),s.take 32⟩])=zba B++[((nd 0 k:Int),bs (s.take 32))]:=by simp[zba]
    exact zah (.inl rfl) [(0,0),(1,1),(2,2)] [(6, .r (Er 0))] [] rfl ⟨cr,⟨rfl,rfl⟩,⟨rfl,rfl⟩,⟨rfl,rfl⟩,trivial⟩ ⟨⟨_,_,rfl,cr,_,_,rfl,cr,rfl⟩,λ_ _ _ hh=>by rw[eA];exact hh,λ_ _ _ hh=>by rw[eB];exact hh,trivial⟩ ⟨⟨1000000,rfl⟩,⟨1000001,rfl⟩,⟨1000002,rfl⟩,trivial⟩ (cr)
  rw[if_neg h0]at hq
  rw[show decide (c.toNat=1)=true by simp;omega]
  refine zw rfl (zt ?_)
  cases hn:zbz s with
  |err e'=>
   rw[hn]at hq
   obtain⟨rfl,rfl⟩:=hq
   have he:=zmn hn
   refine zj [(0,0)] [0] (λvs _=>zr7 (vs 0) s _ (by omega) hn) (zi rfl ⟨_,_,rfl,rfl,rfl⟩) rfl ⟨⟨_,_,rfl,cr,_,_,rfl,cr,rfl⟩,trivial⟩ ⟨zaa,trivial⟩ ?_
   refine zu (by simp only[zb];omega) (zq ?_)
   exact zah (.inl rfl) [(0,0),(1,1),(2,2)] [(6, .r (Er _))] [] rfl ⟨cr,⟨rfl,rfl⟩,⟨rfl,rfl⟩,⟨rfl,rfl⟩,trivial⟩ ⟨⟨_,_,rfl,trivial,_,_,rfl,trivial,rfl⟩,λ_ _ _ hh=>⟨_,hh⟩,λ_ _ _ hh=>⟨_,hh⟩,trivial⟩ ⟨⟨1000000,rfl⟩,⟨1000001,rfl⟩,⟨1000002,rfl⟩,trivial⟩ (cr)
  |ok n r=>
   rw[hn]at hq
   simp only at hq
   obtain⟨jn,hr,hjn⟩:=zfq hn
   have hlr:r.length<=100000000:=by rw[hr,List.length_drop];omega
   refine zj [(0,0)] [0] (λvs _=>z37 (vs 0) s r n (by omega) hn) (zi rfl ⟨_,_,rfl,rfl,rfl⟩) rfl ⟨⟨_,_,rfl,cr,_,_,rfl,cr,rfl⟩,trivial⟩ ⟨zaa,trivial⟩ ?_
   refine zw rfl (zt ?_)
   refine⟨by decide,_,rfl,?_⟩
   refine zu (by rw[zck];rfl) ?_
   by_cases h2:n.kind.toNat=2
   ·rw[if_pos h2]at hq
    obtain⟨rfl,rfl⟩:=hq
    refine zu (by simp only[zb];omega) (zq ?_)
    exact zah (.inl rfl) [(0,0),(1,1),(2,2)] [(6, .r (Er 3))] [] rfl ⟨cr,⟨rfl,rfl⟩,⟨rfl,rfl⟩,⟨rfl,rfl⟩,trivial⟩ ⟨⟨_,_,rfl,trivial,_,_,rfl,trivial,rfl⟩,λ_ _ _ hh=>⟨_,hh⟩,λ_ _ _ hh=>⟨_,hh⟩,trivial⟩ ⟨⟨1000000,rfl⟩,⟨1000001,rfl⟩,⟨1000002,rfl⟩,trivial⟩ (cr)
   rw[if_neg h2]at hq
   obtain⟨rfl,rfl⟩:=hq
   refine zw (by simp only[zb];omega) ?_
   refine⟨by decide,_,rfl,?_⟩
   refine zw (by rw[zck];rfl) (zt ?_)
   refine za rfl rfl ?_
   refine Vstep.mapPut 1 1000001 rfl rfl rfl rfl rfl rfl rfl zk4 zg1 hnA ?_
   refine⟨by decide,_,rfl,?_⟩
   refine zu (by rw[zck];rfl) (zq ?_)
   have eA:za5 (A++[⟨(nd 0 k:Int),n⟩])=za5 A++[((nd 0 k:Int), .ag n.c)]:=by simp[za5]
   have eB:zba (B++[])=zba B:=by rw[List.append_nil]
   exact zah (.inl rfl) [(0,0),(1,1),(2,2)] [(6, .r (Er 0))] [] rfl ⟨cr,⟨rfl,rfl⟩,⟨rfl,rfl⟩,⟨rfl,rfl⟩,trivial⟩ ⟨⟨_,_,rfl,cr,_,_,rfl,cr,rfl⟩,λ_ _ _ hh=>by rw[eA];exact hh,λ_ _ _ hh=>by rw[eB];exact hh,trivial⟩ ⟨⟨1000000,rfl⟩,⟨1000001,rfl⟩,⟨1000002,rfl⟩,trivial⟩ (cr)
set_option maxHeartbeats 4000000 in
theorem z62(v m1 m2:Value)(leaves own:Int)(h:Nat)(hh:h+1<=16)(k:Nat)(hk:k<2^(16-(h+1)))(l:List UInt8)(hl:l.length<=100000000)(A:List Spot)(B:List Stub)(hA: ∀s∈A,¬inR (h+1) k s.at_)(hB: ∀s∈B,¬inR (h+1) k s.at_)(O1:List (Nat×Ow))(e:Nat)
  (hq:zqk (zb7 (h+1) k l) A B O1 e)
  (ih: ∀(k:Nat) (l:List UInt8) (A:List Spot) (B:List Stub) (O1:List (Nat×Ow)) (e:Nat),k<2^(16-h)->l.length<=100000000->(∀s∈A,¬inR h k s.at_)->(∀s∈B,¬inR h k s.at_)->∀v,zqk (zb7 h k l) A B O1 e->
   Acts Tryz.prog 182 3 (tkO l A B) [.r (pcR leaves own m1 m2), .own 0, .r (I (nd h k))] (tkN v m1 m2) 3 O1 (.r (Er e))):Acts Tryz.prog 182 3 (tkO l A B) [.r (pcR leaves own m1 m2), .own 0, .r (I (nd (h+1) k))] (tkN v m1 m2) 3 O1 (.r (Er e)):=by
 refine zam (T:=Tab) mixed Tab_ok Tryz.func182 rfl (by kernel_rfl) rfl (z9w v m1 m2 hq) ?_
 have hnA:zcw (za5 A) (nd (h+1) k:Int)=none:=zmi λs hs e=>hA s hs (by rw[e];exact za9 _ _)
 have hnB:zcw (zba B) (nd (h+1) k:Int)=none:=zmo λs hs e=>hB s hs (by rw[e];exact za9 _ _)
 cases l with
 |nil=>
  obtain⟨rfl,rfl⟩:=hq
  refine zj [(0,0)] [0] (λvs _=>zr6 (vs 0)) (zi rfl ⟨_,_,rfl,rfl,rfl⟩) rfl ⟨⟨_,_,rfl,cr,_,_,rfl,cr,rfl⟩,trivial⟩ ⟨zaa,trivial⟩ ?_
  refine zj [(0,0)] [0] (λvs _=>zcy (vs 0) 4) (zi rfl ⟨_,_,rfl,rfl,rfl⟩) rfl ⟨⟨_,_,rfl,trivial,_,_,rfl,cr,rfl⟩,trivial⟩ ⟨zaa,trivial⟩ ?_
  refine zu rfl (zq ?_)
  exact zah (.inl rfl) [(0,0),(1,1),(2,2)] [(6, .r (Er 4))] [] rfl ⟨cr,⟨rfl,rfl⟩,⟨rfl,rfl⟩,⟨rfl,rfl⟩,trivial⟩ ⟨⟨_,_,rfl,trivial,_,_,rfl,trivial,rfl⟩,λ_ _ _ hh=>⟨_,hh⟩,λ_ _ _ hh=>⟨_,hh⟩,trivial⟩ ⟨⟨1000000,rfl⟩,⟨1000001,rfl⟩,⟨1000002,rfl⟩,trivial⟩ (cr)
 |cons c s=>
  have hcl:=c.toNat_lt
  have hls:s.length<=100000000:=by simp only[List.length_cons]at hl;omega
  simp only[zb7]at hq
  by_cases h1:1<c.toNat
  ·rw[if_pos h1]at hq
   obtain⟨rfl,rfl⟩:=hq
   refine zj [(0,0)] [0] (λvs _=>zsi (vs 0) c s h1) (zi rfl ⟨_,_,rfl,rfl,rfl⟩) rfl ⟨⟨_,_,rfl,cr,_,_,rfl,cr,rfl⟩,trivial⟩ ⟨zaa,trivial⟩ ?_
   refine zj [(0,0)] [0] (λvs _=>zcy (vs 0) 3) (zi rfl ⟨_,_,rfl,rfl,rfl⟩) rfl ⟨⟨_,_,rfl,trivial,_,_,rfl,cr,rfl⟩,trivial⟩ ⟨zaa,trivial⟩ ?_
   refine zu rfl (zq ?_)
   exact zah (.inl rfl) [(0,0),(1,1),(2,2)] [(6, .r (Er 3))] [] rfl ⟨cr,⟨rfl,rfl⟩,⟨rfl,rfl⟩,⟨rfl,rfl⟩,trivial⟩ ⟨⟨_,_,rfl,trivial,_,_,rfl,trivial,rfl⟩,λ_ _ _ hh=>⟨_,hh⟩,λ_ _ _ hh=>⟨_,hh⟩,trivial⟩ ⟨⟨1000000,rfl⟩,⟨1000001,rfl⟩,⟨1000002,rfl⟩,trivial⟩ (cr)
  rw[if_neg h1]at hq
  refine zj [(0,0)] [0] (λvs _=>z3k (vs 0) c s (by omega)) (zi rfl ⟨_,_,rfl,rfl,rfl⟩) rfl ⟨⟨_,_,rfl,cr,_,_,rfl,cr,rfl⟩,trivial⟩ ⟨zaa,trivial⟩ ?_
  refine zj [(0,0)] [0] (λvs _=>zfn (vs 0) s) (zi rfl ⟨_,_,rfl,rfl,rfl⟩) rfl ⟨⟨_,_,rfl,cr,_,_,rfl,cr,rfl⟩,trivial⟩ ⟨zaa,trivial⟩ ?_
  refine zw rfl (zt ?_)
  by_cases h0:c.toNat=0
  ·rw[if_pos h0]at hq
   rw[show decide (c.toNat=1)=false by simp;omega]
   refine zu rfl (zq ?_)
   refine Vdraw.code (Vcode.float mixed Tab_ok 5 [⟨0,21, .adr 3 3,[]⟩,⟨1,22, .r (.x m2),[0]⟩,⟨2,23, .r (I (nd (h+1) k)),[]⟩] [(3,[]),(4,[])] (by kernel_rfl) (F:=[(1, .own 0),(2, .r (I (nd (h+1) k))),(3, .own 3),(1000000, .nm 0 v),(1000001, .nm 1 m1),(1000002, .nm 2 m2)]) (O:=[(0,some (rdO (bs s) 0)),(1,some (.gen (mapO (za5 A)))),(2,some (.gen (mapO (zba B)))),(3,some (.box [.r (I leaves), .r (I own), .r (.x m1), .r (.x m2)]))]) (nx:=4) (zad [(0,0),(1,1),(2,2),(3,3)] rfl ⟨rfl,cr,rfl,⟨rfl,rfl⟩,⟨rfl,rfl⟩,⟨rfl,rfl⟩,trivial⟩ ⟨⟨_,_,rfl,cr,_,_,rfl,cr,rfl⟩,λ_ _ _ hh=>hh,λ_ _ _ hh=>hh,⟨_,_,rfl,cr,_,_,rfl,cr,_,_,rfl,cr,_,_,rfl,cr,rfl⟩,trivial⟩) ?_)
   refine⟨rfl,⟨λY=>zo _,λY=>zo _,λY=>zo _,trivial⟩,(24, .own 0)::[(1, .own 0),(2, .r (I (nd (h+1) k))),(3, .own 3),(1000000, .nm 0 v),(1000001, .nm 1 m1),(1000002, .nm 2 m2)],[(0,some (rdO (bs s) 0)),(1,some (.gen (mapO (za5 A)))),(2,some (.gen (mapO (zba B)))),(3,some (.box [.r (I leaves), .r (I own), .r (.x m1), .r (.x m2)]))],4,λY=>zo _,?_⟩
   by_cases h32:s.length<32
   ·rw[if_pos h32]at hq
    obtain⟨rfl,rfl⟩:=hq
    refine⟨rfl,⟨λY=>zo _,λY=>zo _,λY=>zo _,trivial⟩,(25, .r (bs []))::(24, .own 0)::[(1, .own 0),(2, .r (I (nd (h+1) k))),(3, .own 3),(1000000, .nm 0 v),(1000001, .nm 1 m1),(1000002, .nm 2 m2)],(0,some (rdO .any 4))::(0,none)::[(0,some (rdO (bs s) 0)),(1,some (.gen (mapO (za5 A)))),(2,some (.gen (mapO (zba B)))),(3,some (.box [.r (I leaves), .r (I own), .r (.x m1), .r (.x m2)]))],5,λY=>?_,?_⟩
    ·exact zj [(0,0)] [0] (λvs _=>zlc (vs 0) s 32 h32) (zi rfl ⟨_,_,rfl,rfl,_,_,rfl,cr,rfl⟩) rfl ⟨⟨_,_,rfl,cr,_,_,rfl,cr,rfl⟩,trivial⟩ ⟨zaa,trivial⟩ (zo _)
    refine⟨rfl,⟨λY=>zo _,λY=>zo _,λY=>zo _,trivial⟩,?_⟩
    refine Vstep.mapPut 2 1000002 rfl rfl rfl rfl rfl rfl rfl zgo zg1 hnB ?_
    refine zj [(0,0)] [0] (λvs _=>zcy (vs 0) 4) (zi rfl ⟨_,_,rfl,rfl,rfl⟩) rfl ⟨⟨_,_,rfl,trivial,_,_,rfl,cr,rfl⟩,trivial⟩ ⟨zaa,trivial⟩ ?_
    exact zah (.inl rfl) [(0,0),(1,1),(2,2)] [(6, .r (Er 4))] [] rfl ⟨cr,⟨rfl,rfl⟩,⟨rfl,rfl⟩,⟨rfl,rfl⟩,trivial⟩ ⟨⟨_,_,rfl,trivial,_,_,rfl,trivial,rfl⟩,λ_ _ _ hh=>⟨_,hh⟩,λ_ _ _ hh=>⟨_,hh⟩,trivial⟩ ⟨⟨1000000,rfl⟩,⟨1000001,rfl⟩,⟨1000002,rfl⟩,trivial⟩ (cr)
   ·rw[if_neg h32]at hq
    obtain⟨rfl,rfl⟩:=hq
    refine⟨rfl,⟨λY=>zo _,λY=>zo _,λY=>zo _,trivial⟩,(25, .r (bs (s.take 32)))::(24, .own 0)::[(1, .own 0),(2, .r (I (nd (h+1) k))),(3, .own 3),(1000000, .nm 0 v),(1000001, .nm 1 m1),(1000002, .nm 2 m2)],(0,some (rdO (bs (s.drop 32)) 0))::(0,none)::[(0,some (rdO (bs s) 0)),(1,some (.gen (mapO (za5 A)))),(2,some (.gen (mapO (zba B)))),(3,some (.box [.r (I leaves), .r (I own), .r (.x m1), .r (.x m2)]))],5,λY=>?_,?_⟩
    ·exact zj [(0,0)] [0] (λvs _=>zs6 (vs 0) s 32 (by omega) (by omega)) (zi rfl ⟨_,_,rfl,rfl,_,_,rfl,cr,rfl⟩) rfl ⟨⟨_,_,rfl,cr,_,_,rfl,cr,rfl⟩,trivial⟩ ⟨zaa,trivial⟩ (zo _)
    refine⟨rfl,⟨λY=>zo _,λY=>zo _,λY=>zo _,trivial⟩,?_⟩
    refine Vstep.mapPut 2 1000002 rfl rfl rfl rfl rfl rfl rfl zgo zg1 hnB ?_
    refine zj [(0,0)] [0] (λvs _=>zfn (vs 0) (s.drop 32)) (zi rfl ⟨_,_,rfl,rfl,rfl⟩) rfl ⟨⟨_,_,rfl,cr,_,_,rfl,cr,rfl⟩,trivial⟩ ⟨zaa,trivial⟩ ?_
    have eA:za5 (A++[])=za5 A:=by rw[List.append_nil]
    have eB:zba (B++[⟨(nd (h+1) k:Int),s.take 32⟩])=zba B++[((nd (h+1) k:Int),bs (s.take 32))]:=by simp[zba]
    exact zah (.inl rfl) [(0,0),(1,1),(2,2)] [(6, .r (Er 0))] [] rfl ⟨cr,⟨rfl,rfl⟩,⟨rfl,rfl⟩,⟨rfl,rfl⟩,trivial⟩ ⟨⟨_,_,rfl,cr,_,_,rfl,cr,rfl⟩,λ_ _ _ hh=>by rw[eA];exact hh,λ_ _ _ hh=>by rw[eB];exact hh,trivial⟩ ⟨⟨1000000,rfl⟩,⟨1000001,rfl⟩,⟨1000002,rfl⟩,trivial⟩ (cr)
  rw[if_neg h0]at hq
  rw[show decide (c.toNat=1)=true by simp;omega]
  refine zw rfl (zt ?_)
  cases hn:zbz s with
  |err e'=>
   rw[hn]at hq
   obtain⟨rfl,rfl⟩:=hq
   have he:=zmn hn
   refine zj [(0,0)] [0] (λvs _=>zr7 (vs 0) s _ (by omega) hn) (zi rfl ⟨_,_,rfl,rfl,rfl⟩) rfl ⟨⟨_,_,rfl,cr,_,_,rfl,cr,rfl⟩,trivial⟩ ⟨zaa,trivial⟩ ?_
   refine zu (by simp only[zb];omega) (zq ?_)
   exact zah (.inl rfl) [(0,0),(1,1),(2,2)] [(6, .r (Er _))] [] rfl ⟨cr,⟨rfl,rfl⟩,⟨rfl,rfl⟩,⟨rfl,rfl⟩,trivial⟩ ⟨⟨_,_,rfl,trivial,_,_,rfl,trivial,rfl⟩,λ_ _ _ hh=>⟨_,hh⟩,λ_ _ _ hh=>⟨_,hh⟩,trivial⟩ ⟨⟨1000000,rfl⟩,⟨1000001,rfl⟩,⟨1000002,rfl⟩,trivial⟩ (cr)
  |ok n r=>
   rw[hn]at hq
   simp only at hq
   obtain⟨jn,hr,hjn⟩:=zfq hn
   have hlr:r.length<=100000000:=by rw[hr,List.length_drop];omega
   refine zj [(0,0)] [0] (λvs _=>z37 (vs 0) s r n (by omega) hn) (zi rfl ⟨_,_,rfl,rfl,rfl⟩) rfl ⟨⟨_,_,rfl,cr,_,_,rfl,cr,rfl⟩,trivial⟩ ⟨zaa,trivial⟩ ?_
   refine zw rfl (zt ?_)
   refine⟨by decide,_,rfl,?_⟩
   refine zw (by rw[zc5];rfl) ?_
   refine⟨by decide,_,rfl,?_⟩
   refine zu (by rw[zc5];rfl) ?_
   by_cases h2:n.kind.toNat=1
   ·rw[if_pos h2]at hq
    obtain⟨rfl,rfl⟩:=hq
    refine zu (by simp only[zb];omega) (zq ?_)
    exact zah (.inl rfl) [(0,0),(1,1),(2,2)] [(6, .r (Er 3))] [] rfl ⟨cr,⟨rfl,rfl⟩,⟨rfl,rfl⟩,⟨rfl,rfl⟩,trivial⟩ ⟨⟨_,_,rfl,trivial,_,_,rfl,trivial,rfl⟩,λ_ _ _ hh=>⟨_,hh⟩,λ_ _ _ hh=>⟨_,hh⟩,trivial⟩ ⟨⟨1000000,rfl⟩,⟨1000001,rfl⟩,⟨1000002,rfl⟩,trivial⟩ (cr)
   rw[if_neg h2]at hq
   refine zw (by simp only[zb];omega) (zt ?_)
   refine za rfl rfl ?_
   refine Vstep.mapPut 1 1000001 rfl rfl rfl rfl rfl rfl rfl zk4 zg1 hnA ?_
   refine⟨by decide,_,rfl,?_⟩
   refine zw (by rw[zc5];rfl) (zt ?_)
   have hleft:=zdk (d:=16) (by omega) (show h+1<=16 by omega) hk
   have hright:=zc7 (d:=16) (by omega) (show h+1<=16 by omega) hk
   have hk2:2^(16-h)=2*2^(16-(h+1)):=by rw[show 16-h=(16-(h+1))+1 by omega,Nat.pow_succ];omega
   obtain⟨sp,hsp⟩: ∃sp:Spot,sp=⟨(nd (h+1) k:Int),n⟩:=⟨_,rfl⟩
   rw[<-hsp]at hq
   have eA:za5 (A++[sp])=za5 A++[((nd (h+1) k:Int), .ag n.c)]:=by simp[za5,hsp]
   have hleftA: ∀s∈A++[sp],¬inR h (2*k) s.at_:=λs hs hi=>by
    rcases List.mem_append.1 hs with hs |hs
    ·exact hA s hs (zbs hi).1
    ·rw[List.mem_singleton.1 hs,hsp]at hi;have h3:=(zbs hi).2;dsimp only at h3;omega
   have hleftB: ∀s∈B,¬inR h (2*k) s.at_:=λs hs hi=>hB s hs (zbs hi).1
   cases hQ:zb7 h (2*k) r with
   |err e'=>
    rw[hQ]at hq
    obtain⟨rfl,rfl⟩:=hq
    have he:=zql _ _ hQ
    refine Vdraw.cut 4 (by kernel_rfl) ?_
    refine za rfl rfl ?_
    refine ze (zii _) ?_
    rw[hleft]
    refine zj [(0,0),(1,1),(2,2)] [0,1,2] (λvs hv=>zbu (by simp only[List.map];rw[hv 1 1 1000001 _ rfl rfl,hv 2 2 1000002 _ rfl rfl]) (ih (2*k) r (A++[sp]) B _ _ (by omega) (by omega) hleftA hleftB (vs 0) (by rw[hQ];exact⟨rfl,rfl⟩))) (zi rfl ⟨_,_,rfl,cr,_,_,rfl,rfl,_,_,rfl,cr,rfl⟩) rfl ⟨⟨_,_,rfl,cr,_,_,rfl,cr,rfl⟩,λ_ _ _ hh=>by rw[eA];exact hh,λ_ _ _ hh=>hh,trivial⟩ ⟨zaa,zen,zen,trivial⟩ ?_
    refine zu (by simp only[zb];omega) (zq ?_)
    exact zah (.inl rfl) [(0,0),(1,1),(2,2)] [(6, .r (Er _))] [] rfl ⟨cr,⟨rfl,rfl⟩,⟨rfl,rfl⟩,⟨rfl,rfl⟩,trivial⟩ ⟨⟨_,_,rfl,trivial,_,_,rfl,trivial,rfl⟩,λ_ _ _ hh=>hh,λ_ _ _ hh=>hh,trivial⟩ ⟨⟨1000000,rfl⟩,⟨1000001,rfl⟩,⟨1000002,rfl⟩,trivial⟩ (cr)
   |ok y1 r1=>
    rw[hQ]at hq
    simp only at hq
    obtain⟨i1,i2,i3⟩:=zi3 _ _ hQ
    refine Vdraw.cut 4 (by kernel_rfl) ?_
    refine za rfl rfl ?_
    refine ze (zii _) ?_
    rw[hleft]
    refine zj [(0,0),(1,1),(2,2)] [0,1,2] (λvs hv=>zbu (by simp only[List.map];rw[hv 1 1 1000001 _ rfl rfl,hv 2 2 1000002 _ rfl rfl]) (ih (2*k) r (A++[sp]) B _ 0 (by omega) (by omega) hleftA hleftB (vs 0) (by rw[hQ];exact⟨rfl,rfl⟩))) (zi rfl ⟨_,_,rfl,cr,_,_,rfl,rfl,_,_,rfl,cr,rfl⟩) rfl ⟨⟨_,_,rfl,cr,_,_,rfl,cr,rfl⟩,λ_ _ _ hh=>by rw[eA];exact hh,λ_ _ _ hh=>hh,trivial⟩ ⟨zaa,zen,zen,trivial⟩ ?_
    refine zw rfl (zt ?_)
    have hrightA: ∀s∈A++[sp]++y1.1,¬inR h (2*k+1) s.at_:=λs hs hi=>by
     rcases List.mem_append.1 hs with hs |hs
     ·rcases List.mem_append.1 hs with hs |hs
      ·exact hA s hs (zbv hi).1
      ·rw[List.mem_singleton.1 hs,hsp]at hi;have h3:=(zbv hi).2;dsimp only at h3;omega
     ·have a1:=(zbs (i1 s hs)).2;have a2:=(zbv hi).2;omega
    have hrightB: ∀s∈B++y1.2,¬inR h (2*k+1) s.at_:=λs hs hi=>by
     rcases List.mem_append.1 hs with hs |hs
     ·exact hB s hs (zbv hi).1
     ·have a1:=(zbs (i2 s hs)).2;have a2:=(zbv hi).2;omega
    cases hQ2:zb7 h (2*k+1) r1 with
    |err e'=>
     rw[hQ2]at hq
     obtain⟨rfl,rfl⟩:=hq
     refine Vdraw.cut 4 (by kernel_rfl) ?_
     refine za rfl rfl ?_
     refine ze (zg5 _) ?_
     rw[hright]
     refine zj [(0,0),(1,1),(2,2)] [0,1,2] (λvs hv=>zbu (by simp only[List.map];rw[hv 1 1 1000001 _ rfl rfl,hv 2 2 1000002 _ rfl rfl]) (ih (2*k+1) r1 (A++[sp]++y1.1) (B++y1.2) _ _ (by omega) (by omega) hrightA hrightB (vs 0) (by rw[hQ2];exact⟨rfl,rfl⟩))) (zi rfl ⟨_,_,rfl,cr,_,_,rfl,rfl,_,_,rfl,cr,rfl⟩) rfl ⟨⟨_,_,rfl,cr,_,_,rfl,cr,rfl⟩,λ_ _ _ hh=>hh,λ_ _ _ hh=>hh,trivial⟩ ⟨zaa,zen,zen,trivial⟩ ?_
     exact zah (.inl rfl) [(0,0),(1,1),(2,2)] [(6, .r (Er _))] [] rfl ⟨cr,⟨rfl,rfl⟩,⟨rfl,rfl⟩,⟨rfl,rfl⟩,trivial⟩ ⟨⟨_,_,rfl,trivial,_,_,rfl,trivial,rfl⟩,λ_ _ _ hh=>hh,λ_ _ _ hh=>hh,trivial⟩ ⟨⟨1000000,rfl⟩,⟨1000001,rfl⟩,⟨1000002,rfl⟩,trivial⟩ (cr)
    |ok y2 r2=>
     rw[hQ2]at hq
     obtain⟨rfl,rfl⟩:=hq
     refine Vdraw.cut 4 (by kernel_rfl) ?_
     refine za rfl rfl ?_
     refine ze (zg5 _) ?_
     rw[hright]
     refine zj [(0,0),(1,1),(2,2)] [0,1,2] (λvs hv=>zbu (by simp only[List.map];rw[hv 1 1 1000001 _ rfl rfl,hv 2 2 1000002 _ rfl rfl]) (ih (2*k+1) r1 (A++[sp]++y1.1) (B++y1.2) _ 0 (by omega) (by omega) hrightA hrightB (vs 0) (by rw[hQ2];exact⟨rfl,rfl⟩))) (zi rfl ⟨_,_,rfl,cr,_,_,rfl,rfl,_,_,rfl,cr,rfl⟩) rfl ⟨⟨_,_,rfl,cr,_,_,rfl,cr,rfl⟩,λ_ _ _ hh=>hh,λ_ _ _ hh=>hh,trivial⟩ ⟨zaa,zen,zen,trivial⟩ ?_
     have fA:za5 (A++([sp]++y1.1++y2.1))=za5 (A++[sp]++y1.1++y2.1):=by simp only[List.append_assoc]
     have fB:zba (B++(y1.2++y2.2))=zba (B++y1.2++y2.2):=by simp only[List.append_assoc]
     exact zah (.inl rfl) [(0,0),(1,1),(2,2)] [(6, .r (Er 0))] [] rfl ⟨cr,⟨rfl,rfl⟩,⟨rfl,rfl⟩,⟨rfl,rfl⟩,trivial⟩ ⟨⟨_,_,rfl,cr,_,_,rfl,cr,rfl⟩,λ_ _ _ hh=>by rw[fA];exact hh,λ_ _ _ hh=>by rw[fB];exact hh,trivial⟩ ⟨⟨1000000,rfl⟩,⟨1000001,rfl⟩,⟨1000002,rfl⟩,trivial⟩ (cr)
theorem zwq(m1 m2:Value)(leaves own:Int): ∀(h k:Nat) (l:List UInt8) (A:List Spot) (B:List Stub) (O1:List (Nat×Ow)) (e:Nat),h<=16->k<2^(16-h)->l.length<=100000000->(∀s∈A,¬inR h k s.at_)->(∀s∈B,¬inR h k s.at_)->∀v,zqk (zb7 h k l) A B O1 e->
   Acts Tryz.prog 182 3 (tkO l A B) [.r (pcR leaves own m1 m2), .own 0, .r (I (nd h k))] (tkN v m1 m2) 3 O1 (.r (Er e))
 |0,k,l,A,B,O1,e,_,hk,hl,hA,hB,v,hq=>z1m v m1 m2 leaves own k hk l hl A B hA hB O1 e hq
 |h+1,k,l,A,B,O1,e,hh,hk,hl,hA,hB,v,hq=>z62 v m1 m2 leaves own h hh k hk l hl A B hA hB O1 e hq λk l A B O1 e hk hl hA hB v hq=>zwq m1 m2 leaves own h k l A B O1 e (by omega) hk hl hA hB v hq
end
end Go.Proofs.YtpdllgbfemnemaaGreat.Sx
