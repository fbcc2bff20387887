import Derived.Test.YtpdllgbfemnemaaGreatZKc
import Derived.Test.YtpdllgbfemnemaaGreatZRefC
import Derived.Test.YtpdllgbfemnemaaGreatZSxY
namespace Go.Proofs.YtpdllgbfemnemaaGreat.Sx
open Go.RowKit
section
theorem zamb(p:Par)(hp:p.fit):zaf Tryz.prog 84 [.ag p.c] (.r (.b p.right)):=by
 refine zac (T:=Tab) mixed Tab_ok Tryz.func84 rfl (by kernel_rfl) ?_
 obtain⟨hp1,hp2,hp3,hp4⟩:=hp
 refine zy (λi:Nat×Int=>{F:=[(1, .own 0),(3, .r (I i.1))],O:=[(0,some (.box (p.c.map .r)))],nx:=1})
  (λi=>i.1<=p.late.length/\zfh (-1) p.late=zfh i.2 (p.late.drop i.1)/\ -1<=i.2/\(i.1=0->i.2= -1)/\∀h:0<i.1/\i.1-1<p.late.length,i.2=p.late[i.1-1]) (λi=>p.late.length-i.1) (0, -1) ⟨by simp,by simp,by simp,by simp,by simp⟩ (zad [(0,0)] rfl ⟨rfl,cr,trivial⟩ ⟨zab _,trivial⟩) ?_
 rintro⟨j,last⟩ ⟨hj,hlate,hge,h0,hpos⟩
 simp only at hj hlate hge h0 hpos
 refine zh (λh=>zq ?_) (λh=>zt ?_)
 ·simp only[zb]at h
  have hj':j<p.late.length:=by omega
  have hx:=hp4 _ (List.getElem_mem hj')
  rw[List.drop_eq_getElem_cons hj']at hlate
  simp only[zfh]at hlate
  refine Vdraw.mk' (by kernel_rfl) ?_
  refine zm (by omega) (by omega) (zai rfl hj') (zg rfl ?_)
  have bad: ¬(last<p.late[j]/\p.late[j]<65536)->RV.b false=RV.b p.right:=λhh=>by simp[Par.right,hlate,hh]
  have good:last<p.late[j]/\p.late[j]<65536->∃i':Nat×Int,(i'.1<=p.late.length/\zfh (-1) p.late=zfh i'.2 (p.late.drop i'.1)/\ -1<=i'.2/\(i'.1=0->i'.2= -1)/\∀h:0<i'.1/\i'.1-1<p.late.length,i'.2=p.late[i'.1-1])/\i'.1=j+1:=λhh=>by
   rw[decide_eq_true hh,Bool.true_and]at hlate
   exact⟨(j+1,p.late[j]),⟨by simp only;omega,hlate,by simp only;omega,by simp,λ_=>rfl⟩,rfl⟩
  refine zh (λh1=>zq (zf (bad ?_))) (λh1=>?_)
  ·simp only[zb]at h1;omega
  ·simp only[zb]at h1
   refine zm (by omega) (by omega) (zai rfl hj') (zg rfl ?_)
   refine zh (λh2=>zq (zf (bad ?_))) (λh2=>?_)
   ·simp only[zb]at h2;omega
   ·simp only[zb]at h2
    refine zh (λh3=>?_) (λh3=>?_)
    ·simp only[zb]at h3
     have hj0:0<j:=by omega
     have hlast:=hpos ⟨hj0,by omega⟩
     refine zd (m:=((j-1:Nat):Int)) (by omega) (by omega) ?_
     refine zm (by omega) (by omega) (zai rfl (show j-1<p.late.length by omega)) (zg rfl ?_)
     refine zm (by omega) (by omega) (zai rfl hj') (zg rfl ?_)
     refine zh (λh4=>zq (zf (bad ?_))) (λh4=>zt ?_)
     ·simp only[zb]at h4;omega
     ·simp only[zb]at h4
      refine zd (m:=((j+1:Nat):Int)) (by omega) (by omega) ?_
      obtain⟨i',hi,he⟩:=good (by omega)
      exact⟨i',hi,by omega,he▸zad [(0,0)] rfl ⟨rfl,cr,trivial⟩ ⟨zab _,trivial⟩⟩
    ·simp only[zb]at h3
     refine zt ?_
     refine zd (m:=((j+1:Nat):Int)) (by omega) (by omega) ?_
     obtain⟨i',hi,he⟩:=good (by have:=h0 (by omega);omega)
     exact⟨i',hi,by omega,he▸zad [(0,0)] rfl ⟨rfl,cr,trivial⟩ ⟨zab _,trivial⟩⟩
 ·simp only[zb]at h
  have:p.late.drop j=[]:=List.drop_eq_nil_of_le (by omega)
  rw[this]at hlate
  simp only[zfh]at hlate
  (repeat' (first |refine zh (λh=>?_) (λh=>?_) |refine zf ?_ |refine zq ?_ |refine zt ?_))
  all_goals refine congrArg RV.b (Eq.symm ?_)
  all_goals simp only[Par.right,hlate,Bool.true_and,zb]at*
  all_goals omega
theorem z9n(l:Leaf)(hl:l.fit):zaf Tryz.prog 191 [.ag l.c] (bch (zdh l)):=by
 refine zac (T:=Tab) mixed Tab_ok Tryz.func191 rfl (by kernel_rfl) ?_
 obtain⟨l1,l2,l3,l4,l5⟩:=hl
 have w1:=zat l.box
 have w2:=zat l.sign
 have w3:=zat l.ident
 have w4:=zat l.parent
 refine Vdraw.mk' (by kernel_rfl) ?_
 refine ze (zec l.box (by omega)) ?_
 refine ze (zec l.sign (by omega)) ?_
 refine ze (zdr (vecB l.box) (vecB l.sign) (by omega) (by omega)) ?_
 refine ze (zec l.ident (by omega)) ?_
 refine zx ?_
 refine ze (zdr (vecB l.ident) [l.src] (by omega) (by simp)) ?_
 refine ze (zdr (vecB l.box++vecB l.sign) (vecB l.ident++[l.src]) (by simp;omega) (by simp;omega)) ?_
 refine zh (λh=>zq ?_) (λh=>zt ?_)
 ·simp only[zb]at h
  have h':l.src.toNat=3:=by omega
  refine ze (zec l.parent (by omega)) ?_
  refine ze (zdr (vecB l.box++vecB l.sign++(vecB l.ident++[l.src])) (vecB l.parent) (by simp;omega) (by omega)) ?_
  exact ziq (by simp[zdh,h'])
 ·simp only[zb]at h
  have h':l.src.toNat≠3:=by omega
  exact ziq (by simp[zdh,h'])
theorem zqd(l:Leaf)(hl:l.fit):(zdh l).length<=5000000000:=by
 obtain⟨l1,l2,l3,l4,l5⟩:=hl
 have w1:=zat l.box
 have w2:=zat l.sign
 have w3:=zat l.ident
 have w4:=zat l.parent
 simp only[zdh,List.length_append,List.length_cons,List.length_nil]
 split<;>simp<;>omega
theorem zyj(l:Leaf)(hl:l.fit):zaf Tryz.prog 161 [.ag l.c] (bch (zdh l++vecB l.sig)):=by
 refine zac (T:=Tab) mixed Tab_ok Tryz.func161 rfl (by kernel_rfl) ?_
 have w:=zat l.sig
 have w2:=zqd l hl
 obtain⟨_,_,_,_,l5⟩:=id hl
 refine Vdraw.mk' (by kernel_rfl) ?_
 refine za rfl rfl ?_
 refine ze (z9n l hl) ?_
 refine ze (zec l.sig (by omega)) ?_
 refine ze (zdr (zdh l) (vecB l.sig) (by omega) (by omega)) ?_
 rfl
end
section
def zgab(n:Node):Nat->St
 |0=>{F:=[(1, .own 0),(3, .r (bs [])),(4, .r (I ((0:Nat):Int)))],O:=[(0,some (.box (n.c.map .r)))],nx:=1}
 |j+1=>{F:=[(1, .own 0),(3, .own 1),(4, .r (I ((j+1:Nat):Int)))],O:=[(0,some (.box (n.c.map .r))),(1,some (.ch 5 1 (zbq (n.par.late.take (j+1))).length ((zbq (n.par.late.take (j+1))).map U8) true))],nx:=2}
theorem zuy{l:List Int}{j:Nat}(hj:j<l.length):zbq (l.take j)++beB 4 (l[j].toNat)=zbq (l.take (j+1)):=by
 rw[List.take_add_one,List.getElem?_eq_getElem hj]
 simp only[zbq,Option.toList,List.flatMap_append,List.flatMap_cons,List.flatMap_nil,List.append_nil]
theorem zh4(n:Node)(hn:n.fit)(hr:n.kind.toNat=2->∀x∈n.par.late,0<=x/\x<65536):zaf Tryz.prog 123 [.ag n.c] (bch (zaq n)):=by
 refine zac (T:=Tab) mixed Tab_ok Tryz.func123 rfl (by kernel_rfl) ?_
 have w2:=zqd n.leaf hn.1
 have w3:=zat n.leaf.sig
 obtain⟨hl,h1,h2,h3,_⟩:=id hn
 obtain⟨_,_,_,_,l5⟩:=id hl
 refine zh (λh=>zq ?_) (λh=>zt ?_)
 ·simp only[zb]at h
  have h':n.kind.toNat=1:=by omega
  refine zx ?_
  refine za rfl rfl ?_
  refine ze (zyj n.leaf hl) ?_
  refine ze (zdr [1] (zdh n.leaf++vecB n.leaf.sig) (by simp) (by simp;omega)) ?_
  exact ziq (by simp[zaq,h'])
 ·simp only[zb]at h
  have h':n.kind.toNat≠1:=by omega
  refine zh (λhk=>zq ?_) (λhk=>zt ?_)
  ·simp only[zb]at hk
   have hk':n.kind.toNat=2:=by omega
   have hr':=hr hk'
   have hll:=zh0 n.par.late
   have vd1:=zat n.par.box
   have vd2:=zat n.par.hash
   have hlen: ∀j,j<=n.par.late.length->(zbq (n.par.late.take j)).length=4*j:=λj hj=>by rw[zh0,List.length_take];omega
   refine zy (zgab n) (λj=>j<=n.par.late.length) (λj=>n.par.late.length-j) 0 (by omega) (zad [(0,0)] rfl ⟨rfl,Cv.nil _,cr,trivial⟩ ⟨zab _,trivial⟩) ?_
   intro j hj
   rcases j with _ |j
   ·refine zh (λh=>zq ?_) (λh=>zt ?_)
    ·simp only[zb]at h
     have hj':0<n.par.late.length:=by omega
     refine zm (by omega) (by omega) (zai rfl hj') (zg rfl ?_)
     refine⟨((n.par.late[0].toNat:Nat):Int),(zge _ (hr' _ (List.getElem_mem hj'))).symm,?_⟩
     refine ze (zk0 4 n.par.late[0].toNat (by omega) (by have:=hr' _ (List.getElem_mem hj');omega)) ?_
     refine ze (zdr [] (beB 4 n.par.late[0].toNat) (by simp) (by rw[zaw];omega)) ?_
     refine zd (m:=((0+1:Nat):Int)) (by omega) (by omega) ?_
     exact⟨0+1,hj',by omega,zad [(0,0),(1,2)] rfl ⟨rfl,rfl,cr,trivial⟩ ⟨zab _,cvCh (zuy hj'),trivial⟩⟩
    ·simp only[zb]at h
     have e:n.par.late=[]:=List.eq_nil_of_length_eq_zero (by omega)
     refine Vdraw.mk' (by kernel_rfl) ?_
     refine zx ?_
     refine ze (zec n.par.box (by omega)) ?_
     refine ze (zdr [2] (vecB n.par.box) (by simp) (by omega)) ?_
     refine ze (zec n.par.hash (by omega)) ?_
     refine ze (zec [] (by simp)) ?_
     refine ze (zdr (vecB n.par.hash) (vecB []) (by omega) (by simp[zsw];have:=zlj 0;omega)) ?_
     refine ze (zdr ([2]++vecB n.par.box) (vecB n.par.hash++vecB []) (by simp;omega) (by have:=zlj 0;simp[zsw]at*;omega)) ?_
     exact ziq (by simp[zaq,hk',parB,e,zbq])
   ·refine zh (λh=>zq ?_) (λh=>zt ?_)
    ·simp only[zb]at h
     have hj':j+1<n.par.late.length:=by omega
     refine zm (by omega) (by omega) (zai rfl hj') (zg rfl ?_)
     refine⟨((n.par.late[j+1].toNat:Nat):Int),(zge _ (hr' _ (List.getElem_mem hj'))).symm,?_⟩
     refine ze (zk0 4 n.par.late[j+1].toNat (by omega) (by have:=hr' _ (List.getElem_mem hj');omega)) ?_
     refine ze (zdr (zbq (n.par.late.take (j+1))) (beB 4 n.par.late[j+1].toNat) (by rw[hlen _ hj];omega) (by rw[zaw];omega)) ?_
     refine zd (m:=((j+1+1:Nat):Int)) (by omega) (by omega) ?_
     exact⟨j+1+1,hj',by omega,zad [(0,0),(1,3)] rfl ⟨rfl,rfl,cr,trivial⟩ ⟨zab _,cvCh (zuy hj'),trivial⟩⟩
    ·simp only[zb]at h
     have e:n.par.late.take (j+1)=n.par.late:=List.take_of_length_le (by omega)
     have w4:=zat (zbq (n.par.late.take (j+1)))
     have w5:=hlen _ hj
     refine Vdraw.mk' (by kernel_rfl) ?_
     refine zx ?_
     refine ze (zec n.par.box (by omega)) ?_
     refine ze (zdr [2] (vecB n.par.box) (by simp) (by omega)) ?_
     refine ze (zec n.par.hash (by omega)) ?_
     refine ze (zec (zbq (n.par.late.take (j+1))) (by omega)) ?_
     refine ze (zdr (vecB n.par.hash) (vecB (zbq (n.par.late.take (j+1)))) (by omega) (by omega)) ?_
     refine ze (zdr ([2]++vecB n.par.box) (vecB n.par.hash++vecB (zbq (n.par.late.take (j+1)))) (by simp;omega) (by simp;omega)) ?_
     exact ziq (by simp[zaq,hk',parB,e])
  ·simp only[zb]at hk
   have hk':n.kind.toNat≠2:=by omega
   refine zx ?_
   exact ziq (m:=zaq n) (l:=[0]) (by simp[zaq,h',hk'])
def zmm(i:Int)(n:Node):List UInt8:=1::(beB 4 i.toNat++zaq n)
theorem zds(n:Node)(hn:n.fit):(zaq n).length<=10000000000:=by
 have w2:=zqd n.leaf hn.1
 have w3:=zat n.leaf.sig
 obtain⟨hl,h1,h2,h3,_⟩:=id hn
 obtain⟨_,_,_,_,l5⟩:=id hl
 have hll:=zh0 n.par.late
 have vd1:=zat n.par.box
 have vd2:=zat n.par.hash
 have w4:=zat (zbq n.par.late)
 unfold zaq parB
 split
 ·simp;omega
 ·split
  ·simp;omega
  ·simp
theorem z6h(i:Int)(n:Node)(hn:n.fit):zaf Tryz.prog 88 [I i, .ag n.c] (.r (if i<0\/65536<=i then .tu [bs [], .i .u8 1]else if n.right=false\/n.kind.toNat=2 then .tu [bs [], .i .u8 3]else .tu [bs (zmm i n), .i .u8 0])):=by
 refine zac (T:=Tab) mixed Tab_ok Tryz.func88 rfl (by kernel_rfl) ?_
 have hnl:=zds n hn
 have nil1: ∀(c:Int),Cv (.tu [ofC (.slice none 0 0), .i .u8 c]) (.tu [bs [], .i .u8 c]):=λc=>Cv.tu (zk (Cv.nil 1) (zn _))
 refine zh (λh1=>zq ?_) (λh1=>?_)
 ·simp only[zb]at h1
  refine⟨_,rfl,?_⟩
  rw[if_pos (.inl h1)]
  exact nil1 1
 ·refine zh (λh2=>zq ?_) (λh2=>zt ?_)
  ·simp only[zb]at h1 h2
   refine⟨_,rfl,?_⟩
   rw[if_pos (.inr (by omega))]
   exact nil1 1
  ·simp only[zb]at h1 h2
   rw[if_neg (show¬(i<0\/65536<=i)by omega)]
   refine za rfl rfl ?_
   refine ze (zop n hn) ?_
   cases hr:n.right with
   |false=>
    refine zu rfl (zq ?_)
    refine⟨_,rfl,?_⟩
    rw[if_pos (.inl rfl)]
    exact nil1 3
   |true=>
    refine zw rfl ?_
    refine zh (λh3=>zq ?_) (λh3=>zt ?_)
    ·simp only[zb]at h3
     refine⟨_,rfl,?_⟩
     rw[if_pos (.inr (by omega))]
     exact nil1 3
    ·simp only[zb]at h3
     refine zx ?_
     refine⟨((i.toNat:Nat):Int),(zge _ (by omega)).symm,?_⟩
     refine ze (zsv [1] 4 i.toNat (by simp) (by omega)) ?_
     refine Vapp.mk' (j:=([1]++beB 4 i.toNat++zaq n).length) (zs:=([1]++beB 4 i.toNat++zaq n).map U8) (by simp[maxLen,zaw];omega) (by simp[zaw];omega) (by simp;omega) (by simp) ?_
     refine⟨_,rfl,zf ?_⟩
     rw[if_neg (by simp;omega)]
     rfl
end
section
theorem zsf(n:Int): ∀(f:Nat) (x:Int),(zdi n f x).length=(zeg n f x).length
 |0,x=>by simp[zdi,zeg]
 |f+1,x=>by
  simp only[zdi,zeg]
  split<;>simp[zsf n f]
theorem zee(x n:Int):(zau x n).length=(za4 x n).length:=zsf n 17 x
def zzr(n:Int):Int:=if za0 n then 2*(za4 0 n).length+1 else 0
theorem z2q(n:Int):zaf Tryz.prog 13 [I n] (.r (I (zzr n))):=by
 refine zac (T:=Tab) mixed Tab_ok Tryz.func13 rfl (by kernel_rfl) ?_
 have hp:=zd2 0 n
 refine Vcall.bool (zpi n) (λh=>zw rfl (zt ?_)) (λh=>zu rfl (zq ?_))
 ·refine ze (zun 0 n) ?_
  refine zd rfl (by omega) ?_
  refine zd rfl (by omega) ?_
  exact zf (by simp[zzr,h])
 ·exact zf (by simp[zzr,h,ofC])
theorem zdjb:zaf Tryz.prog 9 [] (.r (.b true)):=by
 refine zac (T:=Tab) mixed Tab_ok Tryz.func9 rfl (by kernel_rfl) ?_
 refine ze (z2q 4) ?_
 refine zu (by decide) ?_
 refine ze (z2q 1) ?_
 refine zu (by decide) ?_
 exact cr
def Lean_.fit(s:Lean_):Prop:=s.opn.length<=1000000/\s.shut.length<=1000000
theorem zekb(s:Lean_)(hs:s.fit):zaf Tryz.prog 15 [.ag s.c] (.r (I (s.opn.length+s.shut.length))):=by
 refine zac (T:=Tab) mixed Tab_ok Tryz.func15 rfl (by kernel_rfl) ?_
 obtain⟨h1,h2⟩:=hs
 exact zd rfl (by omega) (cr)
theorem zkj{l:List Int}{x:Int}{j:Nat}(hj:j<l.length)(h:x∉l.take j)(hx:l[j]≠x):x∉l.take (j+1):=by
 rw[List.take_add_one,List.getElem?_eq_getElem hj]
 simp only[Option.toList,List.mem_append,List.mem_cons,List.not_mem_nil,or_false]
 intro hh
 rcases hh with hh |hh
 ·exact h hh
 ·exact hx hh.symm
theorem zgsb(l:List Int)(x:Int)(hl:l.length<=10000000000000):zaf Tryz.prog 47 [is l,I x] (.r (.b (decide (x∈l)))):=by
 refine zac (T:=Tab) mixed Tab_ok Tryz.func47 rfl (by kernel_rfl) ?_
 refine zy (λj:Nat=>{F:=[(0, .r (is l)),(1, .r (I x)),(5, .r (I j))],O:=[],nx:=0}) (λj=>j<=l.length/\x∉l.take j) (λj=>l.length-j) 0 ⟨by omega,by simp⟩ (zad [] rfl ⟨cr,cr,cr,trivial⟩ trivial) ?_
 rintro j ⟨hj,hn⟩
 refine zh (λh=>zq ?_) (λh=>zt ?_)
 ·simp only[zb]at h
  have hj':j<l.length:=by omega
  refine zm (by omega) (by omega) (zai rfl hj') (zg rfl ?_)
  refine zh (λh2=>zq ?_) (λh2=>zt ?_)
  ·simp only[zb]at h2
   exact zf (by simp[ofC,<-h2])
  ·simp only[zb]at h2
   refine zd (m:=((j+1:Nat):Int)) (by omega) (by omega) ?_
   exact⟨j+1,⟨hj',zkj hj' hn h2⟩,by omega,zad [] rfl ⟨cr,cr,cr,trivial⟩ trivial⟩
 ·simp only[zb]at h
  rw[List.take_of_length_le (by omega)]at hn
  exact zf (by simp[ofC,hn])
theorem zk2(l:List Int)(x:Int)(hl:l.length<=10000000000000):zaf Tryz.prog 86 [is l,I x] (.r (.b (decide (x∈l)))):=by
 refine zac (T:=Tab) mixed Tab_ok Tryz.func86 rfl (by kernel_rfl) ?_
 refine zy (λj:Nat=>{F:=[(0, .r (is l)),(1, .r (I x)),(5, .r (I j))],O:=[],nx:=0}) (λj=>j<=l.length/\x∉l.take j) (λj=>l.length-j) 0 ⟨by omega,by simp⟩ (zad [] rfl ⟨cr,cr,cr,trivial⟩ trivial) ?_
 rintro j ⟨hj,hn⟩
 refine zh (λh=>zq ?_) (λh=>zt ?_)
 ·simp only[zb]at h
  have hj':j<l.length:=by omega
  refine zm (by omega) (by omega) (zai rfl hj') (zg rfl ?_)
  refine zh (λh2=>zq ?_) (λh2=>zt ?_)
  ·simp only[zb]at h2
   exact zf (by simp[ofC,<-h2])
  ·simp only[zb]at h2
   refine zd (m:=((j+1:Nat):Int)) (by omega) (by omega) ?_
   exact⟨j+1,⟨hj',zkj hj' hn h2⟩,by omega,zad [] rfl ⟨cr,cr,cr,trivial⟩ trivial⟩
 ·simp only[zb]at h
  rw[List.take_of_length_le (by omega)]at hn
  exact zf (by simp[ofC,hn])
def Node.zero:Node:=⟨0,⟨[],[],[],0,[],[]⟩,⟨[],[],[]⟩⟩
def zc:List RV:=[.i .u8 0, .x (.slice none 0 0), .x (.slice none 0 0), .x (.slice none 0 0), .i .u8 0, .x (.slice none 0 0), .x (.slice none 0 0), .x (.slice none 0 0), .x (.slice none 0 0), .x (.slice none 0 0)]
theorem Cv.ag{l m:List RV}(h:Cvs l m):Cv (.ag l) (.ag m):=λw k v hv=>by
 simp only[RV.at_]at*
 obtain⟨us,e,hp⟩:=hv
 exact⟨us,e,h.list hp⟩
theorem zg4:Cv (.ag zc) (.ag Node.zero.c):=Cv.ag (zk (cr) (zk (Cv.nil 1) (zk (Cv.nil 1) (zk (Cv.nil 1) (zk (cr) (zk (Cv.nil 1) (zk (Cv.nil 1) (zk (Cv.nil 1) (zk (Cv.nil 1) (zk (Cv.nil 1) Cvs.nil))))))))))
def zae(l:List Spot)(x:Int):Option Node:=(l.find? λs=>decide (s.at_=x)).map (·.node)
def zgib:Option Node->RV
 |some n=> .tu [.ag n.c, .b true]
 |none=> .tu [.ag Node.zero.c, .b false]
theorem zx5{l:List Spot}{x:Int}(h: ∀s∈l,s.at_≠x):zae l x=none:=by
 simp only[zae,Option.map_eq_none_iff,List.find?_eq_none,decide_eq_true_eq]
 exact h
theorem zdeb{l:List Spot}{x:Int}{j:Nat}(hj:j<l.length)(h: ∀s∈l.take j,s.at_≠x)(hx:l[j].at_=x):zae l x=some l[j].node:=by
 obtain⟨y,hy⟩: ∃y,y=l[j]:=⟨_,rfl⟩
 rw[<-hy]at hx⊢
 have:l=l.take j++y::l.drop (j+1):=by rw[hy,<-List.drop_eq_getElem_cons hj,List.take_append_drop]
 simp only[zae]
 rw[this,List.find?_append]
 have h1:(l.take j).find? (λs=>decide (s.at_=x))=none:=by simp only[List.find?_eq_none,decide_eq_true_eq];exact h
 rw[h1]
 simp[hx]
theorem zfa{l:List Spot}{i:Int}{j:Nat}(h:i=j)(hj:j<l.length):((l.flatMap Spot.c).drop (i.toNat*11)).take 11=l[j].c:=zof (f:=Spot.c) (sz:=11) (λ_=>rfl) h hj
theorem zfd{l:List Stub}{i:Int}{j:Nat}(h:i=j)(hj:j<l.length):((l.flatMap Stub.c).drop (i.toNat*2)).take 2=l[j].c:=zof (f:=Stub.c) (sz:=2) (λ_=>rfl) h hj
theorem ze5(l:List Spot)(x:Int)(hl:l.length<=1000000000):zaf Tryz.prog 34 [spots l,I x] (.r (zgib (zae l x))):=by
 refine zac (T:=Tab) mixed Tab_ok Tryz.func34 rfl (by kernel_rfl) ?_
 refine zy (λj:Nat=>{F:=[(0, .r (spots l)),(1, .r (I x)),(4, .own 0),(6, .r (I j))],O:=[(0,some (.box (zc.map .r)))],nx:=1}) (λj=>j<=l.length/\∀s∈l.take j,s.at_≠x) (λj=>l.length-j) 0 ⟨by omega,by simp⟩ (zad [(0,0)] rfl ⟨cr,cr,rfl,cr,trivial⟩ ⟨zab zc,trivial⟩) ?_
 rintro j ⟨hj,hn⟩
 refine zh (λh=>zq ?_) (λh=>zt ?_)
 ·simp only[zb]at h
  have hj':j<l.length:=by omega
  refine zm (by omega) (by omega) (zfa rfl hj') (zg rfl ?_)
  refine zh (λh2=>zq ?_) (λh2=>zt ?_)
  ·simp only[zb]at h2
   refine zm (by omega) (by omega) (zfa rfl hj') ?_
   refine za rfl rfl ?_
   refine za rfl rfl ?_
   refine⟨_,rfl,zf ?_⟩
   rw[zdeb hj' hn h2]
   rfl
  ·simp only[zb]at h2
   refine zd (m:=((j+1:Nat):Int)) (by omega) (by omega) ?_
   refine⟨j+1,⟨hj',?_⟩,by omega,zad [(0,0)] rfl ⟨cr,cr,rfl,cr,trivial⟩ ⟨zab zc,trivial⟩⟩
   rw[List.take_add_one,List.getElem?_eq_getElem hj']
   simp only[Option.toList,List.mem_append,List.mem_cons,List.not_mem_nil,or_false]
   rintro s (hs |rfl)
   ·exact hn s hs
   ·exact h2
 ·simp only[zb]at h
  rw[List.take_of_length_le (by omega)]at hn
  refine za rfl rfl ?_
  refine⟨_,rfl,?_⟩
  rw[zx5 hn]
  exact Cv.tu (zk zg4 (zn _))
end
section
theorem Sub.trans{S S' S'':St}(h:Sub S S')(h':Sub S' S''):Sub S S'':=λB N a w k hs=>by
 obtain⟨k',hs'⟩:=h B N a w k hs
 exact h' B N a w k' hs'
theorem zew{S:St}(t:Nat)(e:TypeId)(sz:Nat)(hf:fget S.F t=some (.r (.x (.slice none 0 0)))):Sub S {F:=(t, .own S.nx)::S.F,O:=(S.nx,some (.ch e sz 0 [] true))::S.O,nx:=S.nx+1}:=by
 rintro B N a w k ⟨g,hs⟩
 have hv:=(hs.facts t _ hf).2
 simp only[TF.at_,RV.at_]at hv
 have hlt:t<a.tmps.size:=by
  rcases Nat.lt_or_ge t a.tmps.size with h |h
  ·exact h
  ·rw[Array.getD_eq_getD_getElem?,Array.getElem?_eq_none h]at hv
   simp[undef]at hv
 have h:=hs.adopt (dst:=some t) (λd hd=>by cases hd;rw[<-hs.size];exact hlt) (o:= .ch e sz 0 [] true) (vb:=(.slice none 0 0,none)) trivial ⟨by simp, .inl ⟨rfl, .inl ⟨rfl,none,rfl⟩⟩⟩ (λb hb=>by cases hb) (λi o' b _ hb=>by cases hb)
 have e1:a.put (some t) (.slice none 0 0)=a:=by
  simp only[Act.put]
  have:a.tmps.setIfInBounds t (.slice none 0 0)=a.tmps:=by
   apply Array.ext
   ·simp
   ·intro i h1 h2
    by_cases hi:t=i
    ·subst hi
     rw[Array.getElem_setIfInBounds_self]
     rw[Array.getD_eq_getD_getElem?,Array.getElem?_eq_getElem hlt]at hv
     exact hv.symm
    ·rw[Array.getElem_setIfInBounds_ne _ hi]
  rw[this]
 rw[e1]at h
 exact⟨k,_,h⟩
def ziw(n:Node)(l r:List UInt8):List UInt8:=2::(zaq n++vecB l++vecB r)
theorem z72(n:Node)(l r:List UInt8)(hn:n.fit):zaf Tryz.prog 89 [.ag n.c,bs l,bs r] (.r (if n.right=false\/n.kind.toNat=1 then .tu [bs [], .i .u8 3]else if l.length≠32\/r.length≠32 then .tu [bs [], .i .u8 1]else .tu [bs (ziw n l r), .i .u8 0])):=by
 refine zac (T:=Tab) mixed Tab_ok Tryz.func89 rfl (by kernel_rfl) ?_
 have hnl:=zds n hn
 have nil1: ∀(c:Int),Cv (.tu [ofC (.slice none 0 0), .i .u8 c]) (.tu [bs [], .i .u8 c]):=λc=>Cv.tu (zk (Cv.nil 1) (zn _))
 refine za rfl rfl ?_
 refine ze (zop n hn) ?_
 cases hr:n.right with
 |false=>
  refine zu rfl (zq ?_)
  refine⟨_,rfl,?_⟩
  rw[if_pos (.inl rfl)]
  exact nil1 3
 |true=>
  refine zw rfl ?_
  refine zh (λh3=>zq ?_) (λh3=>zt ?_)
  ·simp only[zb]at h3
   refine⟨_,rfl,?_⟩
   rw[if_pos (.inr (show n.kind.toNat=1 by omega))]
   exact nil1 3
  ·simp only[zb]at h3
   rw[if_neg (show¬(true=false\/n.kind.toNat=1)by simp;omega)]
   refine zh (λh4=>zq ?_) (λh4=>?_)
   ·simp only[zb]at h4
    refine⟨_,rfl,?_⟩
    rw[if_pos (.inl (show l.length≠32 by omega))]
    exact nil1 1
   ·refine zh (λh5=>zq ?_) (λh5=>zt ?_)
    ·simp only[zb]at h5
     refine⟨_,rfl,?_⟩
     rw[if_pos (.inr (show r.length≠32 by omega))]
     exact nil1 1
    ·simp only[zb]at h4 h5
     refine zx ?_
     refine Vapp.mk' (j:=([2]++zaq n).length) (zs:=([2]++zaq n).map U8) (by simp[maxLen];omega) (by simp;omega) (by simp;omega) (by simp[zb8,cellsOf];rfl) ?_
     have vl:=zat l
     refine ze (zd9 ([2]++zaq n) l (by simp;omega) (by omega)) ?_
     refine ze (zd9 ([2]++zaq n++vecB l) r (by simp;omega) (by omega)) ?_
     refine⟨_,rfl,zf ?_⟩
     rw[if_neg (show¬(l.length≠32\/r.length≠32)by omega)]
     have:[2]++zaq n++vecB l++vecB r=ziw n l r:=by simp[ziw]
     rw[this]
     rfl
def ins(x:Int):List Int->List Int
 |[]=>[x]
 |y::r=>if x<y then x::y::r else if x=y then y::r else y::ins x r
def rise(l:List Int):List Int:=l.foldr ins []
theorem zwh{x z:Int}: ∀{l:List Int},z∈ins x l↔z=x\/z∈l
 |[]=>by simp[ins]
 |y::r=>by
  simp only[ins]
  split
  ·simp
  ·split
   ·rename_i h;subst h;simp
   ·simp[zwh (l:=r)]
    constructor
    ·rintro(h |h |h)<;>simp[h]
    ·rintro(h |h |h)<;>simp[h]
theorem zy8{x:Int}: ∀{l:List Int},l.Pairwise (· < ·)->(ins x l).Pairwise (· < ·)
 |[],_=>by simp[ins]
 |y::r,h=>by
  simp only[ins]
  rw[List.pairwise_cons]at h
  split
  ·rename_i hxy
   refine List.pairwise_cons.2 ⟨λz hz=>?_,List.pairwise_cons.2 h⟩
   rcases List.mem_cons.1 hz with rfl |hz
   ·exact hxy
   ·exact Int.lt_trans hxy (h.1 z hz)
  ·split
   ·exact List.pairwise_cons.2 h
   ·refine List.pairwise_cons.2 ⟨λz hz=>?_,zy8 h.2⟩
    rcases zwh.1 hz with rfl |hz
    ·omega
    ·exact h.1 z hz
theorem zfc{x:Int}: ∀{l:List Int},x∈rise l↔x∈l
 |[]=>by simp[rise]
 |y::r=>by
  have:=zfc (x:=x) (l:=r)
  simp only[rise,List.foldr_cons]at*
  rw[zwh,this];simp
theorem zf7: ∀l:List Int,(rise l).Pairwise (· < ·)
 |[]=>by simp[rise]
 |y::r=>zy8 (zf7 r)
theorem zeb: ∀{l m:List Int},l.Pairwise (· < ·)->m.Pairwise (· < ·)->(∀x,x∈l↔x∈m)->l=m
 |[],[],_,_,_=>rfl
 |[],y::m,_,_,h=>by have:=(h y).2 (by simp);cases this
 |x::l,[],_,_,h=>by have:=(h x).1 (by simp);cases this
 |x::l,y::m,hl,hm,h=>by
  rw[List.pairwise_cons]at hl hm
  have hxy:x=y:=by
   rcases List.mem_cons.1 ((h x).1 (by simp))with e |hx
   ·exact e
   ·rcases List.mem_cons.1 ((h y).2 (by simp))with e |hy
    ·exact e.symm
    ·have:=hm.1 x hx;have:=hl.1 y hy;omega
  subst hxy
  congr 1
  refine zeb hl.2 hm.2 λz=>⟨λhz=>?_,λhz=>?_⟩
  ·rcases List.mem_cons.1 ((h z).1 (List.mem_cons_of_mem _ hz))with e |hz'
   ·have:=hl.1 z hz;omega
   ·exact hz'
  ·rcases List.mem_cons.1 ((h z).2 (List.mem_cons_of_mem _ hz))with e |hz'
   ·have:=hm.1 z hz;omega
   ·exact hz'
end
section
theorem zbg{ρ:List (Nat×Nat)}{S:St}{e:TypeId}{l m:List Int}(h:l=m):cvOw ρ S (.ch e 1 l.length (l.map I) true) (.ch e 1 m.length (m.map I) true):=by
 subst h
 exact⟨rfl,rfl,rfl,rfl,zn _⟩
end
section
def bss(ls:List (List UInt8)):RV:= .sl 1 ls.length (ls.map bs)
theorem z3o{w:World}{k:Kp}: ∀{ls:List (List UInt8)} {us:List Value},RV.listAt w k (ls.map bs) us->∃ps:List (AC×List UInt8),ps.map (·.2)=ls/\us=ps.map slv/\∀q∈ps,By w (λ_=>True) q.1 q.2
 |[],us,h=>by simp only[List.map_nil,RV.listAt]at h;exact⟨[],rfl,h,by simp⟩
 |l::ls,us,h=>by
  simp only[List.map_cons,RV.listAt]at h
  obtain⟨u,r,rfl,_,h1,h2⟩:=h
  obtain⟨p,rfl,hp⟩:=zfv h1
  obtain⟨ps,e1,e2,e3⟩:=z3o h2
  refine⟨(p,l)::ps,by simp[e1],by simp[e2,slv],λq hq=>?_⟩
  rcases List.mem_cons.1 hq with rfl |hq
  ·exact hp
  ·exact e3 q hq
theorem zyt(ls:List (List UInt8))(hl:(ls.flatMap id).length<=100000000000):zaf Tryz.prog 92 [bss ls] (bch (shaB (ls.flatMap id))):=
 zb1 (za8 Tryz.func92 rfl (by kernel_rfl)) λw k vs hp=>by
  obtain⟨a,rfl,h1⟩:=zhe hp
  simp only[bss,RV.at_]at h1
  obtain⟨p,c,rfl,c1,c2,c3,c4⟩:=h1
  have key: ∃ps:List (AC×List UInt8),ps.map (·.2)=ls/\Pa w ⟨p,c⟩ ps:=by
   rcases Nat.eq_zero_or_pos ls.length with h0 |hpos
   ·obtain rfl:=List.eq_nil_of_length_eq_zero h0
    exact⟨[],rfl,⟨by simp,by simp,c2,λh=>by simp at h⟩,by simp⟩
   ·obtain⟨b,o,rfl,hb,hc⟩:=c4 hpos
    obtain⟨us,q1,q2,q3⟩:=RV.cells_list _ _ hc
    obtain⟨ps,e1,e2,e3⟩:=z3o q1
    have hlen:ps.length=ls.length:=by rw[<-e1];simp
    exact⟨ps,e1,⟨by simp,by rw[hlen];exact c1,c2,λ_=>⟨b,o,rfl,trivial,hb,λj u hu=>q3 j u (by rw[e2];exact hu)⟩⟩,e3⟩
  obtain⟨ps,e1,hpa⟩:=key
  have hcat:catB ps=ls.flatMap id:=by rw[<-e1];simp[catB,List.flatMap_map]
  have hlen:ps.length=ls.length:=by rw[<-e1];simp
  have:=z4t ⟨p,c⟩ ps w hpa (by rw[hcat];exact hl)
  rw[hlen]at this
  refine this.mono λ_ _ ⟨v,he,hx,_,hv⟩=>⟨v,he,hx,?_⟩
  rw[hcat]at hv
  exact zio hv
end
section
abbrev U64(n:Nat):RV:= .i .u64 (n:Int)
def us(l:List Nat):RV:= .sl 1 l.length (l.map U64)
theorem zhq{x:Nat}(h:x<18446744073709551616):IntKind.u64.wrap (x:Int)=(x:Int):=by
 have:((x:Int)%18446744073709551616)=x:=by omega
 simp only[IntKind.wrap]
 simp[IntKind.bits,IntKind.signed]
 omega
theorem Vint.u64{e:Int}{K:Int->Prop}(n:Nat)(he:e=(n:Int))(h:n<18446744073709551616)(hK:K (n:Int)):Vint .u64 e K:=⟨n,by rw[he,zhq h],hK⟩
theorem Vquo.nat{a b:Int}{K:Int->Prop}(x y:Nat)(ha:a=(x:Int))(hb:b=(y:Int))(hy:0<y)(hx:x<18446744073709551616)(hK:K ((x/y:Nat):Int)):Vquo .u64 a b K:=by
 subst ha;subst hb
 refine⟨by omega,_,?_,hK⟩
 rw[Int.tdiv_eq_ediv_of_nonneg (by omega),<-Int.natCast_ediv,zhq (Nat.lt_of_le_of_lt (Nat.div_le_self _ _) hx)]
theorem Vrem.nat{a b:Int}{K:Int->Prop}(x y:Nat)(ha:a=(x:Int))(hb:b=(y:Int))(hy:0<y)(hK:K ((x%y:Nat):Int)):Vrem a b K:=by
 subst ha;subst hb
 refine⟨by omega,_,?_,hK⟩
 rw[Int.tmod_eq_emod_of_nonneg (by omega),<-Int.natCast_emod]
theorem Vint.u8{e:Int}{K:Int->Prop}(n:Nat)(he:e=(n:Int))(hK:K (((UInt8.ofNat n).toNat:Nat):Int)):Vint .u8 e K:=by
 refine⟨_,?_,hK⟩
 subst he
 simp only[IntKind.wrap]
 simp[IntKind.bits,IntKind.signed]
theorem Vbits.xor{a b:Int}{K:Int->Prop}(x y:Nat)(ha:a=(x:Int))(hb:b=(y:Int))(hx:x<18446744073709551616)(hy:y<18446744073709551616)(hK:K ((x^^^y:Nat):Int)):Vbits .u64 .xor a b K:=by
 subst ha;subst hb
 refine⟨_,?_,hK⟩
 have hxy:x^^^y<18446744073709551616:=Nat.xor_lt_two_pow (n:=64) hx hy
 have e: ∀z:Nat,z<18446744073709551616->(BitVec.ofInt 64 (z:Int)).toNat=z:=λz hz=>by
  rw[BitVec.toNat_ofInt];omega
 show((x^^^y:Nat):Int)=IntKind.u64.wrap (((BitVec.ofInt 64 (x:Int)^^^BitVec.ofInt 64 (y:Int)).toNat:Nat):Int)
 rw[BitVec.toNat_xor,e x hx,e y hy,zhq hxy]
theorem Vadr.mk'{i:Int}{n:Nat}{K:Nat->Prop}(j:Nat)(h:i=(j:Int))(hj:j<n)(hK:K j):Vadr i n K:=by
 subst h
 exact⟨by omega,by omega,by rw[Int.toNat_natCast];exact hK⟩
theorem zvf{x:Nat}:rotr 0 x=x:=by simp[rotr,Nat.mod_one]
theorem z6c{x i:Nat}(hi:i<32):rotr (i+1) x=rotr i x/2+rotr i x%2*2147483648:=by
 unfold rotr
 have h1:x/2^(i+1)=x/2^i/2:=by rw[Nat.pow_succ,Nat.div_div_eq_div_mul]
 have h2:x%2^(i+1)=x%2^i+2^i*(x/2^i%2):=by rw[Nat.pow_succ,Nat.mod_mul]
 have h3:2^(32-i)=2*2^(32-(i+1)):=by rw[show 32-i=(32-(i+1))+1 by omega,Nat.pow_succ,Nat.mul_comm]
 have h4:2^i*2^(32-(i+1))=2147483648:=by rw[<-Nat.pow_add,show i+(32-(i+1))=31 by omega]
 rw[h1,h2,h3]
 generalize x/2^i=r
 generalize x%2^i=m
 generalize 2^(32-(i+1))=p at*
 generalize 2^i=q at*
 have e1:m*(2*p)=2*(m*p):=by rw[Nat.mul_left_comm]
 have e2:(m+q*(r%2))*p=m*p+r%2*2147483648:=by
  rw[Nat.add_mul,<-h4,Nat.mul_comm q,Nat.mul_assoc]
 rw[e1,e2]
 omega
theorem zcm{x:Nat}(hx:x<4294967296): ∀{n:Nat},n<=31->rotr n x<4294967296
 |0,_=>by rw[zvf];exact hx
 |n+1,h=>zcr hx (by omega) h
theorem zhd(x n:Nat)(hx:x<4294967296)(hn:n<=31):zaf Tryz.prog 162 [U64 x,I n] (.r (U64 (rotr n x))):=by
 refine zac (T:=Tab) mixed Tab_ok Tryz.func162 rfl (by kernel_rfl) ?_
 refine zy (λj:Nat=>{F:=[(0, .r (U64 (rotr j x))),(1, .r (I n)),(5, .r (I j))],O:=[],nx:=0}) (λj=>j<=n) (λj=>n-j) 0 (by omega) (zad [] rfl ⟨zf (by rw[zvf]),cr,cr,trivial⟩ trivial) ?_
 intro j hj
 refine zh (λh=>zq ?_) (λh=>zt ?_)
 ·simp only[zb]at h
  have hr:=zcm hx (show j<=31 by omega)
  refine Vquo.nat (rotr j x) 2 rfl rfl (by omega) (by omega) ?_
  refine Vrem.nat (rotr j x) 2 rfl rfl (by omega) ?_
  refine Vint.u64 (rotr j x%2*2147483648) (by omega) (by omega) ?_
  refine Vint.u64 (rotr j x/2+rotr j x%2*2147483648) (by omega) (by omega) ?_
  refine zd (m:=((j+1:Nat):Int)) (by omega) (by omega) ?_
  exact⟨j+1,by omega,by omega,zad [] rfl ⟨zf (by rw[z6c (by omega)]),cr,cr,trivial⟩ trivial⟩
 ·simp only[zb]at h
  obtain rfl:j=n:=by omega
  exact cr
theorem z4f(x n:Nat)(hx:x<4294967296)(hn:n<=31):zaf Tryz.prog 163 [U64 x,I n] (.r (U64 (x/2^n))):=by
 refine zac (T:=Tab) mixed Tab_ok Tryz.func163 rfl (by kernel_rfl) ?_
 refine zy (λj:Nat=>{F:=[(0, .r (U64 (x/2^j))),(1, .r (I n)),(5, .r (I j))],O:=[],nx:=0}) (λj=>j<=n) (λj=>n-j) 0 (by omega) (zad [] rfl ⟨zf (by simp),cr,cr,trivial⟩ trivial) ?_
 intro j hj
 refine zh (λh=>zq ?_) (λh=>zt ?_)
 ·simp only[zb]at h
  have hr:=Nat.div_le_self x (2^j)
  refine Vquo.nat (x/2^j) 2 rfl rfl (by omega) (by omega) ?_
  refine zd (m:=((j+1:Nat):Int)) (by omega) (by omega) ?_
  exact⟨j+1,by omega,by omega,zad [] rfl ⟨zf (by rw[Nat.pow_succ,Nat.div_div_eq_div_mul]),cr,cr,trivial⟩ trivial⟩
 ·simp only[zb]at h
  obtain rfl:j=n:=by omega
  exact cr
theorem zd7b:zaf Tryz.prog 124 [] (.r (.tu [us h0Tab.list,us kTab])):=by
 refine zac (T:=Tab) mixed Tab_ok Tryz.func124 rfl (by kernel_rfl) ?_
 refine zx ?_
 refine zx ?_
 exact⟨_,rfl,cr⟩
end
section
theorem Vcall.boolc{P:Program}{f:FuncId}{vs ps:List RV}{K:Res->Prop}{β:Bool}(hg:zaf P f ps (.r (.b β)))(hc:Cvs vs ps)(ht:β=true->K (.r (.b true)))(hf:β=false->K (.r (.b false))):Vcall P f vs K:=by
 cases β
 ·exact Vcall.mk' hg hc (hf rfl)
 ·exact Vcall.mk' hg hc (ht rfl)
def Node.small(n:Node):Bool:=decide (n.leaf.box.length<=200/\n.leaf.sign.length<=200/\n.leaf.ident.length<=200/\n.leaf.parent.length<=200/\n.leaf.sig.length<=200/\n.par.box.length<=200/\n.par.hash.length<=200/\n.par.late.length<=60)
theorem zw3(n:Node):zaf Tryz.prog 42 [.ag n.c] (.r (.b n.small)):=by
 refine zac (T:=Tab) mixed Tab_ok Tryz.func42 rfl (by kernel_rfl) ?_
 refine Vdraw.mk' (by kernel_rfl) ?_
 refine za rfl rfl ?_
 refine za rfl rfl ?_
 (repeat' (first |refine zh (λh=>?_) (λh=>?_) |refine zf ?_ |refine zq ?_ |refine zt ?_))
 all_goals refine congrArg RV.b (Eq.symm ?_)
 all_goals simp only[Node.small,zb]at*
 all_goals omega
def zl:Leaf:=⟨[],[],[],0,[],[]⟩
def zp:Par:=⟨[],[],[]⟩
theorem zqv(l:Leaf):l.none=decide (l=zl):=by
 obtain⟨a,b,c,d,e,f⟩:=l
 rw[Bool.eq_iff_iff]
 simp only[Leaf.none,zl,decide_eq_true_eq,Leaf.mk.injEq,List.length_eq_zero_iff]
 have:d.toNat=0↔d=0:=⟨λh=>UInt8.toNat_inj.1 (by simpa using h),λh=>by simp[h]⟩
 rw[this]
 constructor
 ·rintro⟨h1,h2,h3,h4,h5,h6⟩;exact⟨h2,h3,h4,h1,h5,h6⟩
 ·rintro⟨h1,h2,h3,h4,h5,h6⟩;exact⟨h4,h1,h2,h3,h5,h6⟩
theorem zs5(p:Par):p.none=decide (p=zp):=by
 obtain⟨a,b,c⟩:=p
 rw[Bool.eq_iff_iff]
 simp only[Par.none,zp,decide_eq_true_eq,Par.mk.injEq,List.length_eq_zero_iff]
def zln(n:Node):Node:=⟨0,n.leaf,zp⟩
def zrb(n:Node):Node:=⟨0,zl,n.par⟩
theorem zdlb(n:Node):Cv (.ag [.i .u8 0,bs n.leaf.box,bs n.leaf.sign,bs n.leaf.ident,U8 n.leaf.src,bs n.leaf.parent,bs n.leaf.sig, .x (.slice none 0 0), .x (.slice none 0 0), .x (.slice none 0 0)]) (.ag (zln n).c):=
 Cv.ag (zk (cr) (zk (cr) (zk (cr) (zk (cr) (zk (cr) (zk (cr) (zk (cr) (zk (Cv.nil 1) (zk (Cv.nil 1) (zk (Cv.nil 1) Cvs.nil))))))))))
theorem zgdb(n:Node):Cv (.ag [.i .u8 0, .x (.slice none 0 0), .x (.slice none 0 0), .x (.slice none 0 0), .i .u8 0, .x (.slice none 0 0), .x (.slice none 0 0),bs n.par.box,bs n.par.hash,is n.par.late]) (.ag (zrb n).c):=
 Cv.ag (zk (cr) (zk (Cv.nil 1) (zk (Cv.nil 1) (zk (Cv.nil 1) (zk (cr) (zk (Cv.nil 1) (zk (Cv.nil 1) (zk (cr) (zk (cr) (zk (cr) Cvs.nil))))))))))
theorem zlw(n:Node):zln n=Node.zero↔n.leaf.none=true:=by
 rw[zqv,decide_eq_true_eq]
 simp[zln,Node.zero,zl,zp]
theorem znx(n:Node):zrb n=Node.zero↔n.par.none=true:=by
 rw[zs5,decide_eq_true_eq]
 simp[zrb,Node.zero,zl,zp]
theorem z8x(n:Node)(hn:n.fit):zaf Tryz.prog 44 [.ag n.c] (.r (.b n.right)):=by
 refine zac (T:=Tab) mixed Tab_ok Tryz.func44 rfl (by kernel_rfl) ?_
 have sl:=zs0 (zln n) Node.zero (by simp[zln,zp]) (by simp[Node.zero])
 have sp:=zs0 (zrb n) Node.zero hn.2.2.2.2 (by simp[Node.zero])
 have cl:=zk (zdlb n) (zk zg4 Cvs.nil)
 have cp:=zk (zgdb n) (zk zg4 Cvs.nil)
 refine Vdraw.mk' (by kernel_rfl) ?_
 refine za rfl rfl ?_
 refine za rfl rfl ?_
 refine zh (λh=>zq ?_) (λh=>zt ?_)
 ·simp only[zb]at h
  have h0:n.kind.toNat=0:=by omega
  refine za rfl rfl ?_
  refine Vcall.boolc sl cl (λh2=>?_) (λh2=>?_)
  ·refine za rfl rfl ?_
   refine Vcall.boolc sp cp (λh3=>?_) (λh3=>?_)
   all_goals refine zf (congrArg RV.b (Eq.symm ?_))
   all_goals simp only[zb,zlw,znx]at h2 h3
   all_goals simp[Node.right,h0,h2,h3]
  ·refine zf (congrArg RV.b (Eq.symm ?_))
   simp only[zb,zlw,znx]at h2
   simp[Node.right,h0,h2]
 ·refine zh (λh2=>zq ?_) (λh2=>zt ?_)
  ·simp only[zb]at h2
   have h0:n.kind.toNat=1:=by omega
   refine za rfl rfl ?_
   refine Vcall.bool (z7o n.leaf) (λh3=>?_) (λh3=>?_)
   ·refine za rfl rfl ?_
    refine Vcall.boolc sp cp (λh4=>?_) (λh4=>?_)
    all_goals refine zf (congrArg RV.b (Eq.symm ?_))
    all_goals simp only[zb,zlw,znx]at h4
    all_goals simp[Node.right,h0,h3,h4]
   ·refine zf (congrArg RV.b (Eq.symm ?_))
    simp[Node.right,h0,h3]
  ·refine zh (λh3=>zq ?_) (λh3=>zt ?_)
   ·simp only[zb]at h3
    have h0:n.kind.toNat=2:=by omega
    refine za rfl rfl ?_
    refine Vcall.bool (zamb n.par hn.2) (λh4=>?_) (λh4=>?_)
    ·refine za rfl rfl ?_
     refine Vcall.boolc sl cl (λh5=>?_) (λh5=>?_)
     all_goals refine zf (congrArg RV.b (Eq.symm ?_))
     all_goals simp only[zb,zlw,znx]at h5
     all_goals simp[Node.right,h0,h4,h5]
    ·refine zf (congrArg RV.b (Eq.symm ?_))
     simp[Node.right,h0,h4]
   ·simp only[zb]at h h2 h3
    refine zf (congrArg RV.b (Eq.symm ?_))
    have a0: ¬n.kind.toNat=0:=by omega
    have a1: ¬n.kind.toNat=1:=by omega
    have a2: ¬n.kind.toNat=2:=by omega
    simp[Node.right,a0,a1,a2]
def Lean_.small(s:Lean_):Bool:=decide (s.opn.length<=60/\s.shut.length<=60/\(∀x∈s.opn,x.node.small=true)/\∀x∈s.shut,x.hash.length<=100)
theorem zdq{α:Type}{p:α->Prop}{l:List α}{j:Nat}(hj:j<l.length)(h: ∀x∈l.take j,p x)(hx:p l[j]): ∀x∈l.take (j+1),p x:=by
 intro x hm
 rw[List.take_add_one,List.getElem?_eq_getElem hj]at hm
 simp only[Option.toList,List.mem_append,List.mem_cons,List.not_mem_nil,or_false]at hm
 rcases hm with hm |rfl
 ·exact h x hm
 ·exact hx
theorem zgrb(s:Lean_)(h1:s.opn.length<=maxL)(h2:s.shut.length<=maxL):zaf Tryz.prog 10 [.ag s.c] (.r (.b s.small)):=by
 refine zac (T:=Tab) mixed Tab_ok Tryz.func10 rfl (by kernel_rfl) ?_
 have no:(s.opn.length<=60->s.shut.length<=60->(∀x∈s.opn,x.node.small=true)->(∀x∈s.shut,x.hash.length<=100)->False)->s.small=false:=λh=>by
  simp only[Lean_.small,decide_eq_false_iff_not]
  rintro⟨a,b,c,d⟩
  exact h a b c d
 simp only[maxL]at h1 h2
 refine zh (λh=>?_) (λh=>?_)
 ·refine zq (zf (congrArg RV.b (Eq.symm (no λa b c d=>?_))))
  simp only[zb]at h;omega
 refine zh (λh3=>zq ?_) (λh3=>zt ?_)
 ·refine zf (congrArg RV.b (Eq.symm (no λa b c d=>?_)))
  simp only[zb]at h3;omega
 simp only[zb]at h h3
 refine zy (λj:Nat=>{F:=[(1, .own 0),(3, .r (I j))],O:=[(0,some (.box (s.c.map .r)))],nx:=1}) (λj=>j<=s.opn.length/\∀x∈s.opn.take j,x.node.small=true) (λj=>s.opn.length-j) 0 ⟨by omega,by simp⟩ (zad [(0,0)] rfl ⟨rfl,cr,trivial⟩ ⟨zab _,trivial⟩) ?_
 rintro j ⟨hj,hn⟩
 refine zh (λh4=>zq ?_) (λh4=>zt ?_)
 ·simp only[zb]at h4
  have hj':j<s.opn.length:=by omega
  refine zm (by omega) (by omega) (zfa rfl hj') ?_
  refine za rfl rfl ?_
  refine Vcall.bool (zw3 _) (λh5=>zw rfl (zt ?_)) (λh5=>zu rfl (zq ?_))
  ·refine zd (m:=((j+1:Nat):Int)) (by omega) (by omega) ?_
   exact⟨j+1,⟨hj',zdq hj' hn h5⟩,by omega,zad [(0,0)] rfl ⟨rfl,cr,trivial⟩ ⟨zab _,trivial⟩⟩
  ·refine zf (congrArg RV.b (Eq.symm (no λa b c d=>?_)))
   have:=c _ (List.getElem_mem hj')
   rw[h5]at this;cases this
 simp only[zb]at h4
 rw[List.take_of_length_le (by omega)]at hn
 refine zy (λj:Nat=>{F:=[(1, .own 0),(4, .r (I j))],O:=[(0,some (.box (s.c.map .r)))],nx:=1}) (λj=>j<=s.shut.length/\∀x∈s.shut.take j,x.hash.length<=100) (λj=>s.shut.length-j) 0 ⟨by omega,by simp⟩ (zad [(0,0)] rfl ⟨rfl,cr,trivial⟩ ⟨zab _,trivial⟩) ?_
 rintro j2 ⟨hj2,hn2⟩
 refine zh (λh5=>zq ?_) (λh5=>zt ?_)
 ·simp only[zb]at h5
  have hj':j2<s.shut.length:=by omega
  refine zm (by omega) (by omega) (zfd rfl hj') ?_
  refine zg rfl ?_
  refine zh (λh6=>zq ?_) (λh6=>zt ?_)
  ·refine zf (congrArg RV.b (Eq.symm (no λa b c d=>?_)))
   have:=d _ (List.getElem_mem hj')
   simp only[zb]at h6
   omega
  ·simp only[zb]at h6
   refine zd (m:=((j2+1:Nat):Int)) (by omega) (by omega) ?_
   exact⟨j2+1,⟨hj',zdq hj' hn2 (by omega)⟩,by omega,zad [(0,0)] rfl ⟨rfl,cr,trivial⟩ ⟨zab _,trivial⟩⟩
 ·simp only[zb]at h5
  rw[List.take_of_length_le (by omega)]at hn2
  refine zf (congrArg RV.b (Eq.symm ?_))
  simp only[Lean_.small,decide_eq_true_eq]
  exact⟨by omega,by omega,hn,hn2⟩
def zbe(l:List Stub)(x:Int):List UInt8:=((l.find? λs=>decide (s.at_=x)).map (·.hash)).getD []
theorem z80{l:List Stub}{x:Int}(h: ∀s∈l,s.at_≠x):zbe l x=[]:=by
 have:l.find? (λs=>decide (s.at_=x))=none:=by simp only[List.find?_eq_none,decide_eq_true_eq];exact h
 simp[zbe,this]
theorem zd1b{l:List Stub}{x:Int}{j:Nat}(hj:j<l.length)(h: ∀s∈l.take j,s.at_≠x)(hx:l[j].at_=x):zbe l x=l[j].hash:=by
 obtain⟨y,hy⟩: ∃y,y=l[j]:=⟨_,rfl⟩
 rw[<-hy]at hx⊢
 have:l=l.take j++y::l.drop (j+1):=by rw[hy,<-List.drop_eq_getElem_cons hj,List.take_append_drop]
 simp only[zbe]
 rw[this,List.find?_append]
 have h1:(l.take j).find? (λs=>decide (s.at_=x))=none:=by simp only[List.find?_eq_none,decide_eq_true_eq];exact h
 rw[h1]
 simp[hx]
theorem z05(s:Lean_)(x:Int)(h2:s.shut.length<=1000000000):zaf Tryz.prog 103 [.ag s.c,I x] (.r (bs (zbe s.shut x))):=by
 refine zac (T:=Tab) mixed Tab_ok Tryz.func103 rfl (by kernel_rfl) ?_
 refine zy (λj:Nat=>{F:=[(1, .r (I x)),(2, .own 0),(5, .r (I j))],O:=[(0,some (.box (s.c.map .r)))],nx:=1}) (λj=>j<=s.shut.length/\∀y∈s.shut.take j,y.at_≠x) (λj=>s.shut.length-j) 0 ⟨by omega,by simp⟩ (zad [(0,0)] rfl ⟨cr,rfl,cr,trivial⟩ ⟨zab _,trivial⟩) ?_
 rintro j ⟨hj,hn⟩
 refine zh (λh5=>zq ?_) (λh5=>zt ?_)
 ·simp only[zb]at h5
  have hj':j<s.shut.length:=by omega
  refine zm (by omega) (by omega) (zfd rfl hj') ?_
  refine zg rfl ?_
  refine zh (λh6=>zq ?_) (λh6=>zt ?_)
  ·simp only[zb]at h6
   refine zm (by omega) (by omega) (zfd rfl hj') ?_
   refine zg rfl ?_
   exact zf (by rw[zd1b hj' hn h6])
  ·simp only[zb]at h6
   refine zd (m:=((j+1:Nat):Int)) (by omega) (by omega) ?_
   exact⟨j+1,⟨hj',zdq hj' hn h6⟩,by omega,zad [(0,0)] rfl ⟨cr,rfl,cr,trivial⟩ ⟨zab _,trivial⟩⟩
 ·simp only[zb]at h5
  rw[List.take_of_length_le (by omega)]at hn
  rw[z80 hn]
  exact Cv.nil 1
end
section
theorem zg1:Tryz.prog.underlying 3=some (.int .i64):=by kernel_rfl
theorem zk4:Tryz.prog.underlying 88=some (.map 3 60):=by kernel_rfl
theorem zgo:Tryz.prog.underlying 89=some (.map 3 28):=by kernel_rfl
def za5(l:List Spot):List (Int×RV):=l.map λs=>(s.at_,RV.ag s.node.c)
def zba(l:List Stub):List (Int×RV):=l.map λs=>(s.at_,bs s.hash)
def zgb:Int->List Int->Bool
 |_,[]=>true
 |last,x::r=>decide (last<x)&&zgb x r
def Lean_.lookOk(s:Lean_):Bool:=zgb (-1) (s.opn.map (·.at_))&&zgb (-1) (s.shut.map (·.at_))
def zce(s:Lean_):List RV:=[.s (mapS (za5 s.opn)), .s (mapS (zba s.shut))]
def zgqb:List RV:=[.s (mapS []), .s (mapS [])]
def zkm(s:Lean_):RV:=if s.lookOk then .tu [.ag (zce s), .b true]else .tu [.ag zgqb, .b false]
theorem z4i:Cv (.x (.map none)) (.s (mapS [])):=λw k v h=>by
 simp only[RV.at_]at*
 exact .inl ⟨h,rfl⟩
theorem zob: ∀{l:List (Int×RV)} {n:Int},(∀x∈l,x.1≠n)->zcw l n=none
 |[],_,_=>rfl
 |(m,r)::l,n,h=>by
  simp only[zcw]
  rw[if_neg (h (m,r) (by simp)),zob λx hx=>h x (by simp[hx])]
theorem z69{l:List Spot}{j:Nat}(hj:j<l.length):za5 (l.take j)++[(l[j].at_,RV.ag l[j].node.c)]=za5 (l.take (j+1)):=by
 rw[List.take_add_one,List.getElem?_eq_getElem hj];unfold za5;rw[List.map_append];rfl
theorem z5d{l:List Stub}{j:Nat}(hj:j<l.length):zba (l.take j)++[(l[j].at_,bs l[j].hash)]=zba (l.take (j+1)):=by
 rw[List.take_add_one,List.getElem?_eq_getElem hj];unfold zba;rw[List.map_append];rfl
theorem zhn{ρ:List (Nat×Nat)}{S:St}(p:GOw):cvOw ρ S (.gen p) (.gen p):=λ_ _ _ h=>h
theorem z9x{ρ:List (Nat×Nat)}{S:St}{l m:List (Int×RV)}(h:l=m):cvOw ρ S (.gen (mapO l)) (.gen (mapO m)):=by subst h;exact zhn _
theorem zny(s:Lean_)(h1:s.opn.length<=1000000000)(h2:s.shut.length<=1000000000):zaf Tryz.prog 51 [.ag s.c] (.r (zkm s)):=by
 refine zac (T:=Tab) mixed Tab_ok Tryz.func51 rfl (by kernel_rfl) ?_
 have bad:s.lookOk=false->Cv (.tu [.ag [.x (.map none), .x (.map none)], .b false]) (zkm s):=λh=>by
  rw[zkm,h]
  exact Cv.tu (zk (Cv.ag (zk z4i (zk z4i Cvs.nil))) (zn _))
 refine za8b Tab_ok rfl ⟨rfl,rfl,rfl⟩ ⟨rfl,rfl,rfl⟩ ⟨rfl,rfl,rfl⟩ ⟨rfl,rfl,rfl⟩ ⟨rfl,rfl,rfl⟩ rfl rfl rfl rfl rfl rfl (by decide) ?_
 refine zy (λi:Nat×Int=>{F:=[(1, .own 0),(2, .own 1),(3, .r (.b false)),(4, .own 4),(5, .r (I i.2)),(14, .r (spots s.opn)),(15, .r (I s.opn.length)),(16, .r (I i.1))],O:=[(0,some (.box (s.c.map .r))),(1,some (.box [.r (.x (.map none)), .r (.x (.map none))])),(2,some (.gen (mapO (za5 (s.opn.take i.1))))),(3,some (.gen (mapO []))),(4,some (.box [.own 2, .own 3]))],nx:=5})
  (λi=>i.1<=s.opn.length/\zgb (-1) (s.opn.map (·.at_))=zgb i.2 ((s.opn.drop i.1).map (·.at_))/\∀y∈s.opn.take i.1,y.at_<=i.2) (λi=>s.opn.length-i.1) (0, -1) ⟨by simp,by simp,by simp⟩
  (zad [(0,0),(1,1),(2,2),(3,3),(4,4)] rfl ⟨rfl,rfl,cr,rfl,cr,cr,cr,cr,trivial⟩ ⟨zab _,zab [.x (.map none), .x (.map none)],zhn _,zhn _,⟨_,_,rfl,rfl,_,_,rfl,rfl,rfl⟩,trivial⟩) ?_
 rintro⟨j,last⟩ ⟨hj,hrise,hle⟩
 simp only at hj hrise hle
 refine zh (λh=>zq ?_) (λh=>zt ?_)
 ·simp only[zb]at h
  have hj':j<s.opn.length:=by omega
  rw[List.drop_eq_getElem_cons hj',List.map_cons]at hrise
  simp only[zgb]at hrise
  refine zm (by omega) (by omega) (zfa rfl hj') ?_
  refine za rfl rfl ?_
  refine zh (λh3=>zq ?_) (λh3=>zt ?_)
  ·simp only[zb]at h3
   refine za rfl rfl ⟨_,rfl,bad ?_⟩
   simp only[Lean_.lookOk,hrise]
   rw[decide_eq_false (by omega)]
   rfl
  ·simp only[zb]at h3
   refine za rfl rfl ?_
   refine Vstep.mapNew rfl rfl rfl rfl rfl rfl zk4 zg1 (zob λx hx=>?_) ?_
   ·obtain⟨y,hy,rfl⟩:=List.mem_map.1 hx
    have:=hle y hy
    simp only;omega
   refine zd (m:=((j+1:Nat):Int)) (by omega) (by omega) ?_
   rw[decide_eq_true (by omega),Bool.true_and]at hrise
   exact⟨(j+1,s.opn[j].at_),⟨hj',hrise,zdq (p:=λy=>y.at_<=s.opn[j].at_) hj' (λy hy=>by have:=hle y hy;omega) (Int.le_refl _)⟩,by simp only;omega,
    zad [(0,0),(1,1),(2,2),(3,3),(4,4)] rfl ⟨rfl,rfl,cr,rfl,cr,cr,cr,cr,trivial⟩ ⟨zab _,zab [.x (.map none), .x (.map none)],z9x (z69 hj'),zhn _,⟨_,_,rfl,rfl,_,_,rfl,rfl,rfl⟩,trivial⟩⟩
 simp only[zb]at h
 have hd:s.opn.drop j=[]:=List.drop_eq_nil_of_le (by omega)
 rw[hd]at hrise
 rw[List.take_of_length_le (by omega)]
 simp only[List.map_nil,zgb]at hrise
 refine Vloop.mkx (λi:Nat×Int=>{F:=[(1, .own 0),(2, .own 1),(3, .r (.b false)),(4, .own 4),(5, .r (I i.2)),(35, .r (zkv s.shut)),(36, .r (I s.shut.length)),(37, .r (I i.1))],O:=[(0,some (.box (s.c.map .r))),(1,some (.box [.r (.x (.map none)), .r (.x (.map none))])),(2,some (.gen (mapO (za5 s.opn)))),(3,some (.gen (mapO (zba (s.shut.take i.1))))),(4,some (.box [.own 2, .own 3]))],nx:=5})
  (λi=>i.1<=s.shut.length/\zgb (-1) (s.shut.map (·.at_))=zgb i.2 ((s.shut.drop i.1).map (·.at_))/\∀y∈s.shut.take i.1,y.at_<=i.2) (λi=>s.shut.length-i.1) (0, -1) ⟨by simp,by simp,by simp⟩
  (zad [(0,0),(1,1),(2,2),(3,3),(4,4)] rfl ⟨rfl,rfl,cr,rfl,cr,cr,cr,cr,trivial⟩ ⟨zab _,zab [.x (.map none), .x (.map none)],zhn _,zhn _,⟨_,_,rfl,rfl,_,_,rfl,rfl,rfl⟩,trivial⟩) ?_
 rintro⟨j2,last2⟩ ⟨hj2,hrise2,hle2⟩
 simp only at hj2 hrise2 hle2
 refine zh (λh3=>zq ?_) (λh3=>zt ?_)
 ·simp only[zb]at h3
  have hj':j2<s.shut.length:=by omega
  rw[List.drop_eq_getElem_cons hj',List.map_cons]at hrise2
  simp only[zgb]at hrise2
  refine zm (by omega) (by omega) (zfd rfl hj') ?_
  refine za rfl rfl ?_
  refine zh (λh4=>zq ?_) (λh4=>zt ?_)
  ·simp only[zb]at h4
   refine⟨_,zo _,?_⟩
   refine za rfl rfl ⟨_,rfl,bad ?_⟩
   simp only[Lean_.lookOk,hrise2]
   rw[decide_eq_false (by omega)]
   simp
  ·simp only[zb]at h4
   refine Vstep.mapNew rfl rfl rfl rfl rfl rfl zgo zg1 (zob λx hx=>?_) ?_
   ·obtain⟨y,hy,rfl⟩:=List.mem_map.1 hx
    have:=hle2 y hy
    simp only;omega
   refine zd (m:=((j2+1:Nat):Int)) (by omega) (by omega) ?_
   rw[decide_eq_true (by omega),Bool.true_and]at hrise2
   exact⟨(j2+1,s.shut[j2].at_),⟨hj',hrise2,zdq (p:=λy=>y.at_<=s.shut[j2].at_) hj' (λy hy=>by have:=hle2 y hy;omega) (Int.le_refl _)⟩,by simp only;omega,
    zad [(0,0),(1,1),(2,2),(3,3),(4,4)] rfl ⟨rfl,rfl,cr,rfl,cr,cr,cr,cr,trivial⟩ ⟨zab _,zab [.x (.map none), .x (.map none)],zhn _,z9x (z5d hj'),⟨_,_,rfl,rfl,_,_,rfl,rfl,rfl⟩,trivial⟩⟩
 simp only[zb]at h3
 have hd2:s.shut.drop j2=[]:=List.drop_eq_nil_of_le (by omega)
 rw[hd2]at hrise2
 rw[List.take_of_length_le (by omega)]
 simp only[List.map_nil,zgb]at hrise2
 refine⟨_,Sub.trans (zu9 (id:=2) (j:=4) (i:=0) rfl rfl rfl) (zu9 (id:=3) (j:=4) (i:=1) rfl rfl rfl),?_⟩
 refine za rfl rfl ?_
 refine za rfl rfl ⟨_,rfl,zf ?_⟩
 rw[zkm,Lean_.lookOk,hrise,hrise2]
 rfl
end
section
def idxF(q:Int->Bool):Nat->List Int->Int
 |_,[]=> -1
 |j,x::r=>if q x then(j:Int)else idxF q (j+1) r
theorem zwp(q:Int->Bool): ∀(l:List Int) (j:Nat), -1<=idxF q j l/\idxF q j l< (j+l.length:Nat)/\(0<=idxF q j l↔l.any q=true)
 |[],j=>by simp[idxF];omega
 |x::r,j=>by
  have ih:=zwp q r (j+1)
  rw[idxF,List.any_cons,List.length_cons]
  by_cases hq:q x=true
  ·rw[if_pos hq,hq]
   exact⟨by omega,by omega,by simp⟩
  ·rw[if_neg hq,Bool.eq_false_iff.2 hq,Bool.false_or]
   exact⟨ih.1,by omega,ih.2.2⟩
theorem zr1(l:List Int)(D:Int->Prop)(q:Int->Bool)(hl:l.length<=1000000000)(hD: ∀x∈l,D x):zaf Tryz.prog 141 [is l, .s (cloS Tryz.prog I D q)] (.r (I (idxF q 0 l))):=by
 refine zac (T:=Tab) mixed Tab_ok Tryz.func141 rfl (by kernel_rfl) ?_
 refine zy (λj:Nat=>{F:=[(0, .r (is l)),(1, .r (.s (cloS Tryz.prog I D q))),(7, .r (I l.length)),(8, .r (I j))],O:=[],nx:=0}) (λj=>j<=l.length/\idxF q 0 l=idxF q j (l.drop j)) (λj=>l.length-j) 0 ⟨by omega,by simp⟩ (zad [] rfl ⟨cr,cr,cr,cr,trivial⟩ trivial) ?_
 rintro j ⟨hj,he⟩
 refine zh (λh=>zq ?_) (λh=>zt ?_)
 ·simp only[zb]at h
  have hj':j<l.length:=by omega
  rw[List.drop_eq_getElem_cons hj']at he
  simp only[idxF]at he
  refine zm (by omega) (by omega) (zai rfl hj') (zg rfl ?_)
  refine Vstep.cloB l[j] rfl rfl rfl rfl (cr) (hD _ (List.getElem_mem hj')) (λhq=>zq ?_) (λhq=>zt ?_)
  ·rw[hq]at he
   exact zf (by rw[he];simp)
  ·rw[hq]at he
   refine zd (m:=((j+1:Nat):Int)) (by omega) (by omega) ?_
   exact⟨j+1,⟨hj',by rw[he];simp⟩,by omega,zad [] rfl ⟨cr,cr,cr,cr,trivial⟩ trivial⟩
 ·simp only[zb]at h
  rw[List.drop_eq_nil_of_le (by omega)]at he
  exact zf (by rw[he];rfl)
theorem zc3(l:List Int)(D:Int->Prop)(q:Int->Bool)(hl:l.length<=1000000000)(hD: ∀x∈l,D x):zaf Tryz.prog 96 [is l, .s (cloS Tryz.prog I D q)] (.r (.b (l.any q))):=by
 refine zac (T:=Tab) mixed Tab_ok Tryz.func96 rfl (by kernel_rfl) ?_
 refine ze (zr1 l D q hl hD) ?_
 exact Vcmp.mk' rfl (zf (congrArg RV.b (by rw[Bool.eq_iff_iff,decide_eq_true_eq];exact(zwp q l 0).2.2)))
def za6(u:Int):Prop:=0<=u/\u<65536
theorem zegb(u x:Int)(hu:za6 u):zaf Tryz.prog 97 [I u, .ptr [I x]] (.r (.b (!zal (2*u) x))):=by
 refine zac (T:=Tab) mixed Tab_ok Tryz.func97 rfl (by kernel_rfl) ?_
 unfold za6 at hu
 refine zd rfl (by omega) ?_
 refine zg rfl ?_
 refine ze (zi9 (2*u) x) ?_
 exact Vcmp.mk' rfl (cr)
theorem zv3(u x:Int)(hu:za6 u):zaf Tryz.prog 100 [I u, .ptr [I x]] (.r (.b (zal (2*u) x))):=by
 refine zac (T:=Tab) mixed Tab_ok Tryz.func100 rfl (by kernel_rfl) ?_
 unfold za6 at hu
 refine zd rfl (by omega) ?_
 refine zg rfl ?_
 refine ze (zi9 (2*u) x) ?_
 exact cr
def zco(x:Int):Nat:=if x.tmod 2=1 then 1 else 2
def za2(x:Int)(n:Node):Bool:=n.right&&(decide (n.kind.toNat≠zco x)&&n.par.late.all λu=>zal (2*u) x)
theorem z3a(l:List Int)(q:Int->Bool):(!l.any λu=> !q u)=l.all q:=by
 induction l with
 |nil=>rfl
 |cons x r ih=>simp[List.any_cons,List.all_cons,Bool.not_or,ih]
theorem Node.right_late{n:Node}(h:n.right=true): ∀u∈n.par.late,za6 u:=by
 unfold Node.right at h
 split at h
 ·simp only[Bool.and_eq_true]at h
  have:=h.2
  simp only[Par.none,decide_eq_true_eq,List.length_eq_zero_iff]at this
  rw[this.2.2];simp
 ·split at h
  ·simp only[Bool.and_eq_true]at h
   have:=h.2
   simp only[Par.none,decide_eq_true_eq,List.length_eq_zero_iff]at this
   rw[this.2.2];simp
  ·split at h
   ·simp only[Bool.and_eq_true]at h
    exactλu hu=>Par.right_bd h.2 u hu
   ·cases h
theorem zz2(x:Int)(n:Node)(hn:n.fit):zaf Tryz.prog 56 [I x, .ag n.c] (.r (.b (za2 x n))):=by
 refine zac (T:=Tab) mixed Tab_ok Tryz.func56 rfl (by kernel_rfl) ?_
 refine za rfl rfl ?_
 refine ze (zop n hn) ?_
 have clo:=λ(u:Int) (hu:za6 u)=>zegb u x hu
 cases hr:n.right with
 |false=>
  refine⟨by decide,_,rfl,?_⟩
  refine zh (λh=>zq ?_) (λh=>zt ?_)
  ·refine zw rfl ?_
   exact zf (congrArg RV.b (by simp[za2,hr]))
  ·refine zw rfl ?_
   exact zf (congrArg RV.b (by simp[za2,hr]))
 |true=>
  have hlate:=Node.right_late hr
  have hll:n.par.late.length<=1000000000:=by have:=hn.2.2.2.1;omega
  have fin: ∀{β:Bool},β=n.par.late.any (λu=> !zal (2*u) x)->n.kind.toNat≠zco x->(!β)=za2 x n:=λhb hk=>by
   subst hb
   rw[z3a]
   simp[za2,hr,hk]
  refine⟨by decide,_,rfl,?_⟩
  refine zh (λh=>zq ?_) (λh=>zt ?_)
  ·simp only[zb]at h
   refine zu rfl ?_
   refine zh (λh2=>?_) (λh2=>?_)
   ·simp only[zb]at h2
    refine Vstep.sub (ze4 (t:=2) [I x] rfl rfl) (Vstep.mkfun I za6 _ rfl rfl clo ?_)
    refine ze (zc3 n.par.late za6 _ hll hlate) ?_
    exact Vcmp.mk' rfl (zf (congrArg RV.b (fin rfl (by simp[zco,h];omega))))
   ·simp only[zb]at h2
    refine zf (congrArg RV.b ?_)
    have:n.kind.toNat=zco x:=by simp[zco,h];omega
    simp[za2,this]
  ·simp only[zb]at h
   refine zu rfl ?_
   refine zh (λh2=>?_) (λh2=>?_)
   ·simp only[zb]at h2
    refine Vstep.sub (ze4 (t:=2) [I x] rfl rfl) (Vstep.mkfun I za6 _ rfl rfl clo ?_)
    refine ze (zc3 n.par.late za6 _ hll hlate) ?_
    exact Vcmp.mk' rfl (zf (congrArg RV.b (fin rfl (by simp[zco,h];omega))))
   ·simp only[zb]at h2
    refine zf (congrArg RV.b ?_)
    have:n.kind.toNat=zco x:=by simp[zco,h];omega
    simp[za2,this]
end
section
theorem z97:(Tryz.prog.info? 60).bind (·.zero)=some (.agg #[.int .u8 0, .slice none 0 0, .slice none 0 0, .slice none 0 0, .int .u8 0, .slice none 0 0, .slice none 0 0, .slice none 0 0, .slice none 0 0, .slice none 0 0]):=by kernel_rfl
theorem z3j:(Tryz.prog.info? 28).bind (·.zero)=some (.slice none 0 0):=by kernel_rfl
theorem zcwb(w:World)(k:Kp):(RV.ag zc).at_ w k (.agg #[.int .u8 0, .slice none 0 0, .slice none 0 0, .slice none 0 0, .int .u8 0, .slice none 0 0, .slice none 0 0, .slice none 0 0, .slice none 0 0, .slice none 0 0]):=by
 simp only[RV.at_]
 refine⟨_,rfl,?_⟩
 exact zko [.int .u8 0, .slice none 0 0, .slice none 0 0, .slice none 0 0, .int .u8 0, .slice none 0 0, .slice none 0 0, .slice none 0 0, .slice none 0 0, .slice none 0 0] (by simp[Value.oneCell'])
def zcc(l:List Stub)(x:Int):Option (List UInt8):=(l.find? λs=>decide (s.at_=x)).map (·.hash)
theorem zg2: ∀(l:List Spot) (x:Int),zcw (za5 l) x=(zae l x).map λn=> .ag n.c
 |[],x=>rfl
 |s::l,x=>by
  have ih:=zg2 l x
  simp only[za5,zae,List.map_cons,zcw,List.find?_cons]at*
  by_cases h:s.at_=x
  ·simp[h]
  ·simp[h,ih]
theorem zgs: ∀(l:List Stub) (x:Int),zcw (zba l) x=(zcc l x).map bs
 |[],x=>rfl
 |s::l,x=>by
  have ih:=zgs l x
  simp only[zba,zcc,List.map_cons,zcw,List.find?_cons]at*
  by_cases h:s.at_=x
  ·simp[h]
  ·simp[h,ih]
section
variable {S:St} {o:Oper}
theorem Vstep.node2{x y:Operand}{n:Int}{l:List Spot}{K:St->Prop}(hop:o.op= .lookup 88 x y true)(hx:opr S x=some (.r (.s (mapS (za5 l)))))(hy:opr S y=some (.r (.i .i64 n)))
  (h1: ∀m,zae l n=some m->newK S o.dst (.r (.tu [.ag m.c, .b true])) none K) (h0:zae l n=none->newK S o.dst (.r (.tu [.ag zc, .b false])) none K):Vstep Tryz.prog S o K:=by
 refine Vstep.look2 (.ag zc) hop hx hy zk4 zg1 z97 zcwb (λr hr=>?_) (λhr=>?_)
 ·rw[zg2,Option.map_eq_some_iff]at hr
  obtain⟨m,hm,rfl⟩:=hr
  exact h1 m hm
 ·rw[zg2,Option.map_eq_none_iff]at hr
  exact h0 hr
theorem Vstep.node1{x y:Operand}{n:Int}{l:List Spot}{K:St->Prop}(hop:o.op= .lookup 88 x y false)(hx:opr S x=some (.r (.s (mapS (za5 l)))))(hy:opr S y=some (.r (.i .i64 n)))
  (h1: ∀m,zae l n=some m->newK S o.dst (.r (.ag m.c)) none K) (h0:zae l n=none->newK S o.dst (.r (.ag zc)) none K):Vstep Tryz.prog S o K:=by
 refine Vstep.look1 (.ag zc) hop hx hy zk4 zg1 z97 zcwb (λr hr=>?_) (λhr=>?_)
 ·rw[zg2,Option.map_eq_some_iff]at hr
  obtain⟨m,hm,rfl⟩:=hr
  exact h1 m hm
 ·rw[zg2,Option.map_eq_none_iff]at hr
  exact h0 hr
theorem Vstep.hash2{x y:Operand}{n:Int}{l:List Stub}{K:St->Prop}(hop:o.op= .lookup 89 x y true)(hx:opr S x=some (.r (.s (mapS (zba l)))))(hy:opr S y=some (.r (.i .i64 n)))
  (h1: ∀m,zcc l n=some m->newK S o.dst (.r (.tu [bs m, .b true])) none K) (h0:zcc l n=none->newK S o.dst (.r (.tu [.x (.slice none 0 0), .b false])) none K):Vstep Tryz.prog S o K:=by
 refine Vstep.look2 (.x (.slice none 0 0)) hop hx hy zgo zg1 z3j (λ_ _=>by simp[RV.at_]) (λr hr=>?_) (λhr=>?_)
 ·rw[zgs,Option.map_eq_some_iff]at hr
  obtain⟨m,hm,rfl⟩:=hr
  exact h1 m hm
 ·rw[zgs,Option.map_eq_none_iff]at hr
  exact h0 hr
theorem Vstep.hash1{x y:Operand}{n:Int}{l:List Stub}{K:St->Prop}(hop:o.op= .lookup 89 x y false)(hx:opr S x=some (.r (.s (mapS (zba l)))))(hy:opr S y=some (.r (.i .i64 n)))
  (h1: ∀m,zcc l n=some m->newK S o.dst (.r (bs m)) none K) (h0:zcc l n=none->newK S o.dst (.r (.x (.slice none 0 0))) none K):Vstep Tryz.prog S o K:=by
 refine Vstep.look1 (.x (.slice none 0 0)) hop hx hy zgo zg1 z3j (λ_ _=>by simp[RV.at_]) (λr hr=>?_) (λhr=>?_)
 ·rw[zgs,Option.map_eq_some_iff]at hr
  obtain⟨m,hm,rfl⟩:=hr
  exact h1 m hm
 ·rw[zgs,Option.map_eq_none_iff]at hr
  exact h0 hr
end
abbrev zbh:Int:= -1099511627776
def zfu(H:List Stub)(x:Int):Int:=match zcc H x with
 |some h=>if h.length=32 then 1 else zbh
 |none=>zbh
theorem z02(H:List Stub)(x:Int):zfu H x=1\/zfu H x=zbh:=by
 unfold zfu
 split
 ·split<;>simp
 ·simp
theorem zu8(s:Lean_)(x:Int):zaf Tryz.prog 58 [.ag (zce s),I x] (.r (I (zfu s.shut x))):=by
 refine zac (T:=Tab) mixed Tab_ok Tryz.func58 rfl (by kernel_rfl) ?_
 refine Vstep.hash2 rfl rfl rfl (λm hm=>?_) (λhm=>?_)
 ·refine zh (λh=>zq ?_) (λh=>zt ?_)
  ·simp only[zb]at h
   exact zf (by simp only[zfu,hm];rw[if_pos (by omega)];rfl)
  ·simp only[zb]at h
   exact zf (by simp only[zfu,hm];rw[if_neg (by omega)];rfl)
 ·refine zt ?_
  exact zf (by simp[zfu,hm,ofC])
def kidP(H:List Stub)(p:Nat->Bool->List Int->Int)(h:Nat)(all:Bool)(late:List Int)(j:Nat):Int:=
 if all then p j true []else if late.any (λu=>zal (2*u) (nd h j))then p j false late else zfu H (nd h j)
def zbp(O:List Spot)(H:List Stub):Nat->Nat->Bool->List Int->Int
 |0,k,_,_=>match zae O (nd 0 k)with
  |none=>zbh
  |some n=>if za2 (nd 0 k) n then 1 else zbh
 |h+1,k,whole,late=>match zae O (nd (h+1) k)with
  |none=>zbh
  |some n=>if za2 (nd (h+1) k) n then
    max (1+kidP H (λj w l=>zbp O H h j w l) h (whole&&decide (n.kind.toNat=0)) (if whole then n.par.late else late) (2*k)+kidP H (λj w l=>zbp O H h j w l) h (whole&&decide (n.kind.toNat=0)) (if whole then n.par.late else late) (2*k+1)) zbh
   else zbh
theorem znp{O:List Spot}{H:List Stub}{h:Nat}(ih: ∀k w l,zbh<=zbp O H h k w l/\zbp O H h k w l<=2^(h+1)-1)(all:Bool)(late:List Int)(j:Nat):
  zbh<=kidP H (λj w l=>zbp O H h j w l) h all late j/\kidP H (λj w l=>zbp O H h j w l) h all late j<=2^(h+1)-1:=by
 unfold kidP
 split
 ·exact ih _ _ _
 ·split
  ·exact ih _ _ _
  ·have hp:(1:Int)<=2^h:=by
    have:=zag h
    have e:(2:Int)^h=((2^h:Nat):Int):=by simp
    omega
   rw[Int.pow_succ]
   rcases z02 H (nd h j)with e |e<;>rw[e]<;>simp only[zbh]<;>omega
theorem ziy(O:List Spot)(H:List Stub): ∀(h k:Nat) (w:Bool) (l:List Int),zbh<=zbp O H h k w l/\zbp O H h k w l<=2^(h+1)-1
 |0,k,w,l=>by
  unfold zbp
  split
  ·simp[zbh]
  ·split<;>simp[zbh]
 |h+1,k,w,l=>by
  have hp:(1:Int)<=2^h:=by
   have:=zag h
   have e:(2:Int)^h=((2^h:Nat):Int):=by simp
   omega
  have e1:(2:Int)^(h+1+1)=4*2^h:=by rw[Int.pow_succ,Int.pow_succ];omega
  have e2:(2:Int)^(h+1)=2*2^h:=by rw[Int.pow_succ];omega
  unfold zbp
  split
  ·simp only[zbh];omega
  ·rename_i n _
   split
   ·have k1:=znp (ziy O H h) (w&&decide (n.kind.toNat=0)) (if w then n.par.late else l) (2*k)
    have k2:=znp (ziy O H h) (w&&decide (n.kind.toNat=0)) (if w then n.par.late else l) (2*k+1)
    generalize kidP H _ h _ _ (2*k)=a at*
    generalize kidP H _ h _ _ (2*k+1)=b at*
    simp only[zbh]at*
    omega
   ·simp only[zbh];omega
theorem zck(k:Nat):(nd 0 k:Int).tmod 2=0:=by rw[zd1,Int.tmod_eq_emod_of_nonneg (by omega)];omega
theorem zc5(h k:Nat):(nd (h+1) k:Int).tmod 2=1:=by rw[zesb,Int.tmod_eq_emod_of_nonneg (by omega)];omega
def Lean_.fitN(s:Lean_):Prop:=s.opn.length<=1000000/\s.shut.length<=1000000/\(∀x∈s.opn,x.node.fit)/\(∀x∈s.shut,x.hash.length<=1000000000)
theorem za7{l:List Spot}{x:Int}{n:Node}(h:zae l x=some n): ∃s∈l,s.at_=x/\s.node=n:=by
 simp only[zae,Option.map_eq_some_iff]at h
 obtain⟨s,hs,rfl⟩:=h
 exact⟨s,List.mem_of_find?_eq_some hs,by simpa using List.find?_some hs,rfl⟩
theorem maxI(a b:Int):(if a<b then b else a)=max a b:=by omega
theorem z2d(s:Lean_)(hs:s.fitN)(k:Nat)(hk:k<65536)(whole:Bool)(late:List Int):
  zaf Tryz.prog 59 [.ag (zce s),I (nd 0 k), .b whole,is late] (.r (I (zbp s.opn s.shut 0 k whole late))):=by
 refine zac (T:=Tab) mixed Tab_ok Tryz.func59 rfl (by kernel_rfl) ?_
 refine Vstep.node2 rfl rfl rfl (λn hn=>?_) (λhn=>?_)
 ·obtain⟨sp,hsp,_,rfl⟩:=za7 hn
  refine zw rfl ?_
  refine za rfl rfl ?_
  refine Vcall.bool (zz2 _ _ (hs.2.2.1 sp hsp)) (λh=>zw rfl (zt ?_)) (λh=>zu rfl (zq ?_))
  ·refine⟨by decide,_,rfl,?_⟩
   refine zu (by rw[zck];rfl) (zq ?_)
   exact zf (by simp[zbp,hn,h,ofC])
  ·exact zf (by simp[zbp,hn,h,ofC])
 ·refine zu rfl (zq ?_)
  exact zf (by simp[zbp,hn,ofC])
end
end Go.Proofs.YtpdllgbfemnemaaGreat.Sx
