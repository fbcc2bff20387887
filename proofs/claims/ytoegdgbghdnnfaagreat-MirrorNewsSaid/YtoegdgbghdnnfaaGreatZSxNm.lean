import Derived.Test.YtoegdgbghdnnfaaGreatZKc
import Derived.Test.YtoegdgbghdnnfaaGreatZSxZ
import Derived.Lib.AppendStr
import Derived.Test.YtoegdgbghdnnfaaGreatZOnes
namespace Go.Proofs.YtoegdgbghdnnfaaGreat.Sx
open Go.RowKit
theorem z94(p:Par)(hp:p.fit):bG 52 [.ag p.c] (.r (.b p.right)):=by
 refine bT Tryz.func52 rfl ?_
 obtain⟨hp1,hp2,hp3,hp4⟩:=hp
 refine Vloop.mk' (λi:Nat×Int=>{F:=[(1, .own 0),(3, .r (I i.1))],O:=[(0,some (.box (p.c.map .r)))],nx:=1})
  (λi=>i.1<=p.late.length/\zeg (-1) p.late=zeg i.2 (p.late.drop i.1)/\ -1<=i.2/\(i.1=0->i.2= -1)/\∀h:0<i.1/\i.1-1<p.late.length,i.2=p.late[i.1-1]) (λi=>p.late.length-i.1) (0, -1) ⟨by simp,by simp,by simp,by simp,by simp⟩ (zac [(0,0)] rfl ⟨rfl,cr,trivial⟩ ⟨zae _,trivial⟩) ?_
 rintro⟨j,last⟩ ⟨hj,hlate,hge,h0,hpos⟩
 simp only at hj hlate hge h0 hpos
 refine zh (λh=>zq ?_) (λh=>zt ?_)
 ·simp only[zb]at h
  have hj':j<p.late.length:=by omega
  have hx:=hp4 _ (List.getElem_mem hj')
  rw[List.drop_eq_getElem_cons hj']at hlate
  simp only[zeg]at hlate
  refine bV ?_
  refine zm (by omega) (by omega) (zaj rfl hj') (zg rfl ?_)
  have bad: ¬(last<p.late[j]/\p.late[j]<65536)->RV.b false=RV.b p.right:=λhh=>by simp[Par.right,hlate,hh]
  have good:last<p.late[j]/\p.late[j]<65536->∃i':Nat×Int,(i'.1<=p.late.length/\zeg (-1) p.late=zeg i'.2 (p.late.drop i'.1)/\ -1<=i'.2/\(i'.1=0->i'.2= -1)/\∀h:0<i'.1/\i'.1-1<p.late.length,i'.2=p.late[i'.1-1])/\i'.1=j+1:=λhh=>by
   rw[decide_eq_true hh,Bool.true_and]at hlate
   exact⟨(j+1,p.late[j]),⟨by simp only;omega,hlate,by simp only;omega,by simp,λ_=>rfl⟩,rfl⟩
  refine zh (λh1=>zq (zf (bad ?_))) (λh1=>?_)
  ·simp only[zb]at h1;omega
  ·simp only[zb]at h1
   refine zm (by omega) (by omega) (zaj rfl hj') (zg rfl ?_)
   refine zh (λh2=>zq (zf (bad ?_))) (λh2=>?_)
   ·simp only[zb]at h2;omega
   ·simp only[zb]at h2
    refine zh (λh3=>?_) (λh3=>?_)
    ·simp only[zb]at h3
     have hj0:0<j:=by omega
     have hlast:=hpos ⟨hj0,by omega⟩
     refine zd (m:=((j-1:Nat):Int)) (by omega) (by omega) ?_
     refine zm (by omega) (by omega) (zaj rfl (show j-1<p.late.length by omega)) (zg rfl ?_)
     refine zm (by omega) (by omega) (zaj rfl hj') (zg rfl ?_)
     refine zh (λh4=>zq (zf (bad ?_))) (λh4=>zt ?_)
     ·simp only[zb]at h4;omega
     ·simp only[zb]at h4
      refine zd (m:=((j+1:Nat):Int)) (by omega) (by omega) ?_
      obtain⟨i',hi,he⟩:=good (by omega)
      exact⟨i',hi,by omega,he▸zac [(0,0)] rfl ⟨rfl,cr,trivial⟩ ⟨zae _,trivial⟩⟩
    ·simp only[zb]at h3
     refine zt ?_
     refine zd (m:=((j+1:Nat):Int)) (by omega) (by omega) ?_
     obtain⟨i',hi,he⟩:=good (by have:=h0 (by omega);omega)
     exact⟨i',hi,by omega,he▸zac [(0,0)] rfl ⟨rfl,cr,trivial⟩ ⟨zae _,trivial⟩⟩
 ·simp only[zb]at h
  have:p.late.drop j=[]:=List.drop_eq_nil_of_le (by omega)
  rw[this]at hlate
  simp only[zeg]at hlate
  (repeat' (first|refine zh (λh=>?_) (λh=>?_)|refine zf ?_|refine zq ?_|refine zt ?_))
  all_goals refine congrArg RV.b (Eq.symm ?_)
  all_goals simp only[Par.right,hlate,Bool.true_and,zb]at*
  all_goals omega
theorem z54(l:Leaf)(hl:l.fit):bG 151 [.ag l.c] (bch (zbz l)):=by
 refine bT Tryz.func151 rfl ?_
 obtain⟨l1,l2,l3,l4,l5⟩:=hl
 have w1:=zal l.box
 have w2:=zal l.sign
 have w3:=zal l.ident
 have w4:=zal l.parent
 refine bV ?_
 refine ze (zdm l.box (by omega)) ?_
 refine ze (zdm l.sign (by omega)) ?_
 refine ze (zcz (vecB l.box) (vecB l.sign) (by omega) (by omega)) ?_
 refine ze (zdm l.ident (by omega)) ?_
 refine zy ?_
 refine ze (zcz (vecB l.ident) [l.src] (by omega) (by simp)) ?_
 refine ze (zcz (vecB l.box++vecB l.sign) (vecB l.ident++[l.src]) (by simp;omega) (by simp;omega)) ?_
 refine zh (λh=>zq ?_) (λh=>zt ?_)
 ·simp only[zb]at h
  have h':l.src.toNat=3:=by omega
  refine ze (zdm l.parent (by omega)) ?_
  refine ze (zcz (vecB l.box++vecB l.sign++(vecB l.ident++[l.src])) (vecB l.parent) (by simp;omega) (by omega)) ?_
  exact zez (by simp[zbz,h'])
 ·simp only[zb]at h
  have h':l.src.toNat≠3:=by omega
  exact zez (by simp[zbz,h'])
theorem zm5(l:Leaf)(hl:l.fit):(zbz l).length<=5000000000:=by
 obtain⟨l1,l2,l3,l4,l5⟩:=hl
 have w1:=zal l.box
 have w2:=zal l.sign
 have w3:=zal l.ident
 have w4:=zal l.parent
 simp only[zbz,bL,List.length_cons,List.length_nil]
 split<;>simp<;>omega
theorem zwb(l:Leaf)(hl:l.fit):bG 99 [.ag l.c] (bch (zbz l++vecB l.sig)):=by
 refine bT Tryz.func99 rfl ?_
 have w:=zal l.sig
 have w2:=zm5 l hl
 obtain⟨_,_,_,_,l5⟩:=id hl
 refine bV ?_
 refine za rfl rfl ?_
 refine ze (z54 l hl) ?_
 refine ze (zdm l.sig (by omega)) ?_
 refine ze (zcz (zbz l) (vecB l.sig) (by omega) (by omega)) ?_
 rfl
def zf3b(n:Node):Nat->St
 |0=>{F:=[(1, .own 0),(3, .r (bs [])),(4, .r (I ((0:Nat):Int)))],O:=[(0,some (.box (n.c.map .r)))],nx:=1}
 |j+1=>{F:=[(1, .own 0),(3, .own 1),(4, .r (I ((j+1:Nat):Int)))],O:=[(0,some (.box (n.c.map .r))),(1,some (.ch 5 1 (zcl (n.par.late.take (j+1))).length ((zcl (n.par.late.take (j+1))).map U8) true))],nx:=2}
theorem zse{l:List Int}{j:Nat}(hj:j<l.length):zcl (l.take j)++beB 4 (l[j].toNat)=zcl (l.take (j+1)):=by
 rw[List.take_add_one,List.getElem?_eq_getElem hj]
 simp only[zcl,Option.toList,List.flatMap_append,List.flatMap_cons,List.flatMap_nil,List.append_nil]
theorem zii(n:Node)(hn:n.fit)(hr:n.kind.toNat=2->∀x∈n.par.late,0<=x/\x<65536):bG 58 [.ag n.c] (bch (zak n)):=by
 refine bT Tryz.func58 rfl ?_
 have w2:=zm5 n.leaf hn.1
 have w3:=zal n.leaf.sig
 obtain⟨hl,h1,h2,h3,_⟩:=id hn
 obtain⟨_,_,_,_,l5⟩:=id hl
 refine zh (λh=>zq ?_) (λh=>zt ?_)
 ·simp only[zb]at h
  have h':n.kind.toNat=1:=by omega
  refine zy ?_
  refine za rfl rfl ?_
  refine ze (zwb n.leaf hl) ?_
  refine ze (zcz [1] (zbz n.leaf++vecB n.leaf.sig) (by simp) (by simp;omega)) ?_
  exact zez (by simp[zak,h'])
 ·simp only[zb]at h
  have h':n.kind.toNat≠1:=by omega
  refine zh (λhk=>zq ?_) (λhk=>zt ?_)
  ·simp only[zb]at hk
   have hk':n.kind.toNat=2:=by omega
   have hr':=hr hk'
   have hll:=zfx n.par.late
   have vd1:=zal n.par.box
   have vd2:=zal n.par.hash
   have hlen: ∀j,j<=n.par.late.length->(zcl (n.par.late.take j)).length=4*j:=λj hj=>by rw[zfx,List.length_take];omega
   refine Vloop.mk' (zf3b n) (λj=>j<=n.par.late.length) (λj=>n.par.late.length-j) 0 (by omega) (zac [(0,0)] rfl ⟨rfl,Cv.nil _,cr,trivial⟩ ⟨zae _,trivial⟩) ?_
   intro j hj
   rcases j with _ |j
   ·refine zh (λh=>zq ?_) (λh=>zt ?_)
    ·simp only[zb]at h
     have hj':0<n.par.late.length:=by omega
     refine zm (by omega) (by omega) (zaj rfl hj') (zg rfl ?_)
     refine⟨((n.par.late[0].toNat:Nat):Int),(zgt _ (hr' _ (List.getElem_mem hj'))).symm,?_⟩
     refine ze (zk3 4 n.par.late[0].toNat (by omega) (by have:=hr' _ (List.getElem_mem hj');omega)) ?_
     refine ze (zcz [] (beB 4 n.par.late[0].toNat) (by simp) (by rw[zao];omega)) ?_
     refine zd (m:=((0+1:Nat):Int)) (by omega) (by omega) ?_
     exact⟨0+1,hj',by omega,zac [(0,0),(1,2)] rfl ⟨rfl,rfl,cr,trivial⟩ ⟨zae _,cvCh (zse hj'),trivial⟩⟩
    ·simp only[zb]at h
     have e:n.par.late=[]:=List.eq_nil_of_length_eq_zero (by omega)
     refine bV ?_
     refine zy ?_
     refine ze (zdm n.par.box (by omega)) ?_
     refine ze (zcz [2] (vecB n.par.box) (by simp) (by omega)) ?_
     refine ze (zdm n.par.hash (by omega)) ?_
     refine ze (zdm [] (by simp)) ?_
     refine ze (zcz (vecB n.par.hash) (vecB []) (by omega) (by simp[zrc];have:=zjz 0;omega)) ?_
     refine ze (zcz ([2]++vecB n.par.box) (vecB n.par.hash++vecB []) (by simp;omega) (by have:=zjz 0;simp[zrc]at*;omega)) ?_
     exact zez (by simp[zak,hk',parB,e,zcl])
   ·refine zh (λh=>zq ?_) (λh=>zt ?_)
    ·simp only[zb]at h
     have hj':j+1<n.par.late.length:=by omega
     refine zm (by omega) (by omega) (zaj rfl hj') (zg rfl ?_)
     refine⟨((n.par.late[j+1].toNat:Nat):Int),(zgt _ (hr' _ (List.getElem_mem hj'))).symm,?_⟩
     refine ze (zk3 4 n.par.late[j+1].toNat (by omega) (by have:=hr' _ (List.getElem_mem hj');omega)) ?_
     refine ze (zcz (zcl (n.par.late.take (j+1))) (beB 4 n.par.late[j+1].toNat) (by rw[hlen _ hj];omega) (by rw[zao];omega)) ?_
     refine zd (m:=((j+1+1:Nat):Int)) (by omega) (by omega) ?_
     exact⟨j+1+1,hj',by omega,zac [(0,0),(1,3)] rfl ⟨rfl,rfl,cr,trivial⟩ ⟨zae _,cvCh (zse hj'),trivial⟩⟩
    ·simp only[zb]at h
     have e:n.par.late.take (j+1)=n.par.late:=List.take_of_length_le (by omega)
     have w4:=zal (zcl (n.par.late.take (j+1)))
     have w5:=hlen _ hj
     refine bV ?_
     refine zy ?_
     refine ze (zdm n.par.box (by omega)) ?_
     refine ze (zcz [2] (vecB n.par.box) (by simp) (by omega)) ?_
     refine ze (zdm n.par.hash (by omega)) ?_
     refine ze (zdm (zcl (n.par.late.take (j+1))) (by omega)) ?_
     refine ze (zcz (vecB n.par.hash) (vecB (zcl (n.par.late.take (j+1)))) (by omega) (by omega)) ?_
     refine ze (zcz ([2]++vecB n.par.box) (vecB n.par.hash++vecB (zcl (n.par.late.take (j+1)))) (by simp;omega) (by simp;omega)) ?_
     exact zez (by simp[zak,hk',parB,e])
  ·simp only[zb]at hk
   have hk':n.kind.toNat≠2:=by omega
   refine zy ?_
   exact zez (m:=zak n) (l:=[0]) (by simp[zak,h',hk'])
def zkc(i:Int)(n:Node):List UInt8:=1::(beB 4 i.toNat++zak n)
theorem zfh(n:Node)(hn:n.fit):(zak n).length<=10000000000:=by
 have w2:=zm5 n.leaf hn.1
 have w3:=zal n.leaf.sig
 obtain⟨hl,h1,h2,h3,_⟩:=id hn
 obtain⟨_,_,_,_,l5⟩:=id hl
 have hll:=zfx n.par.late
 have vd1:=zal n.par.box
 have vd2:=zal n.par.hash
 have w4:=zal (zcl n.par.late)
 unfold zak parB
 split
 ·simp;omega
 ·split
  ·simp;omega
  ·simp
theorem z3g(i:Int)(n:Node)(hn:n.fit):bG 149 [I i, .ag n.c] (.r (if i<0\/65536<=i then .tu [bs [], .i .u8 1]else if n.right=false\/n.kind.toNat=2 then .tu [bs [], .i .u8 3]else .tu [bs (zkc i n), .i .u8 0])):=by
 refine bT Tryz.func149 rfl ?_
 have hnl:=zfh n hn
 have nil1: ∀(c:Int),Cv (.tu [ofC (.slice none 0 0), .i .u8 c]) (.tu [bs [], .i .u8 c]):=λc=>Cv.tu (zk (Cv.nil 1) (zn _))
 refine zh (λh1=>zq ?_) (λh1=>?_)
 ·simp only[zb]at h1
  refine⟨_,rfl,?_⟩
  rw[if_pos (.inl h1)]
  exact nil1 1
 ·refine zh (λh2=>zq ?_) (λh2=>zt ?_)
  ·simp only[zb]at h1 h2
   refine⟨_,rfl,?_⟩
   rw[if_pos (.inr (by omega))]
   exact nil1 1
  ·simp only[zb]at h1 h2
   rw[if_neg (show¬(i<0\/65536<=i)by omega)]
   refine za rfl rfl ?_
   refine ze (zfc n hn) ?_
   cases hr:n.right with
   |false=>
    refine zu rfl (zq ?_)
    refine⟨_,rfl,?_⟩
    rw[if_pos (.inl rfl)]
    exact nil1 3
   |true=>
    refine zw rfl ?_
    refine zh (λh3=>zq ?_) (λh3=>zt ?_)
    ·simp only[zb]at h3
     refine⟨_,rfl,?_⟩
     rw[if_pos (.inr (by omega))]
     exact nil1 3
    ·simp only[zb]at h3
     refine zy ?_
     refine⟨((i.toNat:Nat):Int),(zgt _ (by omega)).symm,?_⟩
     refine ze (zeu [1] 4 i.toNat (by simp) (by omega)) ?_
     refine Vapp.mk' (j:=([1]++beB 4 i.toNat++zak n).length) (zs:=([1]++beB 4 i.toNat++zak n).map U8) (by simp[maxLen,zao];omega) (by simp[zao];omega) (by simp;omega) (by simp) ?_
     refine⟨_,rfl,zf ?_⟩
     rw[if_neg (by simp;omega)]
     rfl
theorem zp1(n:Int): ∀(f:Nat) (x:Int),(zf4 n f x).length=(zdx n f x).length
 |0,x=>by simp[zf4,zdx]
 |f+1,x=>by
  simp only[zf4,zdx]
  split<;>simp[zp1 n f]
theorem zkm(x n:Int):(zb6 x n).length=(zc1 x n).length:=zp1 n 17 x
theorem zm2{l:List Int}{x:Int}{j:Nat}(hj:j<l.length)(h:x∉l.take j)(hx:l[j]≠x):x∉l.take (j+1):=by
 rw[List.take_add_one,List.getElem?_eq_getElem hj]
 simp only[Option.toList,List.mem_append,List.mem_cons,List.not_mem_nil,or_false]
 intro hh
 rcases hh with hh |hh
 ·exact h hh
 ·exact hx hh.symm
theorem zfo(l:List Int)(x:Int)(hl:l.length<=10000000000000):bG 106 [is l,I x] (.r (.b (decide (x∈l)))):=by
 refine bT Tryz.func106 rfl ?_
 refine Vloop.mk' (λj:Nat=>{F:=[(0, .r (is l)),(1, .r (I x)),(5, .r (I j))],O:=[],nx:=0}) (λj=>j<=l.length/\x∉l.take j) (λj=>l.length-j) 0 ⟨by omega,by simp⟩ (zac [] rfl ⟨cr,cr,cr,trivial⟩ trivial) ?_
 rintro j ⟨hj,hn⟩
 refine zh (λh=>zq ?_) (λh=>zt ?_)
 ·simp only[zb]at h
  have hj':j<l.length:=by omega
  refine zm (by omega) (by omega) (zaj rfl hj') (zg rfl ?_)
  refine zh (λh2=>zq ?_) (λh2=>zt ?_)
  ·simp only[zb]at h2
   exact zf (by simp[ofC,<-h2])
  ·simp only[zb]at h2
   refine zd (m:=((j+1:Nat):Int)) (by omega) (by omega) ?_
   exact⟨j+1,⟨hj',zm2 hj' hn h2⟩,by omega,zac [] rfl ⟨cr,cr,cr,trivial⟩ trivial⟩
 ·simp only[zb]at h
  rw[List.take_of_length_le (by omega)]at hn
  exact zf (by simp[ofC,hn])
def Node.zero:Node:=⟨0,⟨[],[],[],0,[],[]⟩,⟨[],[],[]⟩⟩
def zc:List RV:=[.i .u8 0, .x (.slice none 0 0), .x (.slice none 0 0), .x (.slice none 0 0), .i .u8 0, .x (.slice none 0 0), .x (.slice none 0 0), .x (.slice none 0 0), .x (.slice none 0 0), .x (.slice none 0 0)]
theorem Cv.ag{l m:List RV}(h:Cvs l m):Cv (.ag l) (.ag m):=λw k v hv=>by
 simp only[RV.at_]at*
 obtain⟨us,e,hp⟩:=hv
 exact⟨us,e,h.list hp⟩
theorem zpw:Cv (.ag zc) (.ag Node.zero.c):=Cv.ag (zk (cr) (zk (Cv.nil 1) (zk (Cv.nil 1) (zk (Cv.nil 1) (zk (cr) (zk (Cv.nil 1) (zk (Cv.nil 1) (zk (Cv.nil 1) (zk (Cv.nil 1) (zk (Cv.nil 1) Cvs.nil))))))))))
def zaf(l:List Spot)(x:Int):Option Node:=(l.find? λs=>decide (s.at_=x)).map (·.node)
def zixb:Option Node->RV
 |some n=> .tu [.ag n.c, .b true]
 |none=> .tu [.ag Node.zero.c, .b false]
theorem z5z{l:List Spot}{x:Int}(h: ∀s∈l,s.at_≠x):zaf l x=none:=by
 simp only[zaf,Option.map_eq_none_iff,List.find?_eq_none,decide_eq_true_eq]
 exact h
theorem zdeb{l:List Spot}{x:Int}{j:Nat}(hj:j<l.length)(h: ∀s∈l.take j,s.at_≠x)(hx:l[j].at_=x):zaf l x=some l[j].node:=by
 obtain⟨y,hy⟩: ∃y,y=l[j]:=⟨_,rfl⟩
 rw[<-hy]at hx⊢
 have:l=l.take j++y::l.drop (j+1):=by rw[hy,<-List.drop_eq_getElem_cons hj,List.take_append_drop]
 simp only[zaf]
 rw[this,List.find?_append]
 have h1:(l.take j).find? (λs=>decide (s.at_=x))=none:=by simp only[List.find?_eq_none,decide_eq_true_eq];exact h
 rw[h1]
 simp[hx]
theorem zx5{l:List Spot}{i:Int}{j:Nat}(h:i=j)(hj:j<l.length):((l.flatMap Spot.c).drop (i.toNat*11)).take 11=l[j].c:=zhp (f:=Spot.c) (sz:=11) (λ_=>rfl) h hj
theorem zx6{l:List Stub}{i:Int}{j:Nat}(h:i=j)(hj:j<l.length):((l.flatMap Stub.c).drop (i.toNat*2)).take 2=l[j].c:=zhp (f:=Stub.c) (sz:=2) (λ_=>rfl) h hj
theorem zge(l:List Spot)(x:Int)(hl:l.length<=1000000000):bG 101 [zcw l,I x] (.r (zixb (zaf l x))):=by
 refine bT Tryz.func101 rfl ?_
 refine Vloop.mk' (λj:Nat=>{F:=[(0, .r (zcw l)),(1, .r (I x)),(4, .own 0),(6, .r (I j))],O:=[(0,some (.box (zc.map .r)))],nx:=1}) (λj=>j<=l.length/\∀s∈l.take j,s.at_≠x) (λj=>l.length-j) 0 ⟨by omega,by simp⟩ (zac [(0,0)] rfl ⟨cr,cr,rfl,cr,trivial⟩ ⟨zae zc,trivial⟩) ?_
 rintro j ⟨hj,hn⟩
 refine zh (λh=>zq ?_) (λh=>zt ?_)
 ·simp only[zb]at h
  have hj':j<l.length:=by omega
  refine zm (by omega) (by omega) (zx5 rfl hj') (zg rfl ?_)
  refine zh (λh2=>zq ?_) (λh2=>zt ?_)
  ·simp only[zb]at h2
   refine zm (by omega) (by omega) (zx5 rfl hj') ?_
   refine za rfl rfl ?_
   refine za rfl rfl ?_
   refine⟨_,rfl,zf ?_⟩
   rw[zdeb hj' hn h2]
   rfl
  ·simp only[zb]at h2
   refine zd (m:=((j+1:Nat):Int)) (by omega) (by omega) ?_
   refine⟨j+1,⟨hj',?_⟩,by omega,zac [(0,0)] rfl ⟨cr,cr,rfl,cr,trivial⟩ ⟨zae zc,trivial⟩⟩
   rw[List.take_add_one,List.getElem?_eq_getElem hj']
   simp only[Option.toList,List.mem_append,List.mem_cons,List.not_mem_nil,or_false]
   rintro s (hs |rfl)
   ·exact hn s hs
   ·exact h2
 ·simp only[zb]at h
  rw[List.take_of_length_le (by omega)]at hn
  refine za rfl rfl ?_
  refine⟨_,rfl,?_⟩
  rw[z5z hn]
  exact Cv.tu (zk zpw (zn _))
def zhv(n:Node)(l r:List UInt8):List UInt8:=2::(zak n++vecB l++vecB r)
theorem z6h(n:Node)(l r:List UInt8)(hn:n.fit):bG 150 [.ag n.c,bs l,bs r] (.r (if n.right=false\/n.kind.toNat=1 then .tu [bs [], .i .u8 3]else if l.length≠32\/r.length≠32 then .tu [bs [], .i .u8 1]else .tu [bs (zhv n l r), .i .u8 0])):=by
 refine bT Tryz.func150 rfl ?_
 have hnl:=zfh n hn
 have nil1: ∀(c:Int),Cv (.tu [ofC (.slice none 0 0), .i .u8 c]) (.tu [bs [], .i .u8 c]):=λc=>Cv.tu (zk (Cv.nil 1) (zn _))
 refine za rfl rfl ?_
 refine ze (zfc n hn) ?_
 cases hr:n.right with
 |false=>
  refine zu rfl (zq ?_)
  refine⟨_,rfl,?_⟩
  rw[if_pos (.inl rfl)]
  exact nil1 3
 |true=>
  refine zw rfl ?_
  refine zh (λh3=>zq ?_) (λh3=>zt ?_)
  ·simp only[zb]at h3
   refine⟨_,rfl,?_⟩
   rw[if_pos (.inr (show n.kind.toNat=1 by omega))]
   exact nil1 3
  ·simp only[zb]at h3
   rw[if_neg (show¬(true=false\/n.kind.toNat=1)by simp;omega)]
   refine zh (λh4=>zq ?_) (λh4=>?_)
   ·simp only[zb]at h4
    refine⟨_,rfl,?_⟩
    rw[if_pos (.inl (show l.length≠32 by omega))]
    exact nil1 1
   ·refine zh (λh5=>zq ?_) (λh5=>zt ?_)
    ·simp only[zb]at h5
     refine⟨_,rfl,?_⟩
     rw[if_pos (.inr (show r.length≠32 by omega))]
     exact nil1 1
    ·simp only[zb]at h4 h5
     refine zy ?_
     refine Vapp.mk' (j:=([2]++zak n).length) (zs:=([2]++zak n).map U8) (by simp[maxLen];omega) (by simp;omega) (by simp;omega) (by simp[zbl,cellsOf];rfl) ?_
     have vl:=zal l
     refine ze (zbv ([2]++zak n) l (by simp;omega) (by omega)) ?_
     refine ze (zbv ([2]++zak n++vecB l) r (by simp;omega) (by omega)) ?_
     refine⟨_,rfl,zf ?_⟩
     rw[if_neg (show¬(l.length≠32\/r.length≠32)by omega)]
     have:[2]++zak n++vecB l++vecB r=zhv n l r:=by simp[zhv]
     rw[this]
     rfl
def ins(x:Int):List Int->List Int
 |[]=>[x]
 |y::r=>if x<y then x::y::r else if x=y then y::r else y::ins x r
def rise(l:List Int):List Int:=l.foldr ins []
theorem zt2{x z:Int}: ∀{l:List Int},z∈ins x l↔z=x\/z∈l
 |[]=>by simp[ins]
 |y::r=>by
  simp only[ins]
  split
  ·simp
  ·split
   ·rename_i h;subst h;simp
   ·simp[zt2 (l:=r)]
    constructor
    ·rintro(h |h |h)<;>simp[h]
    ·rintro(h |h |h)<;>simp[h]
theorem zx8{x:Int}: ∀{l:List Int},l.Pairwise (· < ·)->(ins x l).Pairwise (· < ·)
 |[],_=>by simp[ins]
 |y::r,h=>by
  simp only[ins]
  rw[List.pairwise_cons]at h
  split
  ·rename_i hxy
   refine List.pairwise_cons.2 ⟨λz hz=>?_,List.pairwise_cons.2 h⟩
   rcases List.mem_cons.1 hz with rfl |hz
   ·exact hxy
   ·exact Int.lt_trans hxy (h.1 z hz)
  ·split
   ·exact List.pairwise_cons.2 h
   ·refine List.pairwise_cons.2 ⟨λz hz=>?_,zx8 h.2⟩
    rcases zt2.1 hz with rfl |hz
    ·omega
    ·exact h.1 z hz
theorem zmc{x:Int}: ∀{l:List Int},x∈rise l↔x∈l
 |[]=>by simp[rise]
 |y::r=>by
  have:=zmc (x:=x) (l:=r)
  simp only[rise,List.foldr_cons]at*
  rw[zt2,this];simp
theorem zpk: ∀l:List Int,(rise l).Pairwise (· < ·)
 |[]=>by simp[rise]
 |y::r=>zx8 (zpk r)
theorem zj2: ∀{l m:List Int},l.Pairwise (· < ·)->m.Pairwise (· < ·)->(∀x,x∈l↔x∈m)->l=m
 |[],[],_,_,_=>rfl
 |[],y::m,_,_,h=>by have:=(h y).2 (by simp);cases this
 |x::l,[],_,_,h=>by have:=(h x).1 (by simp);cases this
 |x::l,y::m,hl,hm,h=>by
  rw[List.pairwise_cons]at hl hm
  have hxy:x=y:=by
   rcases List.mem_cons.1 ((h x).1 (by simp))with e |hx
   ·exact e
   ·rcases List.mem_cons.1 ((h y).2 (by simp))with e |hy
    ·exact e.symm
    ·have:=hm.1 x hx;have:=hl.1 y hy;omega
  subst hxy
  congr 1
  refine zj2 hl.2 hm.2 λz=>⟨λhz=>?_,λhz=>?_⟩
  ·rcases List.mem_cons.1 ((h z).1 (List.mem_cons_of_mem _ hz))with e |hz'
   ·have:=hl.1 z hz;omega
   ·exact hz'
  ·rcases List.mem_cons.1 ((h z).2 (List.mem_cons_of_mem _ hz))with e |hz'
   ·have:=hm.1 z hz;omega
   ·exact hz'
section
variable {P:Program} {T:TT} {B:Bs} {N:Nat} {S:St} {a:Act} {w:World} {k:Kp} {g:Env} {o:Oper} {Q:Exit->Act->World->Prop}
abbrev strR(s:ByteArray):List RV:=s.data.toList.map λc=> .i .u8 (c.toNat:Int)
theorem zfmb(w:World)(k:Kp)(s:ByteArray):RV.listAt w k (strR s) (Lib.strCells s):=by
 rw[RV.listAt_iff]
 refine⟨by simp[Lib.strCells],λj f u hf hu=>?_⟩
 rw[List.getElem?_map]at hf
 obtain⟨c,hc,rfl⟩:=Option.map_eq_some_iff.1 hf
 simp only[Lib.strCells,List.getElem?_map,hc,Option.map_some,Option.some.injEq]at hu
 subst hu
 exact⟨rfl,by simp[RV.at_]⟩
theorem zz3{t t' ty e:TypeId}{i:TypeInfo}{z:Value}(ht:P.underlying t=some (.slice e))(hu:P.underlying t'=some .string)(hi:P.info? e=some i)(hz:i.zero=some z)
  (hsize:i.size=1) (hby:i.bytes=1) (hzs:z.cells.size=1)
  {n:Nat} {cells:List RV} {pub:Bool} {u:Value} {ob:Option Nat} (hch:chAt w k e 1 n cells pub u ob) (s:ByteArray) (hm:0<s.size) (hbytes:n+s.size<=140737488355328):
  ∃xs b cap cur w',(Builtin.append_ #[t,t'] ty #[u, .string s]).run P w= .ok (.slice (some ⟨b,0,none⟩) (n+s.size) cap) w'/\RV.listAt w k cells xs/\
   w'.heap[b]?=some (.cells cur e (0,0))/\n+s.size<=cap/\cap<=maxLen/\cap*1<=cur.size/\cur.toList.take ((n+s.size)*1)=xs++Lib.strCells s/\w.grownBy w' ob/\(ob=some b\/b=w.heap.size)/\
   (∀b0,ob=some b0->(∃cur0,w.heap[b0]?=some (.cells cur0 e (0,0))/\cur0.toList.take (n*1)=xs)/\(b=b0\/b=w.heap.size/\w'.heap[b0]?=w.heap[b0]?)):=by
 obtain⟨hcl,hch⟩:=hch
 have hl:(Lib.strCells s).length=s.size:=Lib.strCells_length s
 have h63:n+s.size<=maxLen:=by simp only[maxLen];omega
 have fin: ∀(xs:List Value) (old:Nat),xs.length=n->
   (w.drew.alloc (.cells (xs.toArray++(Lib.strCells s).toArray++Builtin.zeroCells z.cells (grownCap w (n+s.size) old e-(n+s.size))) e)).heap[w.heap.size]?=some (.cells (xs.toArray++(Lib.strCells s).toArray++Builtin.zeroCells z.cells (grownCap w (n+s.size) old e-(n+s.size))) e (0,0))/\
   n+s.size<=grownCap w (n+s.size) old e/\grownCap w (n+s.size) old e<=maxLen/\(xs.toArray++(Lib.strCells s).toArray++Builtin.zeroCells z.cells (grownCap w (n+s.size) old e-(n+s.size))).size=grownCap w (n+s.size) old e*1/\
   (xs.toArray++(Lib.strCells s).toArray++Builtin.zeroCells z.cells (grownCap w (n+s.size) old e-(n+s.size))).toList.take ((n+s.size)*1)=xs++Lib.strCells s/\
   ∀row,w.grownBy (w.drew.alloc (.cells (xs.toArray++(Lib.strCells s).toArray++Builtin.zeroCells z.cells (grownCap w (n+s.size) old e-(n+s.size))) e)) row:=λxs old hx=>by
  have hge:=grownCap_ge w (n+s.size) old e
  refine⟨heap_alloc_new w.drew _,hge,grownCap_le_maxLen w (n+s.size) old e h63,?_,?_,λrow=>⟨rfl,rfl,rfl,by simp,λk hk _=>Below.heap_alloc w.drew _ k hk⟩⟩
  ·simp only[Array.size_append,List.size_toArray,size_zeroCells,hzs,hl,hx]
   omega
  ·simp only[Array.toList_append]
   rw[show(n+s.size)*1=(xs++Lib.strCells s).length by rw[bL,hl,hx,Nat.mul_one]]
   exact List.take_left
 rcases hch with⟨rfl,⟨rfl,p,rfl⟩ |⟨hn0,_,b,o,rfl,hnm,hbl,hcell⟩⟩ |⟨b,cap,cur,rfl,rfl,hh,hnc,hcm,hcs,hkb,hlist⟩
 ·have hc0:cells=[]:=List.eq_nil_of_length_eq_zero (by simpa using hcl)
  subst hc0
  cases p with
  |none=>
   have hr:=run_append_nil_string (P:=P) w t t' ty e i z ht hu hi hz s hm (by omega) (by rw[hby];omega)
   have e1:(s.data.map λb=>Value.int .u8 b.toNat)=(Lib.strCells s).toArray:=by
    apply Array.ext'
    simp[Lib.strCells]
   rw[e1]at hr
   obtain⟨f1,f2,f3,f4,f5,f6⟩:=fin [] 0 rfl
   simp only[Nat.zero_add,List.nil_append,Array.empty_append]at f1 f2 f3 f4 f5 f6⊢
   exact⟨[],w.heap.size,_,_,_,hr,by simp[RV.listAt],f1,f2,f3,Nat.le_of_eq f4.symm,f5,f6 _, .inr rfl,λb0 h=>by cases h⟩
  |some p=>
   have hr:=Lib.run_append_grow_string (P:=P) w t t' ty e i z ht hu hi hz p 0 0 [] (by simp) (by simp) s (by omega) (by omega) (growslice_fits (by omega) (by rw[hby];omega))
   obtain⟨f1,f2,f3,f4,f5,f6⟩:=fin [] 0 rfl
   exact⟨[],w.heap.size,_,_,_,hr,by simp[RV.listAt],f1,f2,f3,Nat.le_of_eq f4.symm,f5,f6 _, .inr rfl,λb0 h=>by cases h⟩
 ·obtain⟨xs,hlist,hxl,hcell⟩:=RV.cells_list cells o hcell
  have hr:=Lib.run_append_grow_string (P:=P) w t t' ty e i z ht hu hi hz ⟨b,o,none⟩ n n xs (by rw[hsize,hxl,hcl]) (λj v hj=>by rw[Addr.add_mid];exact hcell j v hj) s (by omega) (by omega) (growslice_fits (by omega) (by rw[hby];omega))
  obtain⟨f1,f2,f3,f4,f5,f6⟩:=fin xs n (by rw[hxl,hcl,Nat.mul_one])
  exact⟨xs,w.heap.size,_,_,_,hr,hlist,f1,f2,f3,Nat.le_of_eq f4.symm,f5,f6 _, .inr rfl,λb0 hb0=>by cases hb0⟩
 ·have hxl:(cur.toList.take (n*1)).length=n:=by rw[za7 hlist,hcl,Nat.mul_one]
  have hlt:b<w.heap.size:=(Array.getElem?_eq_some_iff.1 hh).1
  by_cases hfit:n+s.size<=cap
  ·have hr:=Lib.run_append_room_string (P:=P) w t t' ty e i ht hu hi hsize b n cap cur hh s hfit (by omega)
   refine⟨_,b,cap,_,_,hr,hlist,setRow_heap w b cur _ e (0,0) hh,hfit,hcm,?_,?_,⟨rfl,rfl,rfl,by simp[World.setRow],λx hx hne=>setRow_other w b x _ (λh=>hne (by rw[h]))⟩, .inl rfl,λb0 hb0=>?_⟩
   ·simp only[List.size_toArray,bL,List.length_take,hl,List.length_drop,Array.length_toList]
    omega
   ·rw[Nat.mul_one]at hxl⊢
    rw[Nat.mul_one]
    rw[show n+s.size=(cur.toList.take n++Lib.strCells s).length by rw[bL,hxl,hl],List.toList_toArray]
    exact List.take_left
   ·cases hb0
    exact⟨⟨cur,hh,rfl⟩, .inl rfl⟩
  ·have hr:=Lib.run_append_grow_string (P:=P) w t t' ty e i z ht hu hi hz ⟨b,0,none⟩ n cap (cur.toList.take (n*1)) (by rw[hsize,hxl,Nat.mul_one]) (λj v hj=>by
    rw[Addr.add_mid,Nat.zero_add,cell_of_row w b j cur e (0,0) hh]
    rw[List.getElem?_take]at hj
    split at hj
    ·simpa using hj
    ·cases hj) s (by omega) (by omega) (growslice_fits (by omega) (by rw[hby];omega))
   obtain⟨f1,f2,f3,f4,f5,f6⟩:=fin (cur.toList.take (n*1)) cap hxl
   refine⟨_,w.heap.size,_,_,_,hr,hlist,f1,f2,f3,Nat.le_of_eq f4.symm,f5,f6 _, .inr rfl,λb0 hb0=>?_⟩
   cases hb0
   exact⟨⟨cur,hh,rfl⟩, .inr ⟨rfl,Below.heap_alloc w.drew _ b hlt⟩⟩
theorem Vstep.appS{x y:Operand}{t t' e:TypeId}{ti te ts:TI}{f:TF}{id:Option Nat}{n:Nat}{cells:List RV}{pub:Bool}{s:ByteArray}{K:St->Prop}(hT:TOk P T)
  (hop:o.op= .call {callee:= .builtin .append,args:= #[x,y],argTypes:= #[t,t']}) (hti:tget T t=some ti) (hk:ti.k= .slice e) (hte:tget T e=some te) (hke:te.sz=1/\te.bytes=1) (hts:tget T t'=some ts) (hks:ts.k= .str)
  (hx:opr S x=some f) (hl:lhsv S e 1 f=some (id,e,1,n,cells,pub)) (hy:opr S y=some (.r (.x (.string s)))) (hlen:n+s.size<=140737488355328)
  (hK:newK (S.strike id) o.dst (.r .any) (some (.ch e 1 (n+s.size) (cells++strR s) pub)) K):Vstep P S o K:=by
 rw[za4]at hK
 refine Vstep.one (S':=(S.strike id).mk_ o.dst (.ch e 1 (n+s.size) (cells++strR s) pub)) ?_ hK
 rintro B N a w k Q ⟨g,hs⟩ hd
 obtain⟨q,hq⟩:=hT.get hti
 obtain⟨d,hdd,hko,_⟩:=q.desc
 rw[hq,hk]at*
 simp only[KOk]at hko
 subst hko
 obtain⟨qe,hqe⟩:=hT.get hte
 obtain⟨i,hi,hsz,hby,z,hz,hzc⟩:=qe.info
 rw[hqe]at hi
 obtain⟨qs,hqs⟩:=hT.get hts
 obtain⟨ds,hds,hkos,_⟩:=qs.desc
 rw[hqs,hks]at*
 simp only[KOk]at hkos
 subst hkos
 have hy':=(zah hs hy).2
 simp only[TF.at_,RV.at_]at hy'
 obtain⟨ob,hch,hid⟩:=zye hs hl (zah hs hx).2
 have run: ∀{v:Value} {w':World},(Builtin.append_ #[t,t'] o.type #[a.eval x, .string s]).run P w= .ok v w'->(execOp a.eval o).run P w= .ok (.value v) w':=λ{v w'} hr=>by
  simp[execOp,hop,resolve,invoke,builtin,hy',hr]
 rcases Nat.eq_zero_or_pos s.size with h0 |hm
 ·have hn:strR s=[]:=List.eq_nil_of_length_eq_zero (by rw[List.length_map,Array.length_toList];exact h0)
  have hform: ∃p c,a.eval x= .slice p n c/\n<=c:=by
   rcases hch.2 with⟨_,⟨rfl,p,e⟩ |⟨_,_,b,o',e,_⟩⟩ |⟨b,cap,cur,_,e,_,h1,_⟩
   ·exact⟨p,0,e,Nat.le_refl _⟩
   ·exact⟨_,n,e,Nat.le_refl _⟩
   ·exact⟨_,cap,e,h1⟩
  obtain⟨p,c,hu,hnc⟩:=hform
  rw[hu]at hch run
  have hw:Wrote w k w k ob:=⟨rfl,rfl,rfl,Nat.le_refl _,λ_ _ _=>⟨rfl,rfl⟩,λ_ _=>⟨Nat.le_refl _,λ_ _=>rfl,λ_ _ _ h=>h⟩⟩
  have h1:=hs.wrote hw hid
  have h2:Ow.at_ w k g (.slice p n c,ob) (.ch e 1 (n+s.size) (cells++strR s) pub):=by rw[hn,h0];simpa[Ow.at_]using hch
  have hobs: ∀b,ob=some b->(B.w.heap.size<=b\/b∈B.X)/\b<w.heap.size:=λb hb=>zn7 hs hid hb
  refine za0 (run ?_) ⟨_,_,h1.adopt hd (o:= .ch e 1 (n+s.size) (cells++strR s) pub) (vb:=(.slice p n c,ob)) trivial h2 hobs (λi o' b ho hb=>zn6 hs hid ho hb)⟩
  have hf:=Lib.run_firstCells_string (P:=P) w 1 s
  rw[h0]at hf
  have hs0:Lib.strCells s=[]:=List.eq_nil_of_length_eq_zero (by rw[Lib.strCells_length];exact h0)
  rw[hs0]at hf
  cases p<;>simp[Builtin.append_,run_underlying hdd,run_underlying hds,sizeOf,typeInfo,hi,hsz,hke.1,Builtin.lenOf,h0,hf,hnc,storeCells]
 ·obtain⟨xs,b,cap,cur,w',hrun,hxs,hh,h1,h2,h3,h4,hgr,hbb,hb0⟩:=zz3 (ty:=o.type) hdd hds hi hz (hsz.trans hke.1) (hby.trans hke.2) (by rw[<-Array.length_toList,hzc,qe.zsz,hke.1]) hch s hm hlen
  obtain⟨k',hsat⟩:=ztg (o:=o) hs hd hch hid (zfmb w k s) (by rw[Lib.strCells_length,Nat.mul_one]) hxs hh h1 h2 h3 h4 hgr hbb hb0
  exact za0 (run hrun) ⟨k',hsat⟩
theorem zog(w:World)(dT sT ty elem:TypeId)(sz g o dLen dCap:Nat)(a:Addr)(sLen sCap m:Nat)(cur:Array Value)(t:TypeId)(cs:List Value)
  (hu:P.underlying dT=some (.slice elem)) {i:TypeInfo} (hi:P.info? elem=some i) (hs:i.size=sz)
  (hg:w.heap[g]?=some (.cells cur t (0,0))) (hm:Nat.min sLen dLen=m) (hn:cs.length=m*sz)
  (hsrc: ∀j v,cs[j]?=some v->w.cell? (a.add j)=some v) (hfit:o+cs.length<=cur.size) (h1: ∀v∈cs,v.oneCell'=true):
  (Builtin.copy_ #[dT,sT] ty #[.slice (some ⟨g,o,none⟩) dLen dCap, .slice (some a) sLen sCap]).run P w=
   .ok (goInt (m:Int)) (w.setRow g (cur.toList.take o++cs++cur.toList.drop (o+cs.length)).toArray):=by
 subst hm
 have hl:=run_loadCells_list (P:=P) w a cs hsrc
 have hst:=run_storeCells_at P g o t cs 0 cur w hg (by simpa using hfit) h1
 simp[Builtin.copy_,run_underlying hu,Builtin.lenOf,Builtin.firstCells,sizeOf,typeInfo,hi,hs,<-hn,hl,hst]
theorem zof(w:World)(dT sT ty elem:TypeId)(p a:Option Addr)(dLen dCap sLen sCap:Nat)(hu:P.underlying dT=some (.slice elem)){i:TypeInfo}(hi:P.info? elem=some i)(hm:Nat.min sLen dLen=0):
  (Builtin.copy_ #[dT,sT] ty #[.slice p dLen dCap, .slice a sLen sCap]).run P w= .ok (goInt ((0:Nat):Int)) w:=by
 have h:min sLen dLen=0:=hm
 cases p<;>cases a<;>simp[Builtin.copy_,run_underlying hu,Builtin.lenOf,Builtin.firstCells,sizeOf,typeInfo,hi,h,loadCells,loadCellsFrom,storeCells]
theorem Vstep.copy{x y:Operand}{t t' e:TypeId}{ti te:TI}{id n m:Nat}{cells ys:List RV}{f:TF}{K:St->Prop}(hT:TOk P T)
  (hop:o.op= .call {callee:= .builtin .copy,args:= #[x,y],argTypes:= #[t,t']}) (hti:tget T t=some ti) (hk:ti.k= .slice e) (hte:tget T e=some te)
  (hx:opr S x=some (.own id)) (ho:oget S.O id=some (.ch e te.sz n cells false)) (hy:opr S y=some f) (hr:rhsv S te.sz f=some (te.sz,m,ys)) {zs:List RV} (hz:ys.take (Nat.min m n*te.sz)++cells.drop (Nat.min m n*te.sz)=zs)
  (hK:newK (S.set id (some (.ch e te.sz n zs false))) o.dst (.r (.i .i64 (Nat.min m n:Nat))) none K):Vstep P S o K:=by
 subst hz
 rw[za4]at hK
 refine Vstep.one (S':=(S.set id (some (.ch e te.sz n (ys.take (Nat.min m n*te.sz)++cells.drop (Nat.min m n*te.sz)) false))).put o.dst (.r (.i .i64 (Nat.min m n:Nat)))) ?_ hK
 rintro B N a w k Q ⟨g,hs⟩ hd
 obtain⟨q,hq⟩:=hT.get hti
 obtain⟨d,hdd,hko,_⟩:=q.desc
 rw[hq,hk]at*
 simp only[KOk]at hko
 subst hko
 obtain⟨qe,hqe⟩:=hT.get hte
 obtain⟨i,hi,hsz,hby,z,hz,hzc⟩:=qe.info
 rw[hqe]at hi
 obtain⟨hid,hlo,hat,_⟩:=hs.owns id _ ho
 have hx':=(zah hs hx).2
 simp only[TF.at_]at hx'
 obtain⟨qa,qc,us,hu2,hus,husl,hsrc⟩:=zss hs hr (zah hs hy).2
 have hmn:Nat.min m n<=n:=Nat.min_le_right _ _
 have hmm:Nat.min m n<=m:=Nat.min_le_left _ _
 simp only[Ow.at_]at hat
 have run: ∀{v:Value} {w':World},(Builtin.copy_ #[t,t'] o.type #[(g id).1, .slice qa m qc]).run P w= .ok v w'->(execOp a.eval o).run P w= .ok (.value v) w':=λ{v w'} hr=>by
  simp[execOp,hop,resolve,invoke,builtin,hx',hu2,hr]
 have fin: ∀{w':World},SatE B N (S.set id (some (.ch e te.sz n (ys.take (Nat.min m n*te.sz)++cells.drop (Nat.min m n*te.sz)) false))) a w' k g->
   SatE B N ((S.set id (some (.ch e te.sz n (ys.take (Nat.min m n*te.sz)++cells.drop (Nat.min m n*te.sz)) false))).put o.dst (.r (.i .i64 (Nat.min m n:Nat)))) (a.put o.dst (goInt ((Nat.min m n:Nat):Int))) w' k g:=λ{w'} h=>
  h.put hd trivial (by simp[TF.at_,RV.at_,goInt])
 rcases Nat.eq_zero_or_pos (Nat.min m n)with h0 |hpos
 ·have hform: ∃p nn c,(g id).1= .slice p nn c/\nn=n:=by
   rcases hat.2 with⟨_,⟨rfl,p,e⟩ |⟨_,h,_⟩⟩ |⟨b,cap,cur,_,e,_⟩
   ·exact⟨p,0,0,e,rfl⟩
   ·cases h
   ·exact⟨_,n,cap,e,rfl⟩
  obtain⟨p,nn,c,hu,rfl⟩:=hform
  rw[hu]at run
  have hrun:=zof (P:=P) w t t' o.type e p qa nn c m qc hdd hi h0
  refine za0 (run hrun) ⟨k,g,?_⟩
  have hz:ys.take (Nat.min m nn*te.sz)++cells.drop (Nat.min m nn*te.sz)=cells:=by rw[h0];simp
  rw[hz]at fin⊢
  have:=fin (hs.reset ho)
  rw[h0]at this⊢
  exact this
 ·rcases hat.2 with⟨_,⟨rfl,_⟩ |⟨_,h,_⟩⟩ |⟨b,cap,cur,e1,e2,hh,h1,h2,h3,h4,h5⟩
  ·exact absurd hpos (by simp)
  ·cases h
  ·obtain⟨sb,so,rfl,hcells⟩:=hsrc (by omega)
   have hle:Nat.min m n*te.sz<=m*te.sz:=Nat.mul_le_mul_right _ hmm
   have hle2:Nat.min m n*te.sz<=n*te.sz:=Nat.mul_le_mul_right _ hmn
   have hcc:n*te.sz<=cap*te.sz:=Nat.mul_le_mul_right _ h1
   have hk:k b=0:=by simpa using h4
   have hcl:(us.take (Nat.min m n*te.sz)).length=Nat.min m n*te.sz:=by rw[List.length_take,husl];omega
   have hsub: ∀(j:Nat) (v:Value),(us.take (Nat.min m n*te.sz))[j]?=some v->us[j]?=some v:=λj v hj=>by
    rw[List.getElem?_take]at hj
    split at hj
    ·exact hj
    ·cases hj
   have hnew:RV.listAt w k (ys.take (Nat.min m n*te.sz)) (us.take (Nat.min m n*te.sz)):=zdg hus _
   have hr:=zog (P:=P) w t t' o.type e te.sz b 0 n cap ⟨sb,so,none⟩ m qc _ cur e (us.take (Nat.min m n*te.sz)) hdd hi hsz hh rfl hcl (λj v hj=>by rw[Addr.add_mid];exact hcells j v (hsub j v hj)) (by rw[hcl];omega) (λv hv=>by
    obtain⟨j,hj⟩:=List.getElem?_of_mem hv
    have hjl:j< (ys.take (Nat.min m n*te.sz)).length:=by rw[<-za7 hnew];exact(List.getElem?_eq_some_iff.1 hj).1
    exact(((RV.listAt_iff _ _).1 hnew).2 j _ v (List.getElem?_eq_getElem hjl) hj).1)
   rw[e2]at run
   have hw:=ziu (k:=k) (cs:=(cur.toList.take 0++us.take (Nat.min m n*te.sz)++cur.toList.drop (0+(us.take (Nat.min m n*te.sz)).length)).toArray) hh hk
   refine za0 (run hr) ⟨k,g,fin (hs.redo ho e1 hw trivial ?_)⟩
   simp only[Ow.at_]
   have hyl:ys.length=m*te.sz:=by rw[<-za7 hus,husl]
   refine⟨by have:=hat.1;simp only[bL,List.length_take,List.length_drop];omega, .inr ⟨b,cap,_,e1,e2,setRow_heap w b cur _ e (0,0) hh,h1,h2,?_,by simpa using hk,?_⟩⟩
   ·simp only[List.size_toArray,bL,List.length_take,List.length_drop,Array.length_toList,husl];omega
   ·have hnew':=RV.list_mono hw.le _ _ hnew
    have hhi:=zew (RV.list_mono hw.le _ _ h5) (Nat.min m n*te.sz)
    have hall:=zct hnew' hhi
    have e:(List.take 0 cur.toList++us.take (Nat.min m n*te.sz)++List.drop (0+(us.take (Nat.min m n*te.sz)).length) cur.toList).take (n*te.sz)=us.take (Nat.min m n*te.sz)++(cur.toList.take (n*te.sz)).drop (Nat.min m n*te.sz):=by
     rw[List.take_zero,List.nil_append,Nat.zero_add,List.take_append,hcl,List.drop_take]
     congr 1
     exact List.take_of_length_le (by rw[hcl];exact hle2)
    rw[List.toList_toArray,e]
    exact hall
end
theorem zbr{S:St}{id:Nat}{e:TypeId}{sz n:Nat}{cells:List RV}(ho:oget S.O id=some (.ch e sz n cells false)):Sub S ⟨S.F,(id,some (.ch e sz n cells true))::S.O,S.nx⟩:=by
 rintro B N a w k ⟨g,hs⟩
 obtain⟨q1,q2,q3,q4⟩:=hs.owns id _ ho
 simp only[Ow.at_]at q3
 let k1:Kp:=match(g id).2 with
  |some b=>kset k b (n*sz)
  |none=>k
 have hw:Wrote w k w k1 (g id).2:=by
  refine⟨rfl,rfl,rfl,Nat.le_refl _,λb hb hne=>⟨rfl,?_⟩,λb hb=>?_⟩
  ·simp only[k1]
   cases hob:(g id).2 with
   |none=>rfl
   |some b'=>simp only[kset];rw[if_neg (λh=>hne (by rw[hob,h]))]
  ·have hkb:=(q3.blk hb.symm).1
   simp only[Bool.false_eq_true,if_false]at hkb
   exact⟨by omega,λ_ _=>rfl,λh=>by omega⟩
 have hle:=hw.le
 have h2:chAt w k1 e sz n cells true (g id).1 (g id).2:=by
  refine⟨q3.1,?_⟩
  rcases q3.2 with⟨h,h' |⟨_,h',_⟩⟩ |⟨b,cap,cur,h1,h2,h3,h4,h5,h6,h7,h8⟩
  ·exact .inl ⟨h, .inl h'⟩
  ·cases h'
  ·refine .inr ⟨b,cap,cur,h1,h2,h3,h4,h5,h6,?_,RV.list_mono hle _ _ h8⟩
   simp only[k1,h1,zcu,if_true]
 have h1:=hs.wrote hw (id:=some id) ⟨⟨_,ho⟩,rfl⟩
 have up: ∀i o',oget ((id,some (Ow.ch e sz n cells true))::S.O) i=some o'->(i=id/\o'= .ch e sz n cells true)\/(id≠i/\oget (S.strike (some id)).O i=some o'):=λi o' h=>by
  rcases zav h with⟨rfl,e'⟩ |⟨hne,h⟩
  ·cases e';exact .inl ⟨rfl,rfl⟩
  ·refine .inr ⟨hne,?_⟩
   simp only[St.strike,St.set,oget]
   split
   ·rename_i hb;exact absurd (Nat.eq_of_beq_eq_true hb) hne
   ·exact h
 refine⟨k1,g,h1.size,h1.defers,h1.keep,h1.kk,h1.facts,λi o' h=>?_,λi j o1 o2 b' hi hj hne hbi=>?_⟩
 ·rcases up i o' h with⟨rfl,rfl⟩ |⟨hne,h⟩
  ·exact⟨q1,trivial,h2,q4⟩
  ·exact h1.owns i o' h
 ·have old: ∀x ox,oget ((id,some (Ow.ch e sz n cells true))::S.O) x=some ox->∃ox',oget S.O x=some ox':=λx ox hx=>by
   rcases zav hx with⟨rfl,_⟩ |⟨_,hx⟩
   ·exact⟨_,ho⟩
   ·exact⟨ox,hx⟩
  obtain⟨p1,hp1⟩:=old i o1 hi
  obtain⟨p2,hp2⟩:=old j o2 hj
  exact hs.apart i j p1 p2 b' hp1 hp2 hne hbi
section
variable {P:Program} {T:TT} {S:St} {o:Oper}
theorem Vstep.nm(id t:Nat)(hid:Nat.blt id S.nx=true){K:St->Prop}(h: ∀v,Vstep P ⟨(t, .nm id v)::S.F,S.O,S.nx⟩ o K):Vstep P S o K:=by
 refine⟨Σ v:Value,(h v).out.choose,λx=>(h x.1).out.choose_spec.choose x.2,λB N a w k Q hs0 hd=>?_,λx=>(h x.1).out.choose_spec.choose_spec.2 x.2⟩
 obtain⟨g,hs⟩:=hs0
 have hs1:Sat B N ⟨(t, .nm id (g id).1)::S.F,S.O,S.nx⟩ a w k:=by
  refine⟨g,hs.size,hs.defers,hs.keep,hs.kk,λt' f hf=>?_,hs.owns,hs.apart⟩
  rcases zbd hf with⟨rfl,rfl⟩ |⟨_,hf⟩
  ·exact⟨by simp[Nat.blt]at hid;simp only[TF.lt];omega,rfl⟩
  ·exact hs.facts t' f hf
 refine Oper.wp_mono ?_ ((h (g id).1).out.choose_spec.choose_spec.1 B N a w k Q hs1 hd)
 rintro a' w' ⟨i,k',hs'⟩
 exact⟨⟨(g id).1,i⟩,k',hs'⟩
def zri(S:St):List Operand->List Value->Prop
 |[],vs=>vs=[]
 |x::xs,vs=>∃v r,vs=v::r/\(∃id t,opr S x=some (.own id)/\fget S.F t=some (.nm id v))/\zri S xs r
theorem Vstep.mkfunX{f:FuncId}{cap:Array Operand}(vs:List Value){K:St->Prop}(hop:o.op= .makeFunc (.func f) #[] cap) (hc:zri S cap.toList vs) (hK:newK S o.dst (.r (.x (.func (.func f) #[] vs.toArray))) none K):Vstep P S o K:=by
 rw[za4]at hK
 refine Vstep.one (λB N a w k Q ⟨g,hs⟩ hd=>?_) hK
 have key: ∀(xs:List Operand) (vs:List Value),zri S xs vs->xs.map a.eval=vs:=by
  intro xs
  induction xs with
  |nil=>intro vs h;simp only[zri]at h;subst h;rfl
  |cons x r ih=>
   intro vs h
   simp only[zri]at h
   obtain⟨v,r',rfl,⟨id,t,hx,ht⟩,hr⟩:=h
   have h1:=(zah hs hx).2
   have h2:=(hs.facts t _ ht).2
   simp only[TF.at_]at h1 h2
   rw[List.map_cons,ih r' hr,h1,h2]
 have hv:cap.map a.eval=vs.toArray:=by
  apply Array.ext'
  rw[Array.toList_map]
  exact key _ _ hc
 refine za0 (v:= .func (.func f) #[] vs.toArray) (w':=w) (by simp[execOp,hop,Instr.makeFunc,hv]) ⟨k,g,hs.put hd trivial ?_⟩
 simp only[TF.at_,RV.at_]
theorem zto{T:TT}{results:List ResultVar}{names:List (Nat×Value)}{n1:Nat}{O1:List (Nat×Ow)}{res:TF}{ex:Exit}{S S':St}(h:Sub S S')(he:endT T results names n1 O1 res ex S'):endT T results names n1 O1 res ex S:=by
 obtain⟨hex,S1,hs,h2⟩:=he
 exact⟨hex,S1,λB N a w k hh=>by obtain⟨k',h'⟩:=h B N a w k hh;exact hs B N a w k' h',h2⟩
end
end Go.Proofs.YtoegdgbghdnnfaaGreat.Sx
