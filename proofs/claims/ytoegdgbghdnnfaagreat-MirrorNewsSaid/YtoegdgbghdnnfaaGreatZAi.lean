import Derived.Test.YtoegdgbghdnnfaaGreatZTm
import Derived.Test.YtoegdgbghdnnfaaGreatZAb
namespace Go.Proofs.YtoegdgbghdnnfaaGreat.Sx
open Go.RowKit
theorem z1g(t:List Node)(x:Nat)(pv:Value)(hx:x<t.length):Acts bP 112 1 [(0, .box [.r (nods t)])] [.r (I x), .own 0] [(0,pv)] 2 [(0, .box [.r (nods t)])] (.r (.tu [.ag (zdo (zan t t.length) x).c, .b (found (zan t t.length) x)])):=by
 have e:zaf (zan t t.length) x=some (nT t x):=by rw[zg7,if_pos (by omega)];rfl
 have e1:zdo (zan t t.length) x=nT t x:=by unfold zdo;rw[e];rfl
 have e2:found (zan t t.length) x=true:=by unfold found;rw[e];rfl
 rw[e1,e2]
 refine zaz (T:=Tab) mixed Tab_ok Tryz.func112 rfl (by kernel_rfl) rfl ⟨⟨_,_,rfl,rfl,zai,zai⟩,trivial⟩ ?_
 refine zm (by omega) (by omega) (zbs rfl hx) ?_
 refine za rfl rfl ?_
 exact zaw (.inl rfl) [(0,0),(1,1)] [(3, .own 1),(4, .r (.b true))] [(1,some (.box ((nT t x).c.map .r)))] rfl ⟨rfl,cr,⟨rfl,rfl⟩,trivial⟩ ⟨(bA bZ),(bD (bB bZ)),trivial⟩ ⟨⟨1000000,rfl⟩,trivial⟩ (za rfl rfl ⟨_,rfl,cr⟩)
structure VT where
 t:List Node
 i:Int
 only:Bool
 p0:Value
 p1:Value
 p2:Value
 p3:Value
 p4:Value
 p5:Value
 p6:Value
 p7:Value
 p8:Value
abbrev VT.sp(c:VT):List Spot:=zan c.t c.t.length
def VT.fat(c:VT):Value:= .func (.func 112) #[] #[c.p0]
def VT.vis(c:VT):Value:= .func (.func 161) #[] #[c.p3,c.p6,c.p8,c.p4]
def VT.chi(c:VT):Value:= .func (.func 158) #[] #[c.p1,c.p7,c.p2,c.p5]
def VT.mem(c:VT)(A B:List Int)(ok:Bool):List (Nat×Ow):=
 [(0, .box [.r (nods c.t)]),(1, .box [.r (I c.i)]),(2, .box [.r (.b c.only)]),(3, .box [.r (.x c.fat)]),(4, .box [.own 9]),(5, .box [.own 10]),(6, .box [.r (.b ok)]),(7, .box [.r (.x c.vis)]),(8, .box [.r (.x c.chi)]),
 (9, .ch 3 1 A.length (A.map I) false),(10, .ch 3 1 B.length (B.map I) false)]
def VT.nms(c:VT):List (Nat×Value):=[(0,c.p0),(1,c.p1),(2,c.p2),(3,c.p3),(4,c.p4),(5,c.p5),(6,c.p6),(7,c.p7),(8,c.p8)]
theorem VT.same(c:VT)(A B A' B':List Int)(ok ok':Bool):zpb (c.mem A B ok) (c.mem A' B' ok') c.nms:=
 ⟨⟨_,_,rfl,rfl,zai,zai⟩,⟨_,_,rfl,rfl,zai,zai⟩,⟨_,_,rfl,rfl,zai,zai⟩,⟨_,_,rfl,rfl,zai,zai⟩,⟨_,_,rfl,rfl,zai,zai⟩,⟨_,_,rfl,rfl,zai,zai⟩,⟨_,_,rfl,rfl,zai,zai⟩,⟨_,_,rfl,rfl,zai,zai⟩,⟨_,_,rfl,rfl,zai,zai⟩,trivial⟩
def VT.Vis(c:VT)(h:Nat):Prop:=∀(k how:Nat) (late:List Int) (A B:List Int) (ok:Bool),k<2^(16-h)->(k+1)*2^(h+1)<=c.t.length+1->late.length<=100000000->(∀u∈late,za6 u)->A.length+2^(h+1)<=1000000->B.length+2^(h+1)<=1000000->
 Acts bP 161 11 (c.mem A B ok) [.r (I (nd h k)), .r (I how), .r (is late), .own 3, .own 6, .own 8, .own 4] c.nms 11
  (c.mem (A++(visV c.sp c.i c.only h k how late).1) (B++(visV c.sp c.i c.only h k how late).2.1) (ok&&(visV c.sp c.i c.only h k how late).2.2)) (.r (.tu []))
set_option maxHeartbeats 4000000 in
theorem VT.child(c:VT)(hi0:0<=c.i/\c.i<65536)(h:Nat)(hh:h<=16)(ih:c.Vis h)(j how:Nat)(n:Node)(late:List Int)(A B:List Int)(ok:Bool)(hj:j<2^(16-h))(hm:(j+1)*2^(h+1)<=c.t.length+1)(hl:late.length<=100000000)(hd: ∀u∈late,za6 u)(hA:A.length+2^(h+1)<=1000000)(hB:B.length+2^(h+1)<=1000000)(r:V3)
  (hr:r=kidV (λj w l=>visV c.sp c.i c.only h j w l) c.i c.only h how n late j):
  Acts bP 158 11 (c.mem A B ok) [.r (I (nd h j)), .r (I how), .r (.ag n.c), .r (is late), .own 1, .own 7, .own 2, .own 5] c.nms 11 (c.mem (A++r.1) (B++r.2.1) (ok&&r.2.2)) (.r (.tu [])):=by
 refine zaz (T:=Tab) mixed Tab_ok Tryz.func158 rfl (by kernel_rfl) rfl (c.same _ _ _ _ _ _) ?_
 have hp:2<=2^(h+1):=by rw[Nat.pow_succ];have:0<2^h:=Nat.pow_pos (by omega);omega
 have hkc:=n.kind.toNat_lt
 unfold kidV at hr
 by_cases h0:how=0
 ·subst h0
  refine zu rfl ?_
  refine zd (m:=2*c.i) rfl (by omega) ?_
  refine ze (zk4 (2*c.i) (nd h j)) ?_
  cases hu:za2 (2*c.i) (nd h j)with
  |true=>
   rw[if_pos ⟨rfl,hu⟩]at hr
   subst hr
   refine zq ?_
   refine zj [(0,0),(1,1),(2,2),(3,3),(4,4),(5,5),(6,6),(7,7),(8,8),(9,9),(10,10)] [0,1,2,3,4,5,6,7,8] (λvs hv=>za9 (by simp only[List.map];rw[hv 0 0 1000000 _ rfl rfl,hv 1 1 1000001 _ rfl rfl,hv 2 2 1000002 _ rfl rfl,hv 3 3 1000003 _ rfl rfl,hv 4 4 1000004 _ rfl rfl,hv 5 5 1000005 _ rfl rfl,hv 6 6 1000006 _ rfl rfl,hv 7 7 1000007 _ rfl rfl,hv 8 8 1000008 _ rfl rfl];rfl) (ih j 0 [] A B ok (by omega) hm (by simp) (by simp) (by omega) (by omega))) (Handed.clo (fs:=[.r (I _), .r (I _), .r (is [])]) (cs:=[.own 3, .own 6, .own 8, .own 4]) rfl rfl ⟨_,_,rfl,cr,_,_,rfl,cr,_,_,rfl,Cv.nil 1,rfl⟩ ⟨_,_,rfl,⟨3,1000003,rfl,rfl⟩,_,_,rfl,⟨6,1000006,rfl,rfl⟩,_,_,rfl,⟨8,1000008,rfl,rfl⟩,_,_,rfl,⟨4,1000004,rfl,rfl⟩,rfl⟩) rfl ⟨(bA bZ),(bA bZ),(bA bZ),(bA bZ),⟨_,_,rfl,rfl,rfl⟩,⟨_,_,rfl,rfl,rfl⟩,(bA bZ),(bA bZ),(bA bZ),⟨rfl,rfl,rfl,rfl,zn _⟩,⟨rfl,rfl,rfl,rfl,zn _⟩,trivial⟩ ⟨zad,zad,zad,zad,zad,zad,zad,zad,zad,zaq,zaq,trivial⟩ ?_
   exact zaw (.inr rfl) [(0,0),(1,1),(2,2),(3,3),(4,4),(5,5),(6,6),(7,7),(8,8),(9,21),(10,22)] [] [] rfl ⟨⟨rfl,rfl⟩,⟨rfl,rfl⟩,⟨rfl,rfl⟩,⟨rfl,rfl⟩,⟨rfl,rfl⟩,⟨rfl,rfl⟩,⟨rfl,rfl⟩,⟨rfl,rfl⟩,⟨rfl,rfl⟩,trivial⟩ ⟨(bA bZ),(bA bZ),(bA bZ),(bA bZ),⟨_,_,rfl,rfl,rfl⟩,⟨_,_,rfl,rfl,rfl⟩,(bA bZ),(bA bZ),(bA bZ),⟨rfl,rfl,rfl,rfl,zn _⟩,⟨rfl,rfl,rfl,rfl,zn _⟩,trivial⟩ ⟨⟨1000000,rfl⟩,⟨1000001,rfl⟩,⟨1000002,rfl⟩,⟨1000003,rfl⟩,⟨1000004,rfl⟩,⟨1000005,rfl⟩,⟨1000006,rfl⟩,⟨1000007,rfl⟩,⟨1000008,rfl⟩,trivial⟩ ⟨_,rfl,cr⟩
  |false=>
   rw[if_neg (by rw[hu];simp)]at hr
   refine zt ?_
   refine zu rfl ?_
   refine Vif.mk' (λho=>?_) (λho=>?_)
   ·rw[if_pos ⟨rfl,ho⟩]at hr
    subst hr
    refine zy ?_
    refine Vapp.mk' (j:=(B++[(nd h j:Int)]).length) (zs:=(B++[(nd h j:Int)]).map I) (by simp only[maxLen];omega) (by simp;omega) (by simp) (by rw[List.map_append];rfl) ?_
    rw[List.append_nil,Bool.and_true]
    exact zaw (.inr rfl) [(0,0),(1,1),(2,2),(3,3),(4,4),(5,5),(6,6),(7,7),(8,8),(9,9),(10,13)] [] [] rfl ⟨⟨rfl,rfl⟩,⟨rfl,rfl⟩,⟨rfl,rfl⟩,⟨rfl,rfl⟩,⟨rfl,rfl⟩,⟨rfl,rfl⟩,⟨rfl,rfl⟩,⟨rfl,rfl⟩,⟨rfl,rfl⟩,trivial⟩ ⟨(bA bZ),(bA bZ),(bA bZ),(bA bZ),⟨_,_,rfl,rfl,rfl⟩,⟨_,_,rfl,rfl,rfl⟩,(bA bZ),(bA bZ),(bA bZ),⟨rfl,rfl,rfl,rfl,zn _⟩,⟨rfl,rfl,rfl,rfl,zn _⟩,trivial⟩ ⟨⟨1000000,rfl⟩,⟨1000001,rfl⟩,⟨1000002,rfl⟩,⟨1000003,rfl⟩,⟨1000004,rfl⟩,⟨1000005,rfl⟩,⟨1000006,rfl⟩,⟨1000007,rfl⟩,⟨1000008,rfl⟩,trivial⟩ ⟨_,rfl,cr⟩
   ·rw[if_neg (by rw[ho];simp),if_pos (.inl rfl)]at hr
    subst hr
    refine zu rfl ?_
    refine zq ?_
    refine zj [(0,0),(1,1),(2,2),(3,3),(4,4),(5,5),(6,6),(7,7),(8,8),(9,9),(10,10)] [0,1,2,3,4,5,6,7,8] (λvs hv=>za9 (by simp only[List.map];rw[hv 0 0 1000000 _ rfl rfl,hv 1 1 1000001 _ rfl rfl,hv 2 2 1000002 _ rfl rfl,hv 3 3 1000003 _ rfl rfl,hv 4 4 1000004 _ rfl rfl,hv 5 5 1000005 _ rfl rfl,hv 6 6 1000006 _ rfl rfl,hv 7 7 1000007 _ rfl rfl,hv 8 8 1000008 _ rfl rfl];rfl) (ih j 1 [] A B ok (by omega) hm (by simp) (by simp) (by omega) (by omega))) (Handed.clo (fs:=[.r (I _), .r (I _), .r (is [])]) (cs:=[.own 3, .own 6, .own 8, .own 4]) rfl rfl ⟨_,_,rfl,cr,_,_,rfl,cr,_,_,rfl,Cv.nil 1,rfl⟩ ⟨_,_,rfl,⟨3,1000003,rfl,rfl⟩,_,_,rfl,⟨6,1000006,rfl,rfl⟩,_,_,rfl,⟨8,1000008,rfl,rfl⟩,_,_,rfl,⟨4,1000004,rfl,rfl⟩,rfl⟩) rfl ⟨(bA bZ),(bA bZ),(bA bZ),(bA bZ),⟨_,_,rfl,rfl,rfl⟩,⟨_,_,rfl,rfl,rfl⟩,(bA bZ),(bA bZ),(bA bZ),⟨rfl,rfl,rfl,rfl,zn _⟩,⟨rfl,rfl,rfl,rfl,zn _⟩,trivial⟩ ⟨zad,zad,zad,zad,zad,zad,zad,zad,zad,zaq,zaq,trivial⟩ ?_
    exact zaw (.inr rfl) [(0,0),(1,1),(2,2),(3,3),(4,4),(5,5),(6,6),(7,7),(8,8),(9,21),(10,22)] [] [] rfl ⟨⟨rfl,rfl⟩,⟨rfl,rfl⟩,⟨rfl,rfl⟩,⟨rfl,rfl⟩,⟨rfl,rfl⟩,⟨rfl,rfl⟩,⟨rfl,rfl⟩,⟨rfl,rfl⟩,⟨rfl,rfl⟩,trivial⟩ ⟨(bA bZ),(bA bZ),(bA bZ),(bA bZ),⟨_,_,rfl,rfl,rfl⟩,⟨_,_,rfl,rfl,rfl⟩,(bA bZ),(bA bZ),(bA bZ),⟨rfl,rfl,rfl,rfl,zn _⟩,⟨rfl,rfl,rfl,rfl,zn _⟩,trivial⟩ ⟨⟨1000000,rfl⟩,⟨1000001,rfl⟩,⟨1000002,rfl⟩,⟨1000003,rfl⟩,⟨1000004,rfl⟩,⟨1000005,rfl⟩,⟨1000006,rfl⟩,⟨1000007,rfl⟩,⟨1000008,rfl⟩,trivial⟩ ⟨_,rfl,cr⟩
 rw[if_neg (λhh=>h0 hh.1),if_neg (λhh=>h0 hh.1)]at hr
 refine zw (by simp only[zb];omega) (zt ?_)
 refine zw (by simp only[zb];omega) (zt ?_)
 refine zw (by simp only[zb];omega) ?_
 by_cases h1:how=1/\n.kind.toNat=0
 ·rw[if_pos (.inr h1)]at hr
  subst hr
  refine zu (by simp only[zb];omega) ?_
  refine zu (by simp only[zb];omega) ?_
  refine zq ?_
  refine zj [(0,0),(1,1),(2,2),(3,3),(4,4),(5,5),(6,6),(7,7),(8,8),(9,9),(10,10)] [0,1,2,3,4,5,6,7,8] (λvs hv=>za9 (by simp only[List.map];rw[hv 0 0 1000000 _ rfl rfl,hv 1 1 1000001 _ rfl rfl,hv 2 2 1000002 _ rfl rfl,hv 3 3 1000003 _ rfl rfl,hv 4 4 1000004 _ rfl rfl,hv 5 5 1000005 _ rfl rfl,hv 6 6 1000006 _ rfl rfl,hv 7 7 1000007 _ rfl rfl,hv 8 8 1000008 _ rfl rfl];rfl) (ih j 1 [] A B ok (by omega) hm (by simp) (by simp) (by omega) (by omega))) (Handed.clo (fs:=[.r (I _), .r (I _), .r (is [])]) (cs:=[.own 3, .own 6, .own 8, .own 4]) rfl rfl ⟨_,_,rfl,cr,_,_,rfl,cr,_,_,rfl,Cv.nil 1,rfl⟩ ⟨_,_,rfl,⟨3,1000003,rfl,rfl⟩,_,_,rfl,⟨6,1000006,rfl,rfl⟩,_,_,rfl,⟨8,1000008,rfl,rfl⟩,_,_,rfl,⟨4,1000004,rfl,rfl⟩,rfl⟩) rfl ⟨(bA bZ),(bA bZ),(bA bZ),(bA bZ),⟨_,_,rfl,rfl,rfl⟩,⟨_,_,rfl,rfl,rfl⟩,(bA bZ),(bA bZ),(bA bZ),⟨rfl,rfl,rfl,rfl,zn _⟩,⟨rfl,rfl,rfl,rfl,zn _⟩,trivial⟩ ⟨zad,zad,zad,zad,zad,zad,zad,zad,zad,zaq,zaq,trivial⟩ ?_
  exact zaw (.inr rfl) [(0,0),(1,1),(2,2),(3,3),(4,4),(5,5),(6,6),(7,7),(8,8),(9,21),(10,22)] [] [] rfl ⟨⟨rfl,rfl⟩,⟨rfl,rfl⟩,⟨rfl,rfl⟩,⟨rfl,rfl⟩,⟨rfl,rfl⟩,⟨rfl,rfl⟩,⟨rfl,rfl⟩,⟨rfl,rfl⟩,⟨rfl,rfl⟩,trivial⟩ ⟨(bA bZ),(bA bZ),(bA bZ),(bA bZ),⟨_,_,rfl,rfl,rfl⟩,⟨_,_,rfl,rfl,rfl⟩,(bA bZ),(bA bZ),(bA bZ),⟨rfl,rfl,rfl,rfl,zn _⟩,⟨rfl,rfl,rfl,rfl,zn _⟩,trivial⟩ ⟨⟨1000000,rfl⟩,⟨1000001,rfl⟩,⟨1000002,rfl⟩,⟨1000003,rfl⟩,⟨1000004,rfl⟩,⟨1000005,rfl⟩,⟨1000006,rfl⟩,⟨1000007,rfl⟩,⟨1000008,rfl⟩,trivial⟩ ⟨_,rfl,cr⟩
 rw[if_neg (λhh=>hh.elim h0 h1)]at hr
 by_cases h11:how=1
 ·refine zu (by simp only[zb];omega) ?_
  refine zw (by simp only[zb];omega) ?_
  refine zt ?_
  refine ze (zr1 late (nd h j) (by omega) hd) ?_
  cases hu:late.any (λu=>za2 (2*u) (nd h j))with
  |true=>
   rw[if_pos hu]at hr
   subst hr
   refine zq ?_
   refine zj [(0,0),(1,1),(2,2),(3,3),(4,4),(5,5),(6,6),(7,7),(8,8),(9,9),(10,10)] [0,1,2,3,4,5,6,7,8] (λvs hv=>za9 (by simp only[List.map];rw[hv 0 0 1000000 _ rfl rfl,hv 1 1 1000001 _ rfl rfl,hv 2 2 1000002 _ rfl rfl,hv 3 3 1000003 _ rfl rfl,hv 4 4 1000004 _ rfl rfl,hv 5 5 1000005 _ rfl rfl,hv 6 6 1000006 _ rfl rfl,hv 7 7 1000007 _ rfl rfl,hv 8 8 1000008 _ rfl rfl];rfl) (ih j 2 late A B ok (by omega) hm hl hd (by omega) (by omega))) (Handed.clo (fs:=[.r (I _), .r (I _), .r (is late)]) (cs:=[.own 3, .own 6, .own 8, .own 4]) rfl rfl ⟨_,_,rfl,cr,_,_,rfl,cr,_,_,rfl,cr,rfl⟩ ⟨_,_,rfl,⟨3,1000003,rfl,rfl⟩,_,_,rfl,⟨6,1000006,rfl,rfl⟩,_,_,rfl,⟨8,1000008,rfl,rfl⟩,_,_,rfl,⟨4,1000004,rfl,rfl⟩,rfl⟩) rfl ⟨(bA bZ),(bA bZ),(bA bZ),(bA bZ),⟨_,_,rfl,rfl,rfl⟩,⟨_,_,rfl,rfl,rfl⟩,(bA bZ),(bA bZ),(bA bZ),⟨rfl,rfl,rfl,rfl,zn _⟩,⟨rfl,rfl,rfl,rfl,zn _⟩,trivial⟩ ⟨zad,zad,zad,zad,zad,zad,zad,zad,zad,zaq,zaq,trivial⟩ ?_
   exact zaw (.inr rfl) [(0,0),(1,1),(2,2),(3,3),(4,4),(5,5),(6,6),(7,7),(8,8),(9,21),(10,22)] [] [] rfl ⟨⟨rfl,rfl⟩,⟨rfl,rfl⟩,⟨rfl,rfl⟩,⟨rfl,rfl⟩,⟨rfl,rfl⟩,⟨rfl,rfl⟩,⟨rfl,rfl⟩,⟨rfl,rfl⟩,⟨rfl,rfl⟩,trivial⟩ ⟨(bA bZ),(bA bZ),(bA bZ),(bA bZ),⟨_,_,rfl,rfl,rfl⟩,⟨_,_,rfl,rfl,rfl⟩,(bA bZ),(bA bZ),(bA bZ),⟨rfl,rfl,rfl,rfl,zn _⟩,⟨rfl,rfl,rfl,rfl,zn _⟩,trivial⟩ ⟨⟨1000000,rfl⟩,⟨1000001,rfl⟩,⟨1000002,rfl⟩,⟨1000003,rfl⟩,⟨1000004,rfl⟩,⟨1000005,rfl⟩,⟨1000006,rfl⟩,⟨1000007,rfl⟩,⟨1000008,rfl⟩,trivial⟩ ⟨_,rfl,cr⟩
  |false=>
   rw[if_neg (by rw[hu];simp)]at hr
   subst hr
   refine zt ?_
   refine zy ?_
   refine Vapp.mk' (j:=(B++[(nd h j:Int)]).length) (zs:=(B++[(nd h j:Int)]).map I) (by simp only[maxLen];omega) (by simp;omega) (by simp) (by rw[List.map_append];rfl) ?_
   rw[List.append_nil,Bool.and_true]
   exact zaw (.inr rfl) [(0,0),(1,1),(2,2),(3,3),(4,4),(5,5),(6,6),(7,7),(8,8),(9,9),(10,13)] [] [] rfl ⟨⟨rfl,rfl⟩,⟨rfl,rfl⟩,⟨rfl,rfl⟩,⟨rfl,rfl⟩,⟨rfl,rfl⟩,⟨rfl,rfl⟩,⟨rfl,rfl⟩,⟨rfl,rfl⟩,⟨rfl,rfl⟩,trivial⟩ ⟨(bA bZ),(bA bZ),(bA bZ),(bA bZ),⟨_,_,rfl,rfl,rfl⟩,⟨_,_,rfl,rfl,rfl⟩,(bA bZ),(bA bZ),(bA bZ),⟨rfl,rfl,rfl,rfl,zn _⟩,⟨rfl,rfl,rfl,rfl,zn _⟩,trivial⟩ ⟨⟨1000000,rfl⟩,⟨1000001,rfl⟩,⟨1000002,rfl⟩,⟨1000003,rfl⟩,⟨1000004,rfl⟩,⟨1000005,rfl⟩,⟨1000006,rfl⟩,⟨1000007,rfl⟩,⟨1000008,rfl⟩,trivial⟩ ⟨_,rfl,cr⟩
 ·refine zw (by simp only[zb];omega) ?_
  refine zt ?_
  refine ze (zr1 late (nd h j) (by omega) hd) ?_
  cases hu:late.any (λu=>za2 (2*u) (nd h j))with
  |true=>
   rw[if_pos hu]at hr
   subst hr
   refine zq ?_
   refine zj [(0,0),(1,1),(2,2),(3,3),(4,4),(5,5),(6,6),(7,7),(8,8),(9,9),(10,10)] [0,1,2,3,4,5,6,7,8] (λvs hv=>za9 (by simp only[List.map];rw[hv 0 0 1000000 _ rfl rfl,hv 1 1 1000001 _ rfl rfl,hv 2 2 1000002 _ rfl rfl,hv 3 3 1000003 _ rfl rfl,hv 4 4 1000004 _ rfl rfl,hv 5 5 1000005 _ rfl rfl,hv 6 6 1000006 _ rfl rfl,hv 7 7 1000007 _ rfl rfl,hv 8 8 1000008 _ rfl rfl];rfl) (ih j 2 late A B ok (by omega) hm hl hd (by omega) (by omega))) (Handed.clo (fs:=[.r (I _), .r (I _), .r (is late)]) (cs:=[.own 3, .own 6, .own 8, .own 4]) rfl rfl ⟨_,_,rfl,cr,_,_,rfl,cr,_,_,rfl,cr,rfl⟩ ⟨_,_,rfl,⟨3,1000003,rfl,rfl⟩,_,_,rfl,⟨6,1000006,rfl,rfl⟩,_,_,rfl,⟨8,1000008,rfl,rfl⟩,_,_,rfl,⟨4,1000004,rfl,rfl⟩,rfl⟩) rfl ⟨(bA bZ),(bA bZ),(bA bZ),(bA bZ),⟨_,_,rfl,rfl,rfl⟩,⟨_,_,rfl,rfl,rfl⟩,(bA bZ),(bA bZ),(bA bZ),⟨rfl,rfl,rfl,rfl,zn _⟩,⟨rfl,rfl,rfl,rfl,zn _⟩,trivial⟩ ⟨zad,zad,zad,zad,zad,zad,zad,zad,zad,zaq,zaq,trivial⟩ ?_
   exact zaw (.inr rfl) [(0,0),(1,1),(2,2),(3,3),(4,4),(5,5),(6,6),(7,7),(8,8),(9,21),(10,22)] [] [] rfl ⟨⟨rfl,rfl⟩,⟨rfl,rfl⟩,⟨rfl,rfl⟩,⟨rfl,rfl⟩,⟨rfl,rfl⟩,⟨rfl,rfl⟩,⟨rfl,rfl⟩,⟨rfl,rfl⟩,⟨rfl,rfl⟩,trivial⟩ ⟨(bA bZ),(bA bZ),(bA bZ),(bA bZ),⟨_,_,rfl,rfl,rfl⟩,⟨_,_,rfl,rfl,rfl⟩,(bA bZ),(bA bZ),(bA bZ),⟨rfl,rfl,rfl,rfl,zn _⟩,⟨rfl,rfl,rfl,rfl,zn _⟩,trivial⟩ ⟨⟨1000000,rfl⟩,⟨1000001,rfl⟩,⟨1000002,rfl⟩,⟨1000003,rfl⟩,⟨1000004,rfl⟩,⟨1000005,rfl⟩,⟨1000006,rfl⟩,⟨1000007,rfl⟩,⟨1000008,rfl⟩,trivial⟩ ⟨_,rfl,cr⟩
  |false=>
   rw[if_neg (by rw[hu];simp)]at hr
   subst hr
   refine zt ?_
   refine zy ?_
   refine Vapp.mk' (j:=(B++[(nd h j:Int)]).length) (zs:=(B++[(nd h j:Int)]).map I) (by simp only[maxLen];omega) (by simp;omega) (by simp) (by rw[List.map_append];rfl) ?_
   rw[List.append_nil,Bool.and_true]
   exact zaw (.inr rfl) [(0,0),(1,1),(2,2),(3,3),(4,4),(5,5),(6,6),(7,7),(8,8),(9,9),(10,13)] [] [] rfl ⟨⟨rfl,rfl⟩,⟨rfl,rfl⟩,⟨rfl,rfl⟩,⟨rfl,rfl⟩,⟨rfl,rfl⟩,⟨rfl,rfl⟩,⟨rfl,rfl⟩,⟨rfl,rfl⟩,⟨rfl,rfl⟩,trivial⟩ ⟨(bA bZ),(bA bZ),(bA bZ),(bA bZ),⟨_,_,rfl,rfl,rfl⟩,⟨_,_,rfl,rfl,rfl⟩,(bA bZ),(bA bZ),(bA bZ),⟨rfl,rfl,rfl,rfl,zn _⟩,⟨rfl,rfl,rfl,rfl,zn _⟩,trivial⟩ ⟨⟨1000000,rfl⟩,⟨1000001,rfl⟩,⟨1000002,rfl⟩,⟨1000003,rfl⟩,⟨1000004,rfl⟩,⟨1000005,rfl⟩,⟨1000006,rfl⟩,⟨1000007,rfl⟩,⟨1000008,rfl⟩,trivial⟩ ⟨_,rfl,cr⟩
set_option maxHeartbeats 4000000 in
theorem VT.visit_zero(c:VT)(hO: ∀x n,zaf c.sp x=some n->n.par.late.length<=100000000/\∀u∈n.par.late,za6 u)(hi0:0<=c.i/\c.i<65536)(k how:Nat)(late A B:List Int)(ok:Bool)(hk:k<2^(16-0))(hm:(k+1)*2^(0+1)<=c.t.length+1)(hl:late.length<=100000000)(hd: ∀u∈late,za6 u)(hA:A.length+2^(0+1)<=1000000)(hB:B.length+2^(0+1)<=1000000)(r:V3)
  (hr:r=visV c.sp c.i c.only 0 k how late):
  Acts bP 161 11 (c.mem A B ok) [.r (I (nd 0 k)), .r (I how), .r (is late), .own 3, .own 6, .own 8, .own 4] c.nms 11 (c.mem (A++r.1) (B++r.2.1) (ok&&r.2.2)) (.r (.tu [])):=by
 refine zaz (T:=Tab) mixed Tab_ok Tryz.func161 rfl (by kernel_rfl) rfl (c.same _ _ _ _ _ _) ?_
 have hx:nd 0 k<c.t.length:=by have q:=zbn 0 k;unfold inR at q;rw[Nat.add_mul]at hm;omega
 refine zj [(0,0)] [0] (λvs _=>z1g c.t (nd 0 k) (vs 0) hx) (Handed.clo (fs:=[.r (I _)]) (cs:=[.own 0]) rfl rfl ⟨_,_,rfl,cr,rfl⟩ ⟨_,_,rfl,⟨0,1000000,rfl,rfl⟩,rfl⟩) rfl ⟨(bA bZ),trivial⟩ ⟨zad,trivial⟩ ?_
 cases hn:zaf c.sp (nd 0 k:Int)with
 |none=>
  rw[show found c.sp (nd 0 k:Int)=false by unfold found;rw[hn];rfl]
  simp only[visV,hn]at hr
  refine zu rfl (zq ?_)
  have e1:A++r.1=A:=by rw[hr];simp
  have e2:B++r.2.1=B:=by rw[hr];simp
  have e3:(ok&&r.2.2)=false:=by rw[hr];simp
  rw[e1,e2,e3]
  exact zaw (.inl rfl) [(0,0),(1,1),(2,2),(3,3),(4,4),(5,5),(6,6),(7,7),(8,8),(9,9),(10,10)] [] [] rfl ⟨⟨rfl,rfl⟩,⟨rfl,rfl⟩,⟨rfl,rfl⟩,⟨rfl,rfl⟩,⟨rfl,rfl⟩,⟨rfl,rfl⟩,⟨rfl,rfl⟩,⟨rfl,rfl⟩,⟨rfl,rfl⟩,trivial⟩ ⟨(bA bZ),(bA bZ),(bA bZ),(bA bZ),⟨_,_,rfl,rfl,rfl⟩,⟨_,_,rfl,rfl,rfl⟩,(bA bZ),(bA bZ),(bA bZ),⟨rfl,rfl,rfl,rfl,zn _⟩,⟨rfl,rfl,rfl,rfl,zn _⟩,trivial⟩ ⟨⟨1000000,rfl⟩,⟨1000001,rfl⟩,⟨1000002,rfl⟩,⟨1000003,rfl⟩,⟨1000004,rfl⟩,⟨1000005,rfl⟩,⟨1000006,rfl⟩,⟨1000007,rfl⟩,⟨1000008,rfl⟩,trivial⟩ ⟨_,rfl,cr⟩
 |some n=>
  rw[show found c.sp (nd 0 k:Int)=true by unfold found;rw[hn];rfl,show zdo c.sp (nd 0 k:Int)=n by unfold zdo;rw[hn];rfl]
  simp only[visV,hn]at hr
  refine zw rfl (zt ?_)
  by_cases h1:how=1
  ·refine zu (by simp only[zb];omega) (zq ?_)
   refine⟨by decide,_,rfl,?_⟩
   refine zw (by rw[zcn];rfl) (zt ?_)
   refine zy ?_
   refine Vapp.mk' (j:=(A++[(nd 0 k:Int)]).length) (zs:=(A++[(nd 0 k:Int)]).map I) (by simp only[maxLen,bL];omega) (by simp;omega) (by rw[bL (bs:=[_])];rfl) (List.map_append (f:=I) (l₁:=A) (l₂:=[(nd 0 k:Int)])).symm ?_
   refine⟨by decide,_,rfl,?_⟩
   refine zw (by rw[zcn];rfl) (zt ?_)
   have e1:A++r.1=A++[(nd 0 k:Int)]:=by rw[hr]
   have e2:B++r.2.1=B:=by rw[hr];simp
   have e3:(ok&&r.2.2)=ok:=by rw[hr];simp
   rw[e1,e2,e3]
   exact zaw (.inr rfl) [(0,0),(1,1),(2,2),(3,3),(4,4),(5,5),(6,6),(7,7),(8,8),(9,15),(10,10)] [] [] rfl ⟨⟨rfl,rfl⟩,⟨rfl,rfl⟩,⟨rfl,rfl⟩,⟨rfl,rfl⟩,⟨rfl,rfl⟩,⟨rfl,rfl⟩,⟨rfl,rfl⟩,⟨rfl,rfl⟩,⟨rfl,rfl⟩,trivial⟩ ⟨(bA bZ),(bA bZ),(bA bZ),(bA bZ),⟨_,_,rfl,rfl,rfl⟩,⟨_,_,rfl,rfl,rfl⟩,(bA bZ),(bA bZ),(bA bZ),⟨rfl,rfl,rfl,rfl,zn _⟩,⟨rfl,rfl,rfl,rfl,zn _⟩,trivial⟩ ⟨⟨1000000,rfl⟩,⟨1000001,rfl⟩,⟨1000002,rfl⟩,⟨1000003,rfl⟩,⟨1000004,rfl⟩,⟨1000005,rfl⟩,⟨1000006,rfl⟩,⟨1000007,rfl⟩,⟨1000008,rfl⟩,trivial⟩ ⟨_,rfl,cr⟩
  ·refine zw (by simp only[zb];omega) (zt ?_)
   refine⟨by decide,_,rfl,?_⟩
   refine zw (by rw[zcn];rfl) (zt ?_)
   refine zy ?_
   refine Vapp.mk' (j:=(A++[(nd 0 k:Int)]).length) (zs:=(A++[(nd 0 k:Int)]).map I) (by simp only[maxLen,bL];omega) (by simp;omega) (by rw[bL (bs:=[_])];rfl) (List.map_append (f:=I) (l₁:=A) (l₂:=[(nd 0 k:Int)])).symm ?_
   refine⟨by decide,_,rfl,?_⟩
   refine zw (by rw[zcn];rfl) (zt ?_)
   have e1:A++r.1=A++[(nd 0 k:Int)]:=by rw[hr]
   have e2:B++r.2.1=B:=by rw[hr];simp
   have e3:(ok&&r.2.2)=ok:=by rw[hr];simp
   rw[e1,e2,e3]
   exact zaw (.inr rfl) [(0,0),(1,1),(2,2),(3,3),(4,4),(5,5),(6,6),(7,7),(8,8),(9,15),(10,10)] [] [] rfl ⟨⟨rfl,rfl⟩,⟨rfl,rfl⟩,⟨rfl,rfl⟩,⟨rfl,rfl⟩,⟨rfl,rfl⟩,⟨rfl,rfl⟩,⟨rfl,rfl⟩,⟨rfl,rfl⟩,⟨rfl,rfl⟩,trivial⟩ ⟨(bA bZ),(bA bZ),(bA bZ),(bA bZ),⟨_,_,rfl,rfl,rfl⟩,⟨_,_,rfl,rfl,rfl⟩,(bA bZ),(bA bZ),(bA bZ),⟨rfl,rfl,rfl,rfl,zn _⟩,⟨rfl,rfl,rfl,rfl,zn _⟩,trivial⟩ ⟨⟨1000000,rfl⟩,⟨1000001,rfl⟩,⟨1000002,rfl⟩,⟨1000003,rfl⟩,⟨1000004,rfl⟩,⟨1000005,rfl⟩,⟨1000006,rfl⟩,⟨1000007,rfl⟩,⟨1000008,rfl⟩,trivial⟩ ⟨_,rfl,cr⟩
set_option maxHeartbeats 4000000 in
theorem VT.visit_up(c:VT)(hO: ∀x n,zaf c.sp x=some n->n.par.late.length<=100000000/\∀u∈n.par.late,za6 u)(hi0:0<=c.i/\c.i<65536)(h:Nat)(hh:h+1<=16)(ih:c.Vis h)(k how:Nat)(late A B:List Int)(ok:Bool)(hk:k<2^(16-(h+1)))(hm:(k+1)*2^(h+1+1)<=c.t.length+1)(hl:late.length<=100000000)(hd: ∀u∈late,za6 u)(hA:A.length+2^((h+1)+1)<=1000000)(hB:B.length+2^((h+1)+1)<=1000000)(r:V3)
  (hr:r=visV c.sp c.i c.only (h+1) k how late):
  Acts bP 161 11 (c.mem A B ok) [.r (I (nd (h+1) k)), .r (I how), .r (is late), .own 3, .own 6, .own 8, .own 4] c.nms 11 (c.mem (A++r.1) (B++r.2.1) (ok&&r.2.2)) (.r (.tu [])):=by
 refine zaz (T:=Tab) mixed Tab_ok Tryz.func161 rfl (by kernel_rfl) rfl (c.same _ _ _ _ _ _) ?_
 have hleft:=zd4 (d:=16) (by omega) (show h+1<=16 by omega) hk
 have hright:=zdn (d:=16) (by omega) (show h+1<=16 by omega) hk
 have hk2:2^(16-h)=2*2^(16-(h+1)):=by rw[show 16-h=(16-(h+1))+1 by omega,Nat.pow_succ];omega
 have hp:2<=2^(h+1):=by rw[Nat.pow_succ];have:0<2^h:=Nat.pow_pos (by omega);omega
 have hp2:2^(h+1+1)=2*2^(h+1):=by rw[Nat.pow_succ 2 (h+1)];omega
 have hx:nd (h+1) k<c.t.length:=by have q:=zbn (h+1) k;unfold inR at q;rw[Nat.add_mul]at hm;omega
 have hme:(k+1)*(2*2^(h+1))=(2*k+1)*2^(h+1)+2^(h+1):=by rw[Nat.mul_left_comm,Nat.add_mul,Nat.add_mul,Nat.mul_assoc];omega
 have hm1:(2*k+1)*2^(h+1)<=c.t.length+1:=by rw[hp2,hme]at hm;omega
 have hm2:(2*k+1+1)*2^(h+1)<=c.t.length+1:=by rw[hp2,hme]at hm;rw[Nat.add_mul (2*k+1)];omega
 refine zj [(0,0)] [0] (λvs _=>z1g c.t (nd (h+1) k) (vs 0) hx) (Handed.clo (fs:=[.r (I _)]) (cs:=[.own 0]) rfl rfl ⟨_,_,rfl,cr,rfl⟩ ⟨_,_,rfl,⟨0,1000000,rfl,rfl⟩,rfl⟩) rfl ⟨(bA bZ),trivial⟩ ⟨zad,trivial⟩ ?_
 cases hn:zaf c.sp (nd (h+1) k:Int)with
 |none=>
  rw[show found c.sp (nd (h+1) k:Int)=false by unfold found;rw[hn];rfl]
  simp only[visV,hn]at hr
  refine zu rfl (zq ?_)
  have e1:A++r.1=A:=by rw[hr];simp
  have e2:B++r.2.1=B:=by rw[hr];simp
  have e3:(ok&&r.2.2)=false:=by rw[hr];simp
  rw[e1,e2,e3]
  exact zaw (.inl rfl) [(0,0),(1,1),(2,2),(3,3),(4,4),(5,5),(6,6),(7,7),(8,8),(9,9),(10,10)] [] [] rfl ⟨⟨rfl,rfl⟩,⟨rfl,rfl⟩,⟨rfl,rfl⟩,⟨rfl,rfl⟩,⟨rfl,rfl⟩,⟨rfl,rfl⟩,⟨rfl,rfl⟩,⟨rfl,rfl⟩,⟨rfl,rfl⟩,trivial⟩ ⟨(bA bZ),(bA bZ),(bA bZ),(bA bZ),⟨_,_,rfl,rfl,rfl⟩,⟨_,_,rfl,rfl,rfl⟩,(bA bZ),(bA bZ),(bA bZ),⟨rfl,rfl,rfl,rfl,zn _⟩,⟨rfl,rfl,rfl,rfl,zn _⟩,trivial⟩ ⟨⟨1000000,rfl⟩,⟨1000001,rfl⟩,⟨1000002,rfl⟩,⟨1000003,rfl⟩,⟨1000004,rfl⟩,⟨1000005,rfl⟩,⟨1000006,rfl⟩,⟨1000007,rfl⟩,⟨1000008,rfl⟩,trivial⟩ ⟨_,rfl,cr⟩
 |some n=>
  rw[show found c.sp (nd (h+1) k:Int)=true by unfold found;rw[hn];rfl,show zdo c.sp (nd (h+1) k:Int)=n by unfold zdo;rw[hn];rfl]
  simp only[visV,hn]at hr
  refine zw rfl (zt ?_)
  obtain⟨hnl,hnd⟩:=hO _ n hn
  by_cases h1:how=1
  ·rw[if_pos h1]at hr
   refine zu (by simp only[zb];omega) (zq ?_)
   refine⟨by decide,_,rfl,?_⟩
   refine zu (by rw[zc4];rfl) (zq ?_)
   obtain⟨ra,hra⟩: ∃ra,ra=kidV (λj w l=>visV c.sp c.i c.only h j w l) c.i c.only h how n n.par.late (2*k):=⟨_,rfl⟩
   obtain⟨rb,hrb⟩: ∃rb,rb=kidV (λj w l=>visV c.sp c.i c.only h j w l) c.i c.only h how n n.par.late (2*k+1):=⟨_,rfl⟩
   have la:=zhq (b:=2^(h+1)-1) (by omega) (λj w l=>zfk c.sp c.i c.only h j w l) c.i c.only h how n n.par.late (2*k)
   rw[<-hra]at la
   refine Vdraw.cut 6 (by kernel_rfl) ?_
   refine ze (zk2 _) ?_
   rw[hleft]
   refine za rfl rfl ?_
   refine zj [(0,0),(1,1),(2,2),(3,3),(4,4),(5,5),(6,6),(7,7),(8,8),(9,9),(10,10)] [0,1,2,3,4,5,6,7,8] (λvs hv=>za9 (by simp only[List.map];rw[hv 0 0 1000000 _ rfl rfl,hv 1 1 1000001 _ rfl rfl,hv 2 2 1000002 _ rfl rfl,hv 3 3 1000003 _ rfl rfl,hv 4 4 1000004 _ rfl rfl,hv 5 5 1000005 _ rfl rfl,hv 6 6 1000006 _ rfl rfl,hv 7 7 1000007 _ rfl rfl,hv 8 8 1000008 _ rfl rfl];rfl) (c.child hi0 h (by omega) ih (2*k) how n n.par.late A B ok (by omega) hm1 hnl hnd (by first|omega|(simp only[bL,List.length_cons,List.length_nil];omega)) (by first|omega|(simp only[bL];omega)) _ rfl)) (Handed.clo (fs:=[.r (I _), .r (I _), .r (.ag n.c), .r (is n.par.late)]) (cs:=[.own 1, .own 7, .own 2, .own 5]) rfl rfl ⟨_,_,rfl,cr,_,_,rfl,cr,_,_,rfl,cr,_,_,rfl,cr,rfl⟩ ⟨_,_,rfl,⟨1,1000001,rfl,rfl⟩,_,_,rfl,⟨7,1000007,rfl,rfl⟩,_,_,rfl,⟨2,1000002,rfl,rfl⟩,_,_,rfl,⟨5,1000005,rfl,rfl⟩,rfl⟩) rfl ⟨(bA bZ),(bA bZ),(bA bZ),(bA bZ),⟨_,_,rfl,rfl,rfl⟩,⟨_,_,rfl,rfl,rfl⟩,(bA bZ),(bA bZ),(bA bZ),⟨rfl,rfl,rfl,rfl,zn _⟩,⟨rfl,rfl,rfl,rfl,zn _⟩,trivial⟩ ⟨zad,zad,zad,zad,zad,zad,zad,zad,zad,zaq,zaq,trivial⟩ ?_
   rw[<-hra]
   refine zy ?_
   refine Vapp.mk' (j:=((A++ra.1)++[(nd (h+1) k:Int)]).length) (zs:=((A++ra.1)++[(nd (h+1) k:Int)]).map I) (by simp only[maxLen,bL];omega) (by simp;omega) (by rw[bL (bs:=[_])];rfl) (List.map_append (f:=I) (l₁:=(A++ra.1)) (l₂:=[(nd (h+1) k:Int)])).symm ?_
   refine⟨by decide,_,rfl,?_⟩
   refine zu (by rw[zc4];rfl) (zq ?_)
   refine Vdraw.cut 6 (by kernel_rfl) ?_
   refine ze (zjj _) ?_
   rw[hright]
   refine za rfl rfl ?_
   refine zj [(0,0),(1,1),(2,2),(3,3),(4,4),(5,5),(6,6),(7,7),(8,8),(9,26),(10,24)] [0,1,2,3,4,5,6,7,8] (λvs hv=>za9 (by simp only[List.map];rw[hv 0 0 1000000 _ rfl rfl,hv 1 1 1000001 _ rfl rfl,hv 2 2 1000002 _ rfl rfl,hv 3 3 1000003 _ rfl rfl,hv 4 4 1000004 _ rfl rfl,hv 5 5 1000005 _ rfl rfl,hv 6 6 1000006 _ rfl rfl,hv 7 7 1000007 _ rfl rfl,hv 8 8 1000008 _ rfl rfl];rfl) (c.child hi0 h (by omega) ih (2*k+1) how n n.par.late (A++ra.1++[(nd (h+1) k:Int)]) (B++ra.2.1) (ok&&ra.2.2) (by omega) hm2 hnl hnd (by first|omega|(simp only[bL,List.length_cons,List.length_nil];omega)) (by first|omega|(simp only[bL];omega)) _ rfl)) (Handed.clo (fs:=[.r (I _), .r (I _), .r (.ag n.c), .r (is n.par.late)]) (cs:=[.own 1, .own 7, .own 2, .own 5]) rfl rfl ⟨_,_,rfl,cr,_,_,rfl,cr,_,_,rfl,cr,_,_,rfl,cr,rfl⟩ ⟨_,_,rfl,⟨1,1000001,rfl,rfl⟩,_,_,rfl,⟨7,1000007,rfl,rfl⟩,_,_,rfl,⟨2,1000002,rfl,rfl⟩,_,_,rfl,⟨5,1000005,rfl,rfl⟩,rfl⟩) rfl ⟨(bA bZ),(bA bZ),(bA bZ),(bA bZ),⟨_,_,rfl,rfl,rfl⟩,⟨_,_,rfl,rfl,rfl⟩,(bA bZ),(bA bZ),(bA bZ),⟨rfl,rfl,rfl,rfl,zn _⟩,⟨rfl,rfl,rfl,rfl,zn _⟩,trivial⟩ ⟨zad,zad,zad,zad,zad,zad,zad,zad,zad,zaq,zaq,trivial⟩ ?_
   rw[<-hrb]
   have e1:A++r.1=A++ra.1++[(nd (h+1) k:Int)]++rb.1:=by rw[hr,hra,hrb];simp only[List.append_assoc]
   have e2:B++r.2.1=B++ra.2.1++rb.2.1:=by rw[hr,hra,hrb];simp only[List.append_assoc]
   have e3:(ok&&r.2.2)=((ok&&ra.2.2)&&rb.2.2):=by rw[hr,hra,hrb];simp only[Bool.and_assoc]
   rw[e1,e2,e3]
   exact zaw (.inr rfl) [(0,0),(1,1),(2,2),(3,3),(4,4),(5,5),(6,6),(7,7),(8,8),(9,36),(10,37)] [] [] rfl ⟨⟨rfl,rfl⟩,⟨rfl,rfl⟩,⟨rfl,rfl⟩,⟨rfl,rfl⟩,⟨rfl,rfl⟩,⟨rfl,rfl⟩,⟨rfl,rfl⟩,⟨rfl,rfl⟩,⟨rfl,rfl⟩,trivial⟩ ⟨(bA bZ),(bA bZ),(bA bZ),(bA bZ),⟨_,_,rfl,rfl,rfl⟩,⟨_,_,rfl,rfl,rfl⟩,(bA bZ),(bA bZ),(bA bZ),⟨rfl,rfl,rfl,rfl,zn _⟩,⟨rfl,rfl,rfl,rfl,zn _⟩,trivial⟩ ⟨⟨1000000,rfl⟩,⟨1000001,rfl⟩,⟨1000002,rfl⟩,⟨1000003,rfl⟩,⟨1000004,rfl⟩,⟨1000005,rfl⟩,⟨1000006,rfl⟩,⟨1000007,rfl⟩,⟨1000008,rfl⟩,trivial⟩ ⟨_,rfl,cr⟩
  ·rw[if_neg h1]at hr
   refine zw (by simp only[zb];omega) (zt ?_)
   refine⟨by decide,_,rfl,?_⟩
   refine zu (by rw[zc4];rfl) (zq ?_)
   obtain⟨ra,hra⟩: ∃ra,ra=kidV (λj w l=>visV c.sp c.i c.only h j w l) c.i c.only h how n late (2*k):=⟨_,rfl⟩
   obtain⟨rb,hrb⟩: ∃rb,rb=kidV (λj w l=>visV c.sp c.i c.only h j w l) c.i c.only h how n late (2*k+1):=⟨_,rfl⟩
   have la:=zhq (b:=2^(h+1)-1) (by omega) (λj w l=>zfk c.sp c.i c.only h j w l) c.i c.only h how n late (2*k)
   rw[<-hra]at la
   refine Vdraw.cut 6 (by kernel_rfl) ?_
   refine ze (zk2 _) ?_
   rw[hleft]
   refine za rfl rfl ?_
   refine zj [(0,0),(1,1),(2,2),(3,3),(4,4),(5,5),(6,6),(7,7),(8,8),(9,9),(10,10)] [0,1,2,3,4,5,6,7,8] (λvs hv=>za9 (by simp only[List.map];rw[hv 0 0 1000000 _ rfl rfl,hv 1 1 1000001 _ rfl rfl,hv 2 2 1000002 _ rfl rfl,hv 3 3 1000003 _ rfl rfl,hv 4 4 1000004 _ rfl rfl,hv 5 5 1000005 _ rfl rfl,hv 6 6 1000006 _ rfl rfl,hv 7 7 1000007 _ rfl rfl,hv 8 8 1000008 _ rfl rfl];rfl) (c.child hi0 h (by omega) ih (2*k) how n late A B ok (by omega) hm1 hl hd (by first|omega|(simp only[bL,List.length_cons,List.length_nil];omega)) (by first|omega|(simp only[bL];omega)) _ rfl)) (Handed.clo (fs:=[.r (I _), .r (I _), .r (.ag n.c), .r (is late)]) (cs:=[.own 1, .own 7, .own 2, .own 5]) rfl rfl ⟨_,_,rfl,cr,_,_,rfl,cr,_,_,rfl,cr,_,_,rfl,cr,rfl⟩ ⟨_,_,rfl,⟨1,1000001,rfl,rfl⟩,_,_,rfl,⟨7,1000007,rfl,rfl⟩,_,_,rfl,⟨2,1000002,rfl,rfl⟩,_,_,rfl,⟨5,1000005,rfl,rfl⟩,rfl⟩) rfl ⟨(bA bZ),(bA bZ),(bA bZ),(bA bZ),⟨_,_,rfl,rfl,rfl⟩,⟨_,_,rfl,rfl,rfl⟩,(bA bZ),(bA bZ),(bA bZ),⟨rfl,rfl,rfl,rfl,zn _⟩,⟨rfl,rfl,rfl,rfl,zn _⟩,trivial⟩ ⟨zad,zad,zad,zad,zad,zad,zad,zad,zad,zaq,zaq,trivial⟩ ?_
   rw[<-hra]
   refine zy ?_
   refine Vapp.mk' (j:=((A++ra.1)++[(nd (h+1) k:Int)]).length) (zs:=((A++ra.1)++[(nd (h+1) k:Int)]).map I) (by simp only[maxLen,bL];omega) (by simp;omega) (by rw[bL (bs:=[_])];rfl) (List.map_append (f:=I) (l₁:=(A++ra.1)) (l₂:=[(nd (h+1) k:Int)])).symm ?_
   refine⟨by decide,_,rfl,?_⟩
   refine zu (by rw[zc4];rfl) (zq ?_)
   refine Vdraw.cut 6 (by kernel_rfl) ?_
   refine ze (zjj _) ?_
   rw[hright]
   refine za rfl rfl ?_
   refine zj [(0,0),(1,1),(2,2),(3,3),(4,4),(5,5),(6,6),(7,7),(8,8),(9,26),(10,24)] [0,1,2,3,4,5,6,7,8] (λvs hv=>za9 (by simp only[List.map];rw[hv 0 0 1000000 _ rfl rfl,hv 1 1 1000001 _ rfl rfl,hv 2 2 1000002 _ rfl rfl,hv 3 3 1000003 _ rfl rfl,hv 4 4 1000004 _ rfl rfl,hv 5 5 1000005 _ rfl rfl,hv 6 6 1000006 _ rfl rfl,hv 7 7 1000007 _ rfl rfl,hv 8 8 1000008 _ rfl rfl];rfl) (c.child hi0 h (by omega) ih (2*k+1) how n late (A++ra.1++[(nd (h+1) k:Int)]) (B++ra.2.1) (ok&&ra.2.2) (by omega) hm2 hl hd (by first|omega|(simp only[bL,List.length_cons,List.length_nil];omega)) (by first|omega|(simp only[bL];omega)) _ rfl)) (Handed.clo (fs:=[.r (I _), .r (I _), .r (.ag n.c), .r (is late)]) (cs:=[.own 1, .own 7, .own 2, .own 5]) rfl rfl ⟨_,_,rfl,cr,_,_,rfl,cr,_,_,rfl,cr,_,_,rfl,cr,rfl⟩ ⟨_,_,rfl,⟨1,1000001,rfl,rfl⟩,_,_,rfl,⟨7,1000007,rfl,rfl⟩,_,_,rfl,⟨2,1000002,rfl,rfl⟩,_,_,rfl,⟨5,1000005,rfl,rfl⟩,rfl⟩) rfl ⟨(bA bZ),(bA bZ),(bA bZ),(bA bZ),⟨_,_,rfl,rfl,rfl⟩,⟨_,_,rfl,rfl,rfl⟩,(bA bZ),(bA bZ),(bA bZ),⟨rfl,rfl,rfl,rfl,zn _⟩,⟨rfl,rfl,rfl,rfl,zn _⟩,trivial⟩ ⟨zad,zad,zad,zad,zad,zad,zad,zad,zad,zaq,zaq,trivial⟩ ?_
   rw[<-hrb]
   have e1:A++r.1=A++ra.1++[(nd (h+1) k:Int)]++rb.1:=by rw[hr,hra,hrb];simp only[List.append_assoc]
   have e2:B++r.2.1=B++ra.2.1++rb.2.1:=by rw[hr,hra,hrb];simp only[List.append_assoc]
   have e3:(ok&&r.2.2)=((ok&&ra.2.2)&&rb.2.2):=by rw[hr,hra,hrb];simp only[Bool.and_assoc]
   rw[e1,e2,e3]
   exact zaw (.inr rfl) [(0,0),(1,1),(2,2),(3,3),(4,4),(5,5),(6,6),(7,7),(8,8),(9,36),(10,37)] [] [] rfl ⟨⟨rfl,rfl⟩,⟨rfl,rfl⟩,⟨rfl,rfl⟩,⟨rfl,rfl⟩,⟨rfl,rfl⟩,⟨rfl,rfl⟩,⟨rfl,rfl⟩,⟨rfl,rfl⟩,⟨rfl,rfl⟩,trivial⟩ ⟨(bA bZ),(bA bZ),(bA bZ),(bA bZ),⟨_,_,rfl,rfl,rfl⟩,⟨_,_,rfl,rfl,rfl⟩,(bA bZ),(bA bZ),(bA bZ),⟨rfl,rfl,rfl,rfl,zn _⟩,⟨rfl,rfl,rfl,rfl,zn _⟩,trivial⟩ ⟨⟨1000000,rfl⟩,⟨1000001,rfl⟩,⟨1000002,rfl⟩,⟨1000003,rfl⟩,⟨1000004,rfl⟩,⟨1000005,rfl⟩,⟨1000006,rfl⟩,⟨1000007,rfl⟩,⟨1000008,rfl⟩,trivial⟩ ⟨_,rfl,cr⟩
theorem VT.visit(c:VT)(hO: ∀x n,zaf c.sp x=some n->n.par.late.length<=100000000/\∀u∈n.par.late,za6 u)(hi0:0<=c.i/\c.i<65536): ∀h,h<=16->c.Vis h
 |0,_=>λk how late A B ok hk hm hl hd hA hB=>c.visit_zero hO hi0 k how late A B ok hk hm hl hd hA hB _ rfl
 |h+1,hh=>λk how late A B ok hk hm hl hd hA hB=>c.visit_up hO hi0 h hh (c.visit hO hi0 h (by omega)) k how late A B ok hk hm hl hd hA hB _ rfl
set_option maxHeartbeats 4000000 in
theorem zavb(t:List Node)(p0:Value)(hO: ∀x n,zaf (zan t t.length) x=some n->n.par.late.length<=100000000/\∀u∈n.par.late,za6 u)(d:Nat)(hd:d<=16)(hm:2^(d+1)<=t.length+1)(n i:Int)(hn:n=((2^d:Nat):Int))(hi0:0<=i/\i<65536)(only:Bool)(r:V3)(hr:r=visV (zan t t.length) i only d 0 0 []):
  Acts bP 111 1 [(0, .box [.r (nods t)])] [.r (I n), .r (I i), .r (.b only), .r (.x (.func (.func 112) #[] #[p0]))] [(0,p0)] 11 [(0, .box [.r (nods t)])] (.r (.tu [is r.1,is r.2.1, .b r.2.2])):=by
 refine zaz (T:=Tab) mixed Tab_ok Tryz.func111 rfl (by kernel_rfl) rfl ⟨⟨_,_,rfl,rfl,zai,zai⟩,trivial⟩ ?_
 have hroot:zi8 n=(nd d 0:Int):=by
  have hfit:zck n=true:=by rw[hn];exact zce d hd
  unfold zi8
  rw[if_pos hfit,zhu,hn]
 have hp:2^(d+1)<=131072:=Nat.pow_le_pow_right (n:=2) (by omega) (show d+1<=17 by omega)
 refine Vstep.nm 1 1000001 rfl λp1=>Vstep.nm 7 1000007 rfl λp7=>Vstep.nm 2 1000002 rfl λp2=>Vstep.nm 5 1000005 rfl λp5=>Vstep.mkfunX [p1,p7,p2,p5] rfl ⟨_,_,rfl,⟨1,1000001,rfl,rfl⟩,_,_,rfl,⟨7,1000007,rfl,rfl⟩,_,_,rfl,⟨2,1000002,rfl,rfl⟩,_,_,rfl,⟨5,1000005,rfl,rfl⟩,rfl⟩ ?_
 refine Vstep.nm 3 1000003 rfl λp3=>Vstep.nm 6 1000006 rfl λp6=>Vstep.nm 8 1000008 rfl λp8=>Vstep.nm 4 1000004 rfl λp4=>Vstep.mkfunX [p3,p6,p8,p4] rfl ⟨_,_,rfl,⟨3,1000003,rfl,rfl⟩,_,_,rfl,⟨6,1000006,rfl,rfl⟩,_,_,rfl,⟨8,1000008,rfl,rfl⟩,_,_,rfl,⟨4,1000004,rfl,rfl⟩,rfl⟩ ?_
 obtain⟨c,hc⟩: ∃c:VT,c=⟨t,i,only,p0,p1,p2,p3,p4,p5,p6,p7,p8⟩:=⟨_,rfl⟩
 refine Vdraw.cut 3 (by kernel_rfl) ?_
 refine ze (znl n) ?_
 rw[hroot]
 have hvis:=(VT.visit ⟨t,i,only,p0,p1,p2,p3,p4,p5,p6,p7,p8⟩ hO hi0 d hd) 0 0 [] [] [] true (Nat.pow_pos (by omega)) (by rw[Nat.zero_add,Nat.one_mul];exact hm) (by simp) (by simp) (by simp only[List.length_nil];omega) (by simp only[List.length_nil];omega)
 simp only at hvis
 rw[<-hr,List.nil_append,List.nil_append,Bool.true_and]at hvis
 refine Vstep.sub (Sub.trans (zb1 false 4 0 3 1 rfl rfl) (zb1 false 5 0 3 1 rfl rfl)) ?_
 refine zj [(0,0),(1,1),(2,2),(3,3),(4,4),(5,5),(6,6),(7,7),(8,8),(9,9),(10,10)] [0,1,2,3,4,5,6,7,8] (λvs hv=>za9 (by simp only[List.map];rw[hv 0 0 1000000 _ rfl rfl,hv 1 1 1000001 _ rfl rfl,hv 2 2 1000002 _ rfl rfl,hv 3 3 1000003 _ rfl rfl,hv 4 4 1000004 _ rfl rfl,hv 5 5 1000005 _ rfl rfl,hv 6 6 1000006 _ rfl rfl,hv 7 7 1000007 _ rfl rfl,hv 8 8 1000008 _ rfl rfl];rfl) hvis) (Handed.clo (fs:=[.r (I _), .r (I _), .r (is [])]) (cs:=[.own 3, .own 6, .own 8, .own 4]) rfl rfl ⟨_,_,rfl,cr,_,_,rfl,cr,_,_,rfl,Cv.nil 1,rfl⟩ ⟨_,_,rfl,⟨3,1000003,rfl,rfl⟩,_,_,rfl,⟨6,1000006,rfl,rfl⟩,_,_,rfl,⟨8,1000008,rfl,rfl⟩,_,_,rfl,⟨4,1000004,rfl,rfl⟩,rfl⟩) rfl ⟨(bA bZ),(bA bZ),(bA bZ),(bA bZ),⟨_,_,rfl,rfl,rfl⟩,⟨_,_,rfl,rfl,rfl⟩,(bA bZ),(bA bZ),(bA bZ),⟨rfl,rfl,rfl,rfl,zn _⟩,⟨rfl,rfl,rfl,rfl,zn _⟩,trivial⟩ ⟨zad,zad,zad,zad,zad,zad,zad,zad,zad,zaq,zaq,trivial⟩ ?_
 refine Vdraw.code (Vcode.float mixed Tab_ok 5 [⟨0,19, .own 9,[]⟩,⟨1,20, .own 10,[]⟩,⟨2,21, .r (.b r.2.2),[]⟩] [(3,[0]),(4,[1])] (by kernel_rfl) (F:=[(8, .own 4),(9, .own 5),(10, .own 6),(1000000, .nm 0 p0)]) (O:=[(0,some (.box [.r (nods t)])),(4,some (.box [.own 9])),(5,some (.box [.own 10])),(6,some (.box [.r (.b r.2.2)])),(9,some (.ch 3 1 r.1.length (r.1.map I) false)),(10,some (.ch 3 1 r.2.1.length (r.2.1.map I) false))]) (nx:=11) (zac [(0,0),(4,4),(5,5),(6,6),(9,20),(10,21)] rfl ⟨rfl,rfl,rfl,⟨rfl,rfl⟩,trivial⟩ ⟨(bA bZ),⟨_,_,rfl,rfl,rfl⟩,⟨_,_,rfl,rfl,rfl⟩,(bA bZ),⟨rfl,rfl,rfl,rfl,zn _⟩,⟨rfl,rfl,rfl,rfl,zn _⟩,trivial⟩) ?_)
 refine⟨rfl,⟨λY=>zo _,λY=>zo _,λY=>zo _,trivial⟩,[(8, .own 4),(9, .own 5),(10, .own 6),(1000000, .nm 0 p0)],(4,some (.box [.own 9]))::[(0,some (.box [.r (nods t)])),(4,some (.box [.own 9])),(5,some (.box [.own 10])),(6,some (.box [.r (.b r.2.2)])),(9,some (.ch 3 1 r.1.length (r.1.map I) false)),(10,some (.ch 3 1 r.2.1.length (r.2.1.map I) false))],11,λY=>zo _,?_⟩
 refine⟨rfl,⟨λY=>zo _,λY=>zo _,λY=>zo _,trivial⟩,[(8, .own 4),(9, .own 5),(10, .own 6),(1000000, .nm 0 p0)],(5,some (.box [.own 10]))::(4,some (.box [.own 9]))::[(0,some (.box [.r (nods t)])),(4,some (.box [.own 9])),(5,some (.box [.own 10])),(6,some (.box [.r (.b r.2.2)])),(9,some (.ch 3 1 r.1.length (r.1.map I) false)),(10,some (.ch 3 1 r.2.1.length (r.2.1.map I) false))],11,λY=>zo _,?_⟩
 refine⟨rfl,⟨λY=>zo _,λY=>zo _,λY=>zo _,trivial⟩,?_⟩
 refine zto (Sub.trans (zbr (id:=9) rfl) (zbr (id:=10) rfl)) ?_
 exact zaw (.inl rfl) [(0,0),(4,4),(5,5),(6,6),(9,9),(10,10)] [(8, .own 4),(9, .own 5),(10, .own 6)] [(4,some (.box [.own 9])),(5,some (.box [.own 10])),(6,some (.box [.r (.b r.2.2)])),(9,some (.ch 3 1 r.1.length (r.1.map I) true)),(10,some (.ch 3 1 r.2.1.length (r.2.1.map I) true))] rfl ⟨rfl,rfl,rfl,⟨rfl,rfl⟩,trivial⟩ ⟨(bA bZ),⟨_,_,rfl,rfl,rfl⟩,⟨_,_,rfl,rfl,rfl⟩,(bA bZ),⟨rfl,rfl,rfl,rfl,zn _⟩,⟨rfl,rfl,rfl,rfl,zn _⟩,trivial⟩ ⟨⟨1000000,rfl⟩,trivial⟩ ⟨_,rfl,cr⟩
end Go.Proofs.YtoegdgbghdnnfaaGreat.Sx
