import Derived.Test.YtoegdgbghdnnfaaGreatZTi
namespace Go.Proofs.YtoegdgbghdnnfaaGreat.Sx
open Go.RowKit
abbrev V3:=List Int×List Int×Bool
def kidV(p:Nat->Nat->List Int->V3)(i:Int)(only:Bool)(h how:Nat)(n:Node)(late:List Int)(j:Nat):V3:=
 if how=0/\za2 (2*i) (nd h j)=true then p j 0 []
 else if how=0/\only=true then([],[(nd h j:Int)],true)
 else if how=0\/(how=1/\n.kind.toNat=0)then p j 1 []
 else if late.any (λu=>za2 (2*u) (nd h j))=true then p j 2 late
 else([],[(nd h j:Int)],true)
def visV(O:List Spot)(i:Int)(only:Bool):Nat->Nat->Nat->List Int->V3
 |0,k,_,_=>match zaf O (nd 0 k)with
  |none=>([],[],false)
  |some _=>([(nd 0 k:Int)],[],true)
 |h+1,k,how,late=>match zaf O (nd (h+1) k)with
  |none=>([],[],false)
  |some n=>
   let a:=kidV (λj w l=>visV O i only h j w l) i only h how n (if how=1 then n.par.late else late) (2*k)
   let b:=kidV (λj w l=>visV O i only h j w l) i only h how n (if how=1 then n.par.late else late) (2*k+1)
   (a.1++[(nd (h+1) k:Int)]++b.1,a.2.1++b.2.1,a.2.2&&b.2.2)
theorem zhq{p:Nat->Nat->List Int->V3}{b:Nat}(hb:1<=b)(hp: ∀j w l,(p j w l).1.length<=b/\(p j w l).2.1.length<=b)(i:Int)(only:Bool)(h how:Nat)(n:Node)(late:List Int)(j:Nat):(kidV p i only h how n late j).1.length<=b/\(kidV p i only h how n late j).2.1.length<=b:=by
 unfold kidV
 split
 ·exact hp _ _ _
 ·split
  ·exact⟨by simp,by simpa using hb⟩
  ·split
   ·exact hp _ _ _
   ·split
    ·exact hp _ _ _
    ·exact⟨by simp,by simpa using hb⟩
theorem zfk(O:List Spot)(i:Int)(only:Bool): ∀(h k how:Nat) (late:List Int),(visV O i only h k how late).1.length<=2^(h+1)-1/\(visV O i only h k how late).2.1.length<=2^(h+1)-1
 |0,k,how,late=>by
  simp only[visV]
  split<;>simp
 |h+1,k,how,late=>by
  simp only[visV]
  have hp:0<2^(h+1):=Nat.pow_pos (by omega)
  have e:2^(h+1+1)=2*2^(h+1):=by rw[Nat.pow_succ 2 (h+1)];omega
  split
  ·simp
  ·rename_i n _
   have h2:2<=2^(h+1):=by rw[Nat.pow_succ];have:0<2^h:=Nat.pow_pos (by omega);omega
   have key: ∀q:Nat->Nat->List Int->V3,(∀j w l,(q j w l).1.length<=2^(h+1)-1/\(q j w l).2.1.length<=2^(h+1)-1)->
     ((kidV q i only h how n (if how=1 then n.par.late else late) (2*k)).1++[(nd (h+1) k:Int)]++(kidV q i only h how n (if how=1 then n.par.late else late) (2*k+1)).1).length<=2^(h+1+1)-1/\
     ((kidV q i only h how n (if how=1 then n.par.late else late) (2*k)).2.1++(kidV q i only h how n (if how=1 then n.par.late else late) (2*k+1)).2.1).length<=2^(h+1+1)-1:=λq hq=>by
    have a:=zhq (b:=2^(h+1)-1) (by omega) hq i only h how n (if how=1 then n.par.late else late) (2*k)
    have b:=zhq (b:=2^(h+1)-1) (by omega) hq i only h how n (if how=1 then n.par.late else late) (2*k+1)
    simp only[bL,List.length_cons,List.length_nil]
    omega
   exact key _ λj w l=>zfk O i only h j w l
structure VC where
 leaves:Int
 own:Int
 O:List Spot
 H:List Stub
 i:Int
 only:Bool
 p0:Value
 p1:Value
 p2:Value
 p3:Value
 p4:Value
 p5:Value
 p6:Value
 p7:Value
 p8:Value
def VC.fat(c:VC):Value:= .func (.func 167) #[] #[c.p0]
def VC.vis(c:VC):Value:= .func (.func 161) #[] #[c.p3,c.p6,c.p8,c.p4]
def VC.chi(c:VC):Value:= .func (.func 158) #[] #[c.p1,c.p7,c.p2,c.p5]
def VC.mem(c:VC)(A B:List Int)(ok:Bool):List (Nat×Ow):=
 [(0,pbox c.leaves c.own c.O c.H),(1, .box [.r (I c.i)]),(2, .box [.r (.b c.only)]),(3, .box [.r (.x c.fat)]),(4, .box [.own 9]),(5, .box [.own 10]),(6, .box [.r (.b ok)]),(7, .box [.r (.x c.vis)]),(8, .box [.r (.x c.chi)]),
 (9, .ch 3 1 A.length (A.map I) false),(10, .ch 3 1 B.length (B.map I) false)]
def VC.nms(c:VC):List (Nat×Value):=[(0,c.p0),(1,c.p1),(2,c.p2),(3,c.p3),(4,c.p4),(5,c.p5),(6,c.p6),(7,c.p7),(8,c.p8)]
theorem VC.same(c:VC)(A B A' B':List Int)(ok ok':Bool):zpb (c.mem A B ok) (c.mem A' B' ok') c.nms:=
 ⟨⟨_,_,rfl,rfl,zai,zai⟩,⟨_,_,rfl,rfl,zai,zai⟩,⟨_,_,rfl,rfl,zai,zai⟩,⟨_,_,rfl,rfl,zai,zai⟩,⟨_,_,rfl,rfl,zai,zai⟩,⟨_,_,rfl,rfl,zai,zai⟩,⟨_,_,rfl,rfl,zai,zai⟩,⟨_,_,rfl,rfl,zai,zai⟩,⟨_,_,rfl,rfl,zai,zai⟩,trivial⟩
def VC.Vis(c:VC)(h:Nat):Prop:=∀(k how:Nat) (late:List Int) (A B:List Int) (ok:Bool),k<2^(16-h)->late.length<=100000000->(∀u∈late,za6 u)->A.length+2^(h+1)<=1000000->B.length+2^(h+1)<=1000000->
 Acts bP 161 11 (c.mem A B ok) [.r (I (nd h k)), .r (I how), .r (is late), .own 3, .own 6, .own 8, .own 4] c.nms 11
  (c.mem (A++(visV c.O c.i c.only h k how late).1) (B++(visV c.O c.i c.only h k how late).2.1) (ok&&(visV c.O c.i c.only h k how late).2.2)) (.r (.tu []))
set_option maxHeartbeats 4000000 in
theorem VC.child(c:VC)(hi0:0<=c.i/\c.i<65536)(h:Nat)(hh:h<=16)(ih:c.Vis h)(j how:Nat)(n:Node)(late:List Int)(A B:List Int)(ok:Bool)(hj:j<2^(16-h))(hl:late.length<=100000000)(hd: ∀u∈late,za6 u)(hA:A.length+2^(h+1)<=1000000)(hB:B.length+2^(h+1)<=1000000)(r:V3)
  (hr:r=kidV (λj w l=>visV c.O c.i c.only h j w l) c.i c.only h how n late j):
  Acts bP 158 11 (c.mem A B ok) [.r (I (nd h j)), .r (I how), .r (.ag n.c), .r (is late), .own 1, .own 7, .own 2, .own 5] c.nms 11 (c.mem (A++r.1) (B++r.2.1) (ok&&r.2.2)) (.r (.tu [])):=by
 refine zaz (T:=Tab) mixed Tab_ok Tryz.func158 rfl (by kernel_rfl) rfl (c.same _ _ _ _ _ _) ?_
 have hp:2<=2^(h+1):=by rw[Nat.pow_succ];have:0<2^h:=Nat.pow_pos (by omega);omega
 have hkc:=n.kind.toNat_lt
 unfold kidV at hr
 by_cases h0:how=0
 ·subst h0
  refine zu rfl ?_
  refine zd (m:=2*c.i) rfl (by omega) ?_
  refine ze (zk4 (2*c.i) (nd h j)) ?_
  cases hu:za2 (2*c.i) (nd h j)with
  |true=>
   rw[if_pos ⟨rfl,hu⟩]at hr
   subst hr
   refine zq ?_
   refine zj [(0,0),(1,1),(2,2),(3,3),(4,4),(5,5),(6,6),(7,7),(8,8),(9,9),(10,10)] [0,1,2,3,4,5,6,7,8] (λvs hv=>za9 (by simp only[List.map];rw[hv 0 0 1000000 _ rfl rfl,hv 1 1 1000001 _ rfl rfl,hv 2 2 1000002 _ rfl rfl,hv 3 3 1000003 _ rfl rfl,hv 4 4 1000004 _ rfl rfl,hv 5 5 1000005 _ rfl rfl,hv 6 6 1000006 _ rfl rfl,hv 7 7 1000007 _ rfl rfl,hv 8 8 1000008 _ rfl rfl];rfl) (ih j 0 [] A B ok (by omega) (by simp) (by simp) (by omega) (by omega))) (Handed.clo (fs:=[.r (I _), .r (I _), .r (is [])]) (cs:=[.own 3, .own 6, .own 8, .own 4]) rfl rfl ⟨_,_,rfl,cr,_,_,rfl,cr,_,_,rfl,Cv.nil 1,rfl⟩ ⟨_,_,rfl,⟨3,1000003,rfl,rfl⟩,_,_,rfl,⟨6,1000006,rfl,rfl⟩,_,_,rfl,⟨8,1000008,rfl,rfl⟩,_,_,rfl,⟨4,1000004,rfl,rfl⟩,rfl⟩) rfl ⟨(bC bZ),(bA bZ),(bA bZ),(bA bZ),⟨_,_,rfl,rfl,rfl⟩,⟨_,_,rfl,rfl,rfl⟩,(bA bZ),(bA bZ),(bA bZ),⟨rfl,rfl,rfl,rfl,zn _⟩,⟨rfl,rfl,rfl,rfl,zn _⟩,trivial⟩ ⟨zad,zad,zad,zad,zad,zad,zad,zad,zad,zaq,zaq,trivial⟩ ?_
   exact zaw (.inr rfl) [(0,0),(1,1),(2,2),(3,3),(4,4),(5,5),(6,6),(7,7),(8,8),(9,21),(10,22)] [] [] rfl ⟨⟨rfl,rfl⟩,⟨rfl,rfl⟩,⟨rfl,rfl⟩,⟨rfl,rfl⟩,⟨rfl,rfl⟩,⟨rfl,rfl⟩,⟨rfl,rfl⟩,⟨rfl,rfl⟩,⟨rfl,rfl⟩,trivial⟩ ⟨(bC bZ),(bA bZ),(bA bZ),(bA bZ),⟨_,_,rfl,rfl,rfl⟩,⟨_,_,rfl,rfl,rfl⟩,(bA bZ),(bA bZ),(bA bZ),⟨rfl,rfl,rfl,rfl,zn _⟩,⟨rfl,rfl,rfl,rfl,zn _⟩,trivial⟩ ⟨⟨1000000,rfl⟩,⟨1000001,rfl⟩,⟨1000002,rfl⟩,⟨1000003,rfl⟩,⟨1000004,rfl⟩,⟨1000005,rfl⟩,⟨1000006,rfl⟩,⟨1000007,rfl⟩,⟨1000008,rfl⟩,trivial⟩ ⟨_,rfl,cr⟩
  |false=>
   rw[if_neg (by rw[hu];simp)]at hr
   refine zt ?_
   refine zu rfl ?_
   refine Vif.mk' (λho=>?_) (λho=>?_)
   ·rw[if_pos ⟨rfl,ho⟩]at hr
    subst hr
    refine zy ?_
    refine Vapp.mk' (j:=(B++[(nd h j:Int)]).length) (zs:=(B++[(nd h j:Int)]).map I) (by simp only[maxLen];omega) (by simp;omega) (by simp) (by rw[List.map_append];rfl) ?_
    rw[List.append_nil,Bool.and_true]
    exact zaw (.inr rfl) [(0,0),(1,1),(2,2),(3,3),(4,4),(5,5),(6,6),(7,7),(8,8),(9,9),(10,13)] [] [] rfl ⟨⟨rfl,rfl⟩,⟨rfl,rfl⟩,⟨rfl,rfl⟩,⟨rfl,rfl⟩,⟨rfl,rfl⟩,⟨rfl,rfl⟩,⟨rfl,rfl⟩,⟨rfl,rfl⟩,⟨rfl,rfl⟩,trivial⟩ ⟨(bC bZ),(bA bZ),(bA bZ),(bA bZ),⟨_,_,rfl,rfl,rfl⟩,⟨_,_,rfl,rfl,rfl⟩,(bA bZ),(bA bZ),(bA bZ),⟨rfl,rfl,rfl,rfl,zn _⟩,⟨rfl,rfl,rfl,rfl,zn _⟩,trivial⟩ ⟨⟨1000000,rfl⟩,⟨1000001,rfl⟩,⟨1000002,rfl⟩,⟨1000003,rfl⟩,⟨1000004,rfl⟩,⟨1000005,rfl⟩,⟨1000006,rfl⟩,⟨1000007,rfl⟩,⟨1000008,rfl⟩,trivial⟩ ⟨_,rfl,cr⟩
   ·rw[if_neg (by rw[ho];simp),if_pos (.inl rfl)]at hr
    subst hr
    refine zu rfl ?_
    refine zq ?_
    refine zj [(0,0),(1,1),(2,2),(3,3),(4,4),(5,5),(6,6),(7,7),(8,8),(9,9),(10,10)] [0,1,2,3,4,5,6,7,8] (λvs hv=>za9 (by simp only[List.map];rw[hv 0 0 1000000 _ rfl rfl,hv 1 1 1000001 _ rfl rfl,hv 2 2 1000002 _ rfl rfl,hv 3 3 1000003 _ rfl rfl,hv 4 4 1000004 _ rfl rfl,hv 5 5 1000005 _ rfl rfl,hv 6 6 1000006 _ rfl rfl,hv 7 7 1000007 _ rfl rfl,hv 8 8 1000008 _ rfl rfl];rfl) (ih j 1 [] A B ok (by omega) (by simp) (by simp) (by omega) (by omega))) (Handed.clo (fs:=[.r (I _), .r (I _), .r (is [])]) (cs:=[.own 3, .own 6, .own 8, .own 4]) rfl rfl ⟨_,_,rfl,cr,_,_,rfl,cr,_,_,rfl,Cv.nil 1,rfl⟩ ⟨_,_,rfl,⟨3,1000003,rfl,rfl⟩,_,_,rfl,⟨6,1000006,rfl,rfl⟩,_,_,rfl,⟨8,1000008,rfl,rfl⟩,_,_,rfl,⟨4,1000004,rfl,rfl⟩,rfl⟩) rfl ⟨(bC bZ),(bA bZ),(bA bZ),(bA bZ),⟨_,_,rfl,rfl,rfl⟩,⟨_,_,rfl,rfl,rfl⟩,(bA bZ),(bA bZ),(bA bZ),⟨rfl,rfl,rfl,rfl,zn _⟩,⟨rfl,rfl,rfl,rfl,zn _⟩,trivial⟩ ⟨zad,zad,zad,zad,zad,zad,zad,zad,zad,zaq,zaq,trivial⟩ ?_
    exact zaw (.inr rfl) [(0,0),(1,1),(2,2),(3,3),(4,4),(5,5),(6,6),(7,7),(8,8),(9,21),(10,22)] [] [] rfl ⟨⟨rfl,rfl⟩,⟨rfl,rfl⟩,⟨rfl,rfl⟩,⟨rfl,rfl⟩,⟨rfl,rfl⟩,⟨rfl,rfl⟩,⟨rfl,rfl⟩,⟨rfl,rfl⟩,⟨rfl,rfl⟩,trivial⟩ ⟨(bC bZ),(bA bZ),(bA bZ),(bA bZ),⟨_,_,rfl,rfl,rfl⟩,⟨_,_,rfl,rfl,rfl⟩,(bA bZ),(bA bZ),(bA bZ),⟨rfl,rfl,rfl,rfl,zn _⟩,⟨rfl,rfl,rfl,rfl,zn _⟩,trivial⟩ ⟨⟨1000000,rfl⟩,⟨1000001,rfl⟩,⟨1000002,rfl⟩,⟨1000003,rfl⟩,⟨1000004,rfl⟩,⟨1000005,rfl⟩,⟨1000006,rfl⟩,⟨1000007,rfl⟩,⟨1000008,rfl⟩,trivial⟩ ⟨_,rfl,cr⟩
 rw[if_neg (λhh=>h0 hh.1),if_neg (λhh=>h0 hh.1)]at hr
 refine zw (by simp only[zb];omega) (zt ?_)
 refine zw (by simp only[zb];omega) (zt ?_)
 refine zw (by simp only[zb];omega) ?_
 by_cases h1:how=1/\n.kind.toNat=0
 ·rw[if_pos (.inr h1)]at hr
  subst hr
  refine zu (by simp only[zb];omega) ?_
  refine zu (by simp only[zb];omega) ?_
  refine zq ?_
  refine zj [(0,0),(1,1),(2,2),(3,3),(4,4),(5,5),(6,6),(7,7),(8,8),(9,9),(10,10)] [0,1,2,3,4,5,6,7,8] (λvs hv=>za9 (by simp only[List.map];rw[hv 0 0 1000000 _ rfl rfl,hv 1 1 1000001 _ rfl rfl,hv 2 2 1000002 _ rfl rfl,hv 3 3 1000003 _ rfl rfl,hv 4 4 1000004 _ rfl rfl,hv 5 5 1000005 _ rfl rfl,hv 6 6 1000006 _ rfl rfl,hv 7 7 1000007 _ rfl rfl,hv 8 8 1000008 _ rfl rfl];rfl) (ih j 1 [] A B ok (by omega) (by simp) (by simp) (by omega) (by omega))) (Handed.clo (fs:=[.r (I _), .r (I _), .r (is [])]) (cs:=[.own 3, .own 6, .own 8, .own 4]) rfl rfl ⟨_,_,rfl,cr,_,_,rfl,cr,_,_,rfl,Cv.nil 1,rfl⟩ ⟨_,_,rfl,⟨3,1000003,rfl,rfl⟩,_,_,rfl,⟨6,1000006,rfl,rfl⟩,_,_,rfl,⟨8,1000008,rfl,rfl⟩,_,_,rfl,⟨4,1000004,rfl,rfl⟩,rfl⟩) rfl ⟨(bC bZ),(bA bZ),(bA bZ),(bA bZ),⟨_,_,rfl,rfl,rfl⟩,⟨_,_,rfl,rfl,rfl⟩,(bA bZ),(bA bZ),(bA bZ),⟨rfl,rfl,rfl,rfl,zn _⟩,⟨rfl,rfl,rfl,rfl,zn _⟩,trivial⟩ ⟨zad,zad,zad,zad,zad,zad,zad,zad,zad,zaq,zaq,trivial⟩ ?_
  exact zaw (.inr rfl) [(0,0),(1,1),(2,2),(3,3),(4,4),(5,5),(6,6),(7,7),(8,8),(9,21),(10,22)] [] [] rfl ⟨⟨rfl,rfl⟩,⟨rfl,rfl⟩,⟨rfl,rfl⟩,⟨rfl,rfl⟩,⟨rfl,rfl⟩,⟨rfl,rfl⟩,⟨rfl,rfl⟩,⟨rfl,rfl⟩,⟨rfl,rfl⟩,trivial⟩ ⟨(bC bZ),(bA bZ),(bA bZ),(bA bZ),⟨_,_,rfl,rfl,rfl⟩,⟨_,_,rfl,rfl,rfl⟩,(bA bZ),(bA bZ),(bA bZ),⟨rfl,rfl,rfl,rfl,zn _⟩,⟨rfl,rfl,rfl,rfl,zn _⟩,trivial⟩ ⟨⟨1000000,rfl⟩,⟨1000001,rfl⟩,⟨1000002,rfl⟩,⟨1000003,rfl⟩,⟨1000004,rfl⟩,⟨1000005,rfl⟩,⟨1000006,rfl⟩,⟨1000007,rfl⟩,⟨1000008,rfl⟩,trivial⟩ ⟨_,rfl,cr⟩
 rw[if_neg (λhh=>hh.elim h0 h1)]at hr
 by_cases h11:how=1
 ·refine zu (by simp only[zb];omega) ?_
  refine zw (by simp only[zb];omega) ?_
  refine zt ?_
  refine ze (zr1 late (nd h j) (by omega) hd) ?_
  cases hu:late.any (λu=>za2 (2*u) (nd h j))with
  |true=>
   rw[if_pos hu]at hr
   subst hr
   refine zq ?_
   refine zj [(0,0),(1,1),(2,2),(3,3),(4,4),(5,5),(6,6),(7,7),(8,8),(9,9),(10,10)] [0,1,2,3,4,5,6,7,8] (λvs hv=>za9 (by simp only[List.map];rw[hv 0 0 1000000 _ rfl rfl,hv 1 1 1000001 _ rfl rfl,hv 2 2 1000002 _ rfl rfl,hv 3 3 1000003 _ rfl rfl,hv 4 4 1000004 _ rfl rfl,hv 5 5 1000005 _ rfl rfl,hv 6 6 1000006 _ rfl rfl,hv 7 7 1000007 _ rfl rfl,hv 8 8 1000008 _ rfl rfl];rfl) (ih j 2 late A B ok (by omega) hl hd (by omega) (by omega))) (Handed.clo (fs:=[.r (I _), .r (I _), .r (is late)]) (cs:=[.own 3, .own 6, .own 8, .own 4]) rfl rfl ⟨_,_,rfl,cr,_,_,rfl,cr,_,_,rfl,cr,rfl⟩ ⟨_,_,rfl,⟨3,1000003,rfl,rfl⟩,_,_,rfl,⟨6,1000006,rfl,rfl⟩,_,_,rfl,⟨8,1000008,rfl,rfl⟩,_,_,rfl,⟨4,1000004,rfl,rfl⟩,rfl⟩) rfl ⟨(bC bZ),(bA bZ),(bA bZ),(bA bZ),⟨_,_,rfl,rfl,rfl⟩,⟨_,_,rfl,rfl,rfl⟩,(bA bZ),(bA bZ),(bA bZ),⟨rfl,rfl,rfl,rfl,zn _⟩,⟨rfl,rfl,rfl,rfl,zn _⟩,trivial⟩ ⟨zad,zad,zad,zad,zad,zad,zad,zad,zad,zaq,zaq,trivial⟩ ?_
   exact zaw (.inr rfl) [(0,0),(1,1),(2,2),(3,3),(4,4),(5,5),(6,6),(7,7),(8,8),(9,21),(10,22)] [] [] rfl ⟨⟨rfl,rfl⟩,⟨rfl,rfl⟩,⟨rfl,rfl⟩,⟨rfl,rfl⟩,⟨rfl,rfl⟩,⟨rfl,rfl⟩,⟨rfl,rfl⟩,⟨rfl,rfl⟩,⟨rfl,rfl⟩,trivial⟩ ⟨(bC bZ),(bA bZ),(bA bZ),(bA bZ),⟨_,_,rfl,rfl,rfl⟩,⟨_,_,rfl,rfl,rfl⟩,(bA bZ),(bA bZ),(bA bZ),⟨rfl,rfl,rfl,rfl,zn _⟩,⟨rfl,rfl,rfl,rfl,zn _⟩,trivial⟩ ⟨⟨1000000,rfl⟩,⟨1000001,rfl⟩,⟨1000002,rfl⟩,⟨1000003,rfl⟩,⟨1000004,rfl⟩,⟨1000005,rfl⟩,⟨1000006,rfl⟩,⟨1000007,rfl⟩,⟨1000008,rfl⟩,trivial⟩ ⟨_,rfl,cr⟩
  |false=>
   rw[if_neg (by rw[hu];simp)]at hr
   subst hr
   refine zt ?_
   refine zy ?_
   refine Vapp.mk' (j:=(B++[(nd h j:Int)]).length) (zs:=(B++[(nd h j:Int)]).map I) (by simp only[maxLen];omega) (by simp;omega) (by simp) (by rw[List.map_append];rfl) ?_
   rw[List.append_nil,Bool.and_true]
   exact zaw (.inr rfl) [(0,0),(1,1),(2,2),(3,3),(4,4),(5,5),(6,6),(7,7),(8,8),(9,9),(10,13)] [] [] rfl ⟨⟨rfl,rfl⟩,⟨rfl,rfl⟩,⟨rfl,rfl⟩,⟨rfl,rfl⟩,⟨rfl,rfl⟩,⟨rfl,rfl⟩,⟨rfl,rfl⟩,⟨rfl,rfl⟩,⟨rfl,rfl⟩,trivial⟩ ⟨(bC bZ),(bA bZ),(bA bZ),(bA bZ),⟨_,_,rfl,rfl,rfl⟩,⟨_,_,rfl,rfl,rfl⟩,(bA bZ),(bA bZ),(bA bZ),⟨rfl,rfl,rfl,rfl,zn _⟩,⟨rfl,rfl,rfl,rfl,zn _⟩,trivial⟩ ⟨⟨1000000,rfl⟩,⟨1000001,rfl⟩,⟨1000002,rfl⟩,⟨1000003,rfl⟩,⟨1000004,rfl⟩,⟨1000005,rfl⟩,⟨1000006,rfl⟩,⟨1000007,rfl⟩,⟨1000008,rfl⟩,trivial⟩ ⟨_,rfl,cr⟩
 ·refine zw (by simp only[zb];omega) ?_
  refine zt ?_
  refine ze (zr1 late (nd h j) (by omega) hd) ?_
  cases hu:late.any (λu=>za2 (2*u) (nd h j))with
  |true=>
   rw[if_pos hu]at hr
   subst hr
   refine zq ?_
   refine zj [(0,0),(1,1),(2,2),(3,3),(4,4),(5,5),(6,6),(7,7),(8,8),(9,9),(10,10)] [0,1,2,3,4,5,6,7,8] (λvs hv=>za9 (by simp only[List.map];rw[hv 0 0 1000000 _ rfl rfl,hv 1 1 1000001 _ rfl rfl,hv 2 2 1000002 _ rfl rfl,hv 3 3 1000003 _ rfl rfl,hv 4 4 1000004 _ rfl rfl,hv 5 5 1000005 _ rfl rfl,hv 6 6 1000006 _ rfl rfl,hv 7 7 1000007 _ rfl rfl,hv 8 8 1000008 _ rfl rfl];rfl) (ih j 2 late A B ok (by omega) hl hd (by omega) (by omega))) (Handed.clo (fs:=[.r (I _), .r (I _), .r (is late)]) (cs:=[.own 3, .own 6, .own 8, .own 4]) rfl rfl ⟨_,_,rfl,cr,_,_,rfl,cr,_,_,rfl,cr,rfl⟩ ⟨_,_,rfl,⟨3,1000003,rfl,rfl⟩,_,_,rfl,⟨6,1000006,rfl,rfl⟩,_,_,rfl,⟨8,1000008,rfl,rfl⟩,_,_,rfl,⟨4,1000004,rfl,rfl⟩,rfl⟩) rfl ⟨(bC bZ),(bA bZ),(bA bZ),(bA bZ),⟨_,_,rfl,rfl,rfl⟩,⟨_,_,rfl,rfl,rfl⟩,(bA bZ),(bA bZ),(bA bZ),⟨rfl,rfl,rfl,rfl,zn _⟩,⟨rfl,rfl,rfl,rfl,zn _⟩,trivial⟩ ⟨zad,zad,zad,zad,zad,zad,zad,zad,zad,zaq,zaq,trivial⟩ ?_
   exact zaw (.inr rfl) [(0,0),(1,1),(2,2),(3,3),(4,4),(5,5),(6,6),(7,7),(8,8),(9,21),(10,22)] [] [] rfl ⟨⟨rfl,rfl⟩,⟨rfl,rfl⟩,⟨rfl,rfl⟩,⟨rfl,rfl⟩,⟨rfl,rfl⟩,⟨rfl,rfl⟩,⟨rfl,rfl⟩,⟨rfl,rfl⟩,⟨rfl,rfl⟩,trivial⟩ ⟨(bC bZ),(bA bZ),(bA bZ),(bA bZ),⟨_,_,rfl,rfl,rfl⟩,⟨_,_,rfl,rfl,rfl⟩,(bA bZ),(bA bZ),(bA bZ),⟨rfl,rfl,rfl,rfl,zn _⟩,⟨rfl,rfl,rfl,rfl,zn _⟩,trivial⟩ ⟨⟨1000000,rfl⟩,⟨1000001,rfl⟩,⟨1000002,rfl⟩,⟨1000003,rfl⟩,⟨1000004,rfl⟩,⟨1000005,rfl⟩,⟨1000006,rfl⟩,⟨1000007,rfl⟩,⟨1000008,rfl⟩,trivial⟩ ⟨_,rfl,cr⟩
  |false=>
   rw[if_neg (by rw[hu];simp)]at hr
   subst hr
   refine zt ?_
   refine zy ?_
   refine Vapp.mk' (j:=(B++[(nd h j:Int)]).length) (zs:=(B++[(nd h j:Int)]).map I) (by simp only[maxLen];omega) (by simp;omega) (by simp) (by rw[List.map_append];rfl) ?_
   rw[List.append_nil,Bool.and_true]
   exact zaw (.inr rfl) [(0,0),(1,1),(2,2),(3,3),(4,4),(5,5),(6,6),(7,7),(8,8),(9,9),(10,13)] [] [] rfl ⟨⟨rfl,rfl⟩,⟨rfl,rfl⟩,⟨rfl,rfl⟩,⟨rfl,rfl⟩,⟨rfl,rfl⟩,⟨rfl,rfl⟩,⟨rfl,rfl⟩,⟨rfl,rfl⟩,⟨rfl,rfl⟩,trivial⟩ ⟨(bC bZ),(bA bZ),(bA bZ),(bA bZ),⟨_,_,rfl,rfl,rfl⟩,⟨_,_,rfl,rfl,rfl⟩,(bA bZ),(bA bZ),(bA bZ),⟨rfl,rfl,rfl,rfl,zn _⟩,⟨rfl,rfl,rfl,rfl,zn _⟩,trivial⟩ ⟨⟨1000000,rfl⟩,⟨1000001,rfl⟩,⟨1000002,rfl⟩,⟨1000003,rfl⟩,⟨1000004,rfl⟩,⟨1000005,rfl⟩,⟨1000006,rfl⟩,⟨1000007,rfl⟩,⟨1000008,rfl⟩,trivial⟩ ⟨_,rfl,cr⟩
set_option maxHeartbeats 4000000 in
theorem VC.visit_zero(c:VC)(hO: ∀x n,zaf c.O x=some n->n.par.late.length<=100000000/\∀u∈n.par.late,za6 u)(hi0:0<=c.i/\c.i<65536)(k how:Nat)(late A B:List Int)(ok:Bool)(hk:k<2^(16-0))(hl:late.length<=100000000)(hd: ∀u∈late,za6 u)(hA:A.length+2^(0+1)<=1000000)(hB:B.length+2^(0+1)<=1000000)(r:V3)
  (hr:r=visV c.O c.i c.only 0 k how late):
  Acts bP 161 11 (c.mem A B ok) [.r (I (nd 0 k)), .r (I how), .r (is late), .own 3, .own 6, .own 8, .own 4] c.nms 11 (c.mem (A++r.1) (B++r.2.1) (ok&&r.2.2)) (.r (.tu [])):=by
 refine zaz (T:=Tab) mixed Tab_ok Tryz.func161 rfl (by kernel_rfl) rfl (c.same _ _ _ _ _ _) ?_
 refine zj [(0,0)] [0] (λvs _=>g_at (vs 0) c.leaves c.own c.O c.H (nd 0 k:Int)) (Handed.clo (fs:=[.r (I _)]) (cs:=[.own 0]) rfl rfl ⟨_,_,rfl,cr,rfl⟩ ⟨_,_,rfl,⟨0,1000000,rfl,rfl⟩,rfl⟩) rfl ⟨(bC bZ),trivial⟩ ⟨zad,trivial⟩ ?_
 cases hn:zaf c.O (nd 0 k:Int)with
 |none=>
  rw[show found c.O (nd 0 k:Int)=false by unfold found;rw[hn];rfl]
  simp only[visV,hn]at hr
  refine zu rfl (zq ?_)
  have e1:A++r.1=A:=by rw[hr];simp
  have e2:B++r.2.1=B:=by rw[hr];simp
  have e3:(ok&&r.2.2)=false:=by rw[hr];simp
  rw[e1,e2,e3]
  exact zaw (.inl rfl) [(0,0),(1,1),(2,2),(3,3),(4,4),(5,5),(6,6),(7,7),(8,8),(9,9),(10,10)] [] [] rfl ⟨⟨rfl,rfl⟩,⟨rfl,rfl⟩,⟨rfl,rfl⟩,⟨rfl,rfl⟩,⟨rfl,rfl⟩,⟨rfl,rfl⟩,⟨rfl,rfl⟩,⟨rfl,rfl⟩,⟨rfl,rfl⟩,trivial⟩ ⟨(bC bZ),(bA bZ),(bA bZ),(bA bZ),⟨_,_,rfl,rfl,rfl⟩,⟨_,_,rfl,rfl,rfl⟩,(bA bZ),(bA bZ),(bA bZ),⟨rfl,rfl,rfl,rfl,zn _⟩,⟨rfl,rfl,rfl,rfl,zn _⟩,trivial⟩ ⟨⟨1000000,rfl⟩,⟨1000001,rfl⟩,⟨1000002,rfl⟩,⟨1000003,rfl⟩,⟨1000004,rfl⟩,⟨1000005,rfl⟩,⟨1000006,rfl⟩,⟨1000007,rfl⟩,⟨1000008,rfl⟩,trivial⟩ ⟨_,rfl,cr⟩
 |some n=>
  rw[show found c.O (nd 0 k:Int)=true by unfold found;rw[hn];rfl,show zdo c.O (nd 0 k:Int)=n by unfold zdo;rw[hn];rfl]
  simp only[visV,hn]at hr
  refine zw rfl (zt ?_)
  by_cases h1:how=1
  ·refine zu (by simp only[zb];omega) (zq ?_)
   refine⟨by decide,_,rfl,?_⟩
   refine zw (by rw[zcn];rfl) (zt ?_)
   refine zy ?_
   refine Vapp.mk' (j:=(A++[(nd 0 k:Int)]).length) (zs:=(A++[(nd 0 k:Int)]).map I) (by simp only[maxLen,bL];omega) (by simp;omega) (by rw[bL (bs:=[_])];rfl) (List.map_append (f:=I) (l₁:=A) (l₂:=[(nd 0 k:Int)])).symm ?_
   refine⟨by decide,_,rfl,?_⟩
   refine zw (by rw[zcn];rfl) (zt ?_)
   have e1:A++r.1=A++[(nd 0 k:Int)]:=by rw[hr]
   have e2:B++r.2.1=B:=by rw[hr];simp
   have e3:(ok&&r.2.2)=ok:=by rw[hr];simp
   rw[e1,e2,e3]
   exact zaw (.inr rfl) [(0,0),(1,1),(2,2),(3,3),(4,4),(5,5),(6,6),(7,7),(8,8),(9,15),(10,10)] [] [] rfl ⟨⟨rfl,rfl⟩,⟨rfl,rfl⟩,⟨rfl,rfl⟩,⟨rfl,rfl⟩,⟨rfl,rfl⟩,⟨rfl,rfl⟩,⟨rfl,rfl⟩,⟨rfl,rfl⟩,⟨rfl,rfl⟩,trivial⟩ ⟨(bC bZ),(bA bZ),(bA bZ),(bA bZ),⟨_,_,rfl,rfl,rfl⟩,⟨_,_,rfl,rfl,rfl⟩,(bA bZ),(bA bZ),(bA bZ),⟨rfl,rfl,rfl,rfl,zn _⟩,⟨rfl,rfl,rfl,rfl,zn _⟩,trivial⟩ ⟨⟨1000000,rfl⟩,⟨1000001,rfl⟩,⟨1000002,rfl⟩,⟨1000003,rfl⟩,⟨1000004,rfl⟩,⟨1000005,rfl⟩,⟨1000006,rfl⟩,⟨1000007,rfl⟩,⟨1000008,rfl⟩,trivial⟩ ⟨_,rfl,cr⟩
  ·refine zw (by simp only[zb];omega) (zt ?_)
   refine⟨by decide,_,rfl,?_⟩
   refine zw (by rw[zcn];rfl) (zt ?_)
   refine zy ?_
   refine Vapp.mk' (j:=(A++[(nd 0 k:Int)]).length) (zs:=(A++[(nd 0 k:Int)]).map I) (by simp only[maxLen,bL];omega) (by simp;omega) (by rw[bL (bs:=[_])];rfl) (List.map_append (f:=I) (l₁:=A) (l₂:=[(nd 0 k:Int)])).symm ?_
   refine⟨by decide,_,rfl,?_⟩
   refine zw (by rw[zcn];rfl) (zt ?_)
   have e1:A++r.1=A++[(nd 0 k:Int)]:=by rw[hr]
   have e2:B++r.2.1=B:=by rw[hr];simp
   have e3:(ok&&r.2.2)=ok:=by rw[hr];simp
   rw[e1,e2,e3]
   exact zaw (.inr rfl) [(0,0),(1,1),(2,2),(3,3),(4,4),(5,5),(6,6),(7,7),(8,8),(9,15),(10,10)] [] [] rfl ⟨⟨rfl,rfl⟩,⟨rfl,rfl⟩,⟨rfl,rfl⟩,⟨rfl,rfl⟩,⟨rfl,rfl⟩,⟨rfl,rfl⟩,⟨rfl,rfl⟩,⟨rfl,rfl⟩,⟨rfl,rfl⟩,trivial⟩ ⟨(bC bZ),(bA bZ),(bA bZ),(bA bZ),⟨_,_,rfl,rfl,rfl⟩,⟨_,_,rfl,rfl,rfl⟩,(bA bZ),(bA bZ),(bA bZ),⟨rfl,rfl,rfl,rfl,zn _⟩,⟨rfl,rfl,rfl,rfl,zn _⟩,trivial⟩ ⟨⟨1000000,rfl⟩,⟨1000001,rfl⟩,⟨1000002,rfl⟩,⟨1000003,rfl⟩,⟨1000004,rfl⟩,⟨1000005,rfl⟩,⟨1000006,rfl⟩,⟨1000007,rfl⟩,⟨1000008,rfl⟩,trivial⟩ ⟨_,rfl,cr⟩
set_option maxHeartbeats 4000000 in
theorem VC.visit_up(c:VC)(hO: ∀x n,zaf c.O x=some n->n.par.late.length<=100000000/\∀u∈n.par.late,za6 u)(hi0:0<=c.i/\c.i<65536)(h:Nat)(hh:h+1<=16)(ih:c.Vis h)(k how:Nat)(late A B:List Int)(ok:Bool)(hk:k<2^(16-(h+1)))(hl:late.length<=100000000)(hd: ∀u∈late,za6 u)(hA:A.length+2^((h+1)+1)<=1000000)(hB:B.length+2^((h+1)+1)<=1000000)(r:V3)
  (hr:r=visV c.O c.i c.only (h+1) k how late):
  Acts bP 161 11 (c.mem A B ok) [.r (I (nd (h+1) k)), .r (I how), .r (is late), .own 3, .own 6, .own 8, .own 4] c.nms 11 (c.mem (A++r.1) (B++r.2.1) (ok&&r.2.2)) (.r (.tu [])):=by
 refine zaz (T:=Tab) mixed Tab_ok Tryz.func161 rfl (by kernel_rfl) rfl (c.same _ _ _ _ _ _) ?_
 have hleft:=zd4 (d:=16) (by omega) (show h+1<=16 by omega) hk
 have hright:=zdn (d:=16) (by omega) (show h+1<=16 by omega) hk
 have hk2:2^(16-h)=2*2^(16-(h+1)):=by rw[show 16-h=(16-(h+1))+1 by omega,Nat.pow_succ];omega
 have hp:2<=2^(h+1):=by rw[Nat.pow_succ];have:0<2^h:=Nat.pow_pos (by omega);omega
 have hp2:2^(h+1+1)=2*2^(h+1):=by rw[Nat.pow_succ 2 (h+1)];omega
 refine zj [(0,0)] [0] (λvs _=>g_at (vs 0) c.leaves c.own c.O c.H (nd (h+1) k:Int)) (Handed.clo (fs:=[.r (I _)]) (cs:=[.own 0]) rfl rfl ⟨_,_,rfl,cr,rfl⟩ ⟨_,_,rfl,⟨0,1000000,rfl,rfl⟩,rfl⟩) rfl ⟨(bC bZ),trivial⟩ ⟨zad,trivial⟩ ?_
 cases hn:zaf c.O (nd (h+1) k:Int)with
 |none=>
  rw[show found c.O (nd (h+1) k:Int)=false by unfold found;rw[hn];rfl]
  simp only[visV,hn]at hr
  refine zu rfl (zq ?_)
  have e1:A++r.1=A:=by rw[hr];simp
  have e2:B++r.2.1=B:=by rw[hr];simp
  have e3:(ok&&r.2.2)=false:=by rw[hr];simp
  rw[e1,e2,e3]
  exact zaw (.inl rfl) [(0,0),(1,1),(2,2),(3,3),(4,4),(5,5),(6,6),(7,7),(8,8),(9,9),(10,10)] [] [] rfl ⟨⟨rfl,rfl⟩,⟨rfl,rfl⟩,⟨rfl,rfl⟩,⟨rfl,rfl⟩,⟨rfl,rfl⟩,⟨rfl,rfl⟩,⟨rfl,rfl⟩,⟨rfl,rfl⟩,⟨rfl,rfl⟩,trivial⟩ ⟨(bC bZ),(bA bZ),(bA bZ),(bA bZ),⟨_,_,rfl,rfl,rfl⟩,⟨_,_,rfl,rfl,rfl⟩,(bA bZ),(bA bZ),(bA bZ),⟨rfl,rfl,rfl,rfl,zn _⟩,⟨rfl,rfl,rfl,rfl,zn _⟩,trivial⟩ ⟨⟨1000000,rfl⟩,⟨1000001,rfl⟩,⟨1000002,rfl⟩,⟨1000003,rfl⟩,⟨1000004,rfl⟩,⟨1000005,rfl⟩,⟨1000006,rfl⟩,⟨1000007,rfl⟩,⟨1000008,rfl⟩,trivial⟩ ⟨_,rfl,cr⟩
 |some n=>
  rw[show found c.O (nd (h+1) k:Int)=true by unfold found;rw[hn];rfl,show zdo c.O (nd (h+1) k:Int)=n by unfold zdo;rw[hn];rfl]
  simp only[visV,hn]at hr
  refine zw rfl (zt ?_)
  obtain⟨hnl,hnd⟩:=hO _ n hn
  by_cases h1:how=1
  ·rw[if_pos h1]at hr
   refine zu (by simp only[zb];omega) (zq ?_)
   refine⟨by decide,_,rfl,?_⟩
   refine zu (by rw[zc4];rfl) (zq ?_)
   obtain⟨ra,hra⟩: ∃ra,ra=kidV (λj w l=>visV c.O c.i c.only h j w l) c.i c.only h how n n.par.late (2*k):=⟨_,rfl⟩
   obtain⟨rb,hrb⟩: ∃rb,rb=kidV (λj w l=>visV c.O c.i c.only h j w l) c.i c.only h how n n.par.late (2*k+1):=⟨_,rfl⟩
   have la:=zhq (b:=2^(h+1)-1) (by omega) (λj w l=>zfk c.O c.i c.only h j w l) c.i c.only h how n n.par.late (2*k)
   rw[<-hra]at la
   refine Vdraw.cut 6 (by kernel_rfl) ?_
   refine ze (zk2 _) ?_
   rw[hleft]
   refine za rfl rfl ?_
   refine zj [(0,0),(1,1),(2,2),(3,3),(4,4),(5,5),(6,6),(7,7),(8,8),(9,9),(10,10)] [0,1,2,3,4,5,6,7,8] (λvs hv=>za9 (by simp only[List.map];rw[hv 0 0 1000000 _ rfl rfl,hv 1 1 1000001 _ rfl rfl,hv 2 2 1000002 _ rfl rfl,hv 3 3 1000003 _ rfl rfl,hv 4 4 1000004 _ rfl rfl,hv 5 5 1000005 _ rfl rfl,hv 6 6 1000006 _ rfl rfl,hv 7 7 1000007 _ rfl rfl,hv 8 8 1000008 _ rfl rfl];rfl) (c.child hi0 h (by omega) ih (2*k) how n n.par.late A B ok (by omega) hnl hnd (by first|omega|(simp only[bL,List.length_cons,List.length_nil];omega)) (by first|omega|(simp only[bL];omega)) _ rfl)) (Handed.clo (fs:=[.r (I _), .r (I _), .r (.ag n.c), .r (is n.par.late)]) (cs:=[.own 1, .own 7, .own 2, .own 5]) rfl rfl ⟨_,_,rfl,cr,_,_,rfl,cr,_,_,rfl,cr,_,_,rfl,cr,rfl⟩ ⟨_,_,rfl,⟨1,1000001,rfl,rfl⟩,_,_,rfl,⟨7,1000007,rfl,rfl⟩,_,_,rfl,⟨2,1000002,rfl,rfl⟩,_,_,rfl,⟨5,1000005,rfl,rfl⟩,rfl⟩) rfl ⟨(bC bZ),(bA bZ),(bA bZ),(bA bZ),⟨_,_,rfl,rfl,rfl⟩,⟨_,_,rfl,rfl,rfl⟩,(bA bZ),(bA bZ),(bA bZ),⟨rfl,rfl,rfl,rfl,zn _⟩,⟨rfl,rfl,rfl,rfl,zn _⟩,trivial⟩ ⟨zad,zad,zad,zad,zad,zad,zad,zad,zad,zaq,zaq,trivial⟩ ?_
   rw[<-hra]
   refine zy ?_
   refine Vapp.mk' (j:=((A++ra.1)++[(nd (h+1) k:Int)]).length) (zs:=((A++ra.1)++[(nd (h+1) k:Int)]).map I) (by simp only[maxLen,bL];omega) (by simp;omega) (by rw[bL (bs:=[_])];rfl) (List.map_append (f:=I) (l₁:=(A++ra.1)) (l₂:=[(nd (h+1) k:Int)])).symm ?_
   refine⟨by decide,_,rfl,?_⟩
   refine zu (by rw[zc4];rfl) (zq ?_)
   refine Vdraw.cut 6 (by kernel_rfl) ?_
   refine ze (zjj _) ?_
   rw[hright]
   refine za rfl rfl ?_
   refine zj [(0,0),(1,1),(2,2),(3,3),(4,4),(5,5),(6,6),(7,7),(8,8),(9,26),(10,24)] [0,1,2,3,4,5,6,7,8] (λvs hv=>za9 (by simp only[List.map];rw[hv 0 0 1000000 _ rfl rfl,hv 1 1 1000001 _ rfl rfl,hv 2 2 1000002 _ rfl rfl,hv 3 3 1000003 _ rfl rfl,hv 4 4 1000004 _ rfl rfl,hv 5 5 1000005 _ rfl rfl,hv 6 6 1000006 _ rfl rfl,hv 7 7 1000007 _ rfl rfl,hv 8 8 1000008 _ rfl rfl];rfl) (c.child hi0 h (by omega) ih (2*k+1) how n n.par.late (A++ra.1++[(nd (h+1) k:Int)]) (B++ra.2.1) (ok&&ra.2.2) (by omega) hnl hnd (by first|omega|(simp only[bL,List.length_cons,List.length_nil];omega)) (by first|omega|(simp only[bL];omega)) _ rfl)) (Handed.clo (fs:=[.r (I _), .r (I _), .r (.ag n.c), .r (is n.par.late)]) (cs:=[.own 1, .own 7, .own 2, .own 5]) rfl rfl ⟨_,_,rfl,cr,_,_,rfl,cr,_,_,rfl,cr,_,_,rfl,cr,rfl⟩ ⟨_,_,rfl,⟨1,1000001,rfl,rfl⟩,_,_,rfl,⟨7,1000007,rfl,rfl⟩,_,_,rfl,⟨2,1000002,rfl,rfl⟩,_,_,rfl,⟨5,1000005,rfl,rfl⟩,rfl⟩) rfl ⟨(bC bZ),(bA bZ),(bA bZ),(bA bZ),⟨_,_,rfl,rfl,rfl⟩,⟨_,_,rfl,rfl,rfl⟩,(bA bZ),(bA bZ),(bA bZ),⟨rfl,rfl,rfl,rfl,zn _⟩,⟨rfl,rfl,rfl,rfl,zn _⟩,trivial⟩ ⟨zad,zad,zad,zad,zad,zad,zad,zad,zad,zaq,zaq,trivial⟩ ?_
   rw[<-hrb]
   have e1:A++r.1=A++ra.1++[(nd (h+1) k:Int)]++rb.1:=by rw[hr,hra,hrb];simp only[List.append_assoc]
   have e2:B++r.2.1=B++ra.2.1++rb.2.1:=by rw[hr,hra,hrb];simp only[List.append_assoc]
   have e3:(ok&&r.2.2)=((ok&&ra.2.2)&&rb.2.2):=by rw[hr,hra,hrb];simp only[Bool.and_assoc]
   rw[e1,e2,e3]
   exact zaw (.inr rfl) [(0,0),(1,1),(2,2),(3,3),(4,4),(5,5),(6,6),(7,7),(8,8),(9,36),(10,37)] [] [] rfl ⟨⟨rfl,rfl⟩,⟨rfl,rfl⟩,⟨rfl,rfl⟩,⟨rfl,rfl⟩,⟨rfl,rfl⟩,⟨rfl,rfl⟩,⟨rfl,rfl⟩,⟨rfl,rfl⟩,⟨rfl,rfl⟩,trivial⟩ ⟨(bC bZ),(bA bZ),(bA bZ),(bA bZ),⟨_,_,rfl,rfl,rfl⟩,⟨_,_,rfl,rfl,rfl⟩,(bA bZ),(bA bZ),(bA bZ),⟨rfl,rfl,rfl,rfl,zn _⟩,⟨rfl,rfl,rfl,rfl,zn _⟩,trivial⟩ ⟨⟨1000000,rfl⟩,⟨1000001,rfl⟩,⟨1000002,rfl⟩,⟨1000003,rfl⟩,⟨1000004,rfl⟩,⟨1000005,rfl⟩,⟨1000006,rfl⟩,⟨1000007,rfl⟩,⟨1000008,rfl⟩,trivial⟩ ⟨_,rfl,cr⟩
  ·rw[if_neg h1]at hr
   refine zw (by simp only[zb];omega) (zt ?_)
   refine⟨by decide,_,rfl,?_⟩
   refine zu (by rw[zc4];rfl) (zq ?_)
   obtain⟨ra,hra⟩: ∃ra,ra=kidV (λj w l=>visV c.O c.i c.only h j w l) c.i c.only h how n late (2*k):=⟨_,rfl⟩
   obtain⟨rb,hrb⟩: ∃rb,rb=kidV (λj w l=>visV c.O c.i c.only h j w l) c.i c.only h how n late (2*k+1):=⟨_,rfl⟩
   have la:=zhq (b:=2^(h+1)-1) (by omega) (λj w l=>zfk c.O c.i c.only h j w l) c.i c.only h how n late (2*k)
   rw[<-hra]at la
   refine Vdraw.cut 6 (by kernel_rfl) ?_
   refine ze (zk2 _) ?_
   rw[hleft]
   refine za rfl rfl ?_
   refine zj [(0,0),(1,1),(2,2),(3,3),(4,4),(5,5),(6,6),(7,7),(8,8),(9,9),(10,10)] [0,1,2,3,4,5,6,7,8] (λvs hv=>za9 (by simp only[List.map];rw[hv 0 0 1000000 _ rfl rfl,hv 1 1 1000001 _ rfl rfl,hv 2 2 1000002 _ rfl rfl,hv 3 3 1000003 _ rfl rfl,hv 4 4 1000004 _ rfl rfl,hv 5 5 1000005 _ rfl rfl,hv 6 6 1000006 _ rfl rfl,hv 7 7 1000007 _ rfl rfl,hv 8 8 1000008 _ rfl rfl];rfl) (c.child hi0 h (by omega) ih (2*k) how n late A B ok (by omega) hl hd (by first|omega|(simp only[bL,List.length_cons,List.length_nil];omega)) (by first|omega|(simp only[bL];omega)) _ rfl)) (Handed.clo (fs:=[.r (I _), .r (I _), .r (.ag n.c), .r (is late)]) (cs:=[.own 1, .own 7, .own 2, .own 5]) rfl rfl ⟨_,_,rfl,cr,_,_,rfl,cr,_,_,rfl,cr,_,_,rfl,cr,rfl⟩ ⟨_,_,rfl,⟨1,1000001,rfl,rfl⟩,_,_,rfl,⟨7,1000007,rfl,rfl⟩,_,_,rfl,⟨2,1000002,rfl,rfl⟩,_,_,rfl,⟨5,1000005,rfl,rfl⟩,rfl⟩) rfl ⟨(bC bZ),(bA bZ),(bA bZ),(bA bZ),⟨_,_,rfl,rfl,rfl⟩,⟨_,_,rfl,rfl,rfl⟩,(bA bZ),(bA bZ),(bA bZ),⟨rfl,rfl,rfl,rfl,zn _⟩,⟨rfl,rfl,rfl,rfl,zn _⟩,trivial⟩ ⟨zad,zad,zad,zad,zad,zad,zad,zad,zad,zaq,zaq,trivial⟩ ?_
   rw[<-hra]
   refine zy ?_
   refine Vapp.mk' (j:=((A++ra.1)++[(nd (h+1) k:Int)]).length) (zs:=((A++ra.1)++[(nd (h+1) k:Int)]).map I) (by simp only[maxLen,bL];omega) (by simp;omega) (by rw[bL (bs:=[_])];rfl) (List.map_append (f:=I) (l₁:=(A++ra.1)) (l₂:=[(nd (h+1) k:Int)])).symm ?_
   refine⟨by decide,_,rfl,?_⟩
   refine zu (by rw[zc4];rfl) (zq ?_)
   refine Vdraw.cut 6 (by kernel_rfl) ?_
   refine ze (zjj _) ?_
   rw[hright]
   refine za rfl rfl ?_
   refine zj [(0,0),(1,1),(2,2),(3,3),(4,4),(5,5),(6,6),(7,7),(8,8),(9,26),(10,24)] [0,1,2,3,4,5,6,7,8] (λvs hv=>za9 (by simp only[List.map];rw[hv 0 0 1000000 _ rfl rfl,hv 1 1 1000001 _ rfl rfl,hv 2 2 1000002 _ rfl rfl,hv 3 3 1000003 _ rfl rfl,hv 4 4 1000004 _ rfl rfl,hv 5 5 1000005 _ rfl rfl,hv 6 6 1000006 _ rfl rfl,hv 7 7 1000007 _ rfl rfl,hv 8 8 1000008 _ rfl rfl];rfl) (c.child hi0 h (by omega) ih (2*k+1) how n late (A++ra.1++[(nd (h+1) k:Int)]) (B++ra.2.1) (ok&&ra.2.2) (by omega) hl hd (by first|omega|(simp only[bL,List.length_cons,List.length_nil];omega)) (by first|omega|(simp only[bL];omega)) _ rfl)) (Handed.clo (fs:=[.r (I _), .r (I _), .r (.ag n.c), .r (is late)]) (cs:=[.own 1, .own 7, .own 2, .own 5]) rfl rfl ⟨_,_,rfl,cr,_,_,rfl,cr,_,_,rfl,cr,_,_,rfl,cr,rfl⟩ ⟨_,_,rfl,⟨1,1000001,rfl,rfl⟩,_,_,rfl,⟨7,1000007,rfl,rfl⟩,_,_,rfl,⟨2,1000002,rfl,rfl⟩,_,_,rfl,⟨5,1000005,rfl,rfl⟩,rfl⟩) rfl ⟨(bC bZ),(bA bZ),(bA bZ),(bA bZ),⟨_,_,rfl,rfl,rfl⟩,⟨_,_,rfl,rfl,rfl⟩,(bA bZ),(bA bZ),(bA bZ),⟨rfl,rfl,rfl,rfl,zn _⟩,⟨rfl,rfl,rfl,rfl,zn _⟩,trivial⟩ ⟨zad,zad,zad,zad,zad,zad,zad,zad,zad,zaq,zaq,trivial⟩ ?_
   rw[<-hrb]
   have e1:A++r.1=A++ra.1++[(nd (h+1) k:Int)]++rb.1:=by rw[hr,hra,hrb];simp only[List.append_assoc]
   have e2:B++r.2.1=B++ra.2.1++rb.2.1:=by rw[hr,hra,hrb];simp only[List.append_assoc]
   have e3:(ok&&r.2.2)=((ok&&ra.2.2)&&rb.2.2):=by rw[hr,hra,hrb];simp only[Bool.and_assoc]
   rw[e1,e2,e3]
   exact zaw (.inr rfl) [(0,0),(1,1),(2,2),(3,3),(4,4),(5,5),(6,6),(7,7),(8,8),(9,36),(10,37)] [] [] rfl ⟨⟨rfl,rfl⟩,⟨rfl,rfl⟩,⟨rfl,rfl⟩,⟨rfl,rfl⟩,⟨rfl,rfl⟩,⟨rfl,rfl⟩,⟨rfl,rfl⟩,⟨rfl,rfl⟩,⟨rfl,rfl⟩,trivial⟩ ⟨(bC bZ),(bA bZ),(bA bZ),(bA bZ),⟨_,_,rfl,rfl,rfl⟩,⟨_,_,rfl,rfl,rfl⟩,(bA bZ),(bA bZ),(bA bZ),⟨rfl,rfl,rfl,rfl,zn _⟩,⟨rfl,rfl,rfl,rfl,zn _⟩,trivial⟩ ⟨⟨1000000,rfl⟩,⟨1000001,rfl⟩,⟨1000002,rfl⟩,⟨1000003,rfl⟩,⟨1000004,rfl⟩,⟨1000005,rfl⟩,⟨1000006,rfl⟩,⟨1000007,rfl⟩,⟨1000008,rfl⟩,trivial⟩ ⟨_,rfl,cr⟩
theorem VC.visit(c:VC)(hO: ∀x n,zaf c.O x=some n->n.par.late.length<=100000000/\∀u∈n.par.late,za6 u)(hi0:0<=c.i/\c.i<65536): ∀h,h<=16->c.Vis h
 |0,_=>λk how late A B ok hk hl hd hA hB=>c.visit_zero hO hi0 k how late A B ok hk hl hd hA hB _ rfl
 |h+1,hh=>λk how late A B ok hk hl hd hA hB=>c.visit_up hO hi0 h hh (c.visit hO hi0 h (by omega)) k how late A B ok hk hl hd hA hB _ rfl
end Go.Proofs.YtoegdgbghdnnfaaGreat.Sx
